import Derived.Test.YtleoalcbgpjieaaDoorAb44
/- Maps whose keys are rows of integers and whose values are one cell: steps; from a walk in any order to a call. -/
namespace Go.Ab
set_option linter.unusedSectionVars false
set_option linter.unusedVariables false

abbrev EsG := List (List Int × SV)
/-- The entries' cells. -/
def prG : EsG → List SV
  | [] => []
  | p :: r => p.1.map (SV.int .i64) ++ p.2 :: prG r
/-- All keys are as wide as they should be. -/
structure OkG (z : ESz) (es : EsG) : Prop where
  lo : 1000000 ≤ z.n
  hi : z.n < 2000000
  v : z.vw = 1
  k0 : 0 < z.kw
  k : ∀ p ∈ es, p.1.length = z.kw
abbrev MG (z : ESz) (es : EsG) : Blk := .cells (prG es) true z
theorem prG_app : ∀ (a b : EsG), prG (a ++ b) = prG a ++ prG b
  | [], b => rfl
  | p :: a, b => by simp only [List.cons_append, prG, prG_app a b, List.append_assoc]
theorem prG_len {k : Nat} : ∀ {es : EsG}, (∀ p ∈ es, p.1.length = k) → (prG es).length = es.length * (k + 1)
  | [], _ => by simp [prG]
  | p :: es, h => by
    have h1 := h p (by simp)
    rw [prG, List.length_append, List.length_map, h1, List.length_cons, prG_len fun q hq => h q (by simp [hq]), List.length_cons, Nat.add_mul, Nat.one_mul]
    omega
theorem prG_drop {k : Nat} : ∀ {es : EsG} {i : Nat} {p : List Int × SV}, (∀ p ∈ es, p.1.length = k) → es[i]? = some p → (prG es).drop (i * (k + 1)) = p.1.map (SV.int .i64) ++ p.2 :: prG (es.drop (i + 1))
  | [], i, p, _, h => by simp at h
  | q :: es, 0, p, _, h => by simp at h; subst h; simp [prG]
  | q :: es, i + 1, p, hk, h => by
    rw [List.getElem?_cons_succ] at h
    have ih := prG_drop (fun q hq => hk q (by simp [hq])) h
    have h1 := hk q (by simp)
    have e : (i + 1) * (k + 1) = (q.1.map (SV.int .i64) ++ [q.2]).length + i * (k + 1) := by
      rw [List.length_append, List.length_map, h1, Nat.add_mul, Nat.one_mul]; simp; omega
    have e2 : prG (q :: es) = (q.1.map (SV.int .i64) ++ [q.2]) ++ prG es := by simp [prG]
    rw [e, e2, ← List.drop_drop, List.drop_left, ih, List.drop_succ_cons]
theorem entK_G {z : ESz} {es : EsG} (ok : OkG z es) {i : Nat} {p : List Int × SV} (h : es[i]? = some p) : entK z (prG es) i = p.1.map (SV.int .i64) := by
  have hk := ok.k p (List.mem_of_getElem? h)
  unfold entK
  rw [ok.v, prG_drop ok.k h, ← hk, show p.1.length = (p.1.map (SV.int .i64)).length by simp, List.take_left]
theorem entV_G {z : ESz} {es : EsG} (ok : OkG z es) {i : Nat} {p : List Int × SV} (h : es[i]? = some p) : entV z (prG es) i = [p.2] := by
  have hk := ok.k p (List.mem_of_getElem? h)
  unfold entV
  rw [ok.v, ← List.drop_drop, prG_drop ok.k h]
  conv => lhs; rw [← hk, show p.1.length = (p.1.map (SV.int .i64)).length by simp, List.drop_left]
  rfl
theorem lenG {z : ESz} {es : EsG} (ok : OkG z es) : (prG es).length / (z.kw + z.vw) = es.length := by
  rw [ok.v, prG_len ok.k]; exact Nat.mul_div_cancel _ (by omega)
theorem keysG {z : ESz} {es : EsG} (ok : OkG z es) : keysI z (prG es) = es.map (·.1) := by
  unfold keysI
  rw [lenG ok]
  refine List.ext_getElem? fun i => ?_
  by_cases hi : i < es.length
  · have hg : es[i]? = some es[i] := List.getElem?_eq_getElem hi
    simp only [List.getElem?_map, List.getElem?_range hi, hg, Option.map_some, entK_G ok hg, intsOf_map, Option.getD_some]
  · rw [List.getElem?_eq_none (by simp; omega), List.getElem?_eq_none (by simp; omega)]
theorem findG {z : ESz} {es : EsG} (ok : OkG z es) (ns : List Int) : findI z (prG es) ns = es.findIdx? fun p => p.1 == ns := by
  unfold findI
  rw [keysG ok, List.findIdx?_map]
  rfl
theorem MG_snoc (z : ESz) (es : EsG) (ns : List Int) (w : SV) : MG z (es ++ [(ns, w)]) = .cells (prG es ++ ns.map (SV.int .i64) ++ [w]) true z := by
  show Blk.cells (prG (es ++ [(ns, w)])) true z = _
  rw [prG_app]
  simp [prG]
/-- What a key holds, and where. -/
def getG (es : EsG) (ns : List Int) : Option SV := (es.find? fun p => p.1 == ns).map (·.2)
def idxG (es : EsG) (ns : List Int) : Nat := (es.findIdx? fun p => p.1 == ns).getD es.length
def putG (es : EsG) (ns : List Int) (v : SV) : EsG := match es.findIdx? fun p => p.1 == ns with
  | some j => es.set j (ns, v)
  | none => es ++ [(ns, v)]
def entG (es : EsG) (ns : List Int) (z0 : SV) : EsG := match es.findIdx? fun p => p.1 == ns with
  | some _ => es
  | none => es ++ [(ns, z0)]
theorem findIdx_G : ∀ (es : EsG) (ns : List Int), match es.findIdx? (fun p => p.1 == ns) with
    | some j => ∃ v, es[j]? = some (ns, v) ∧ getG es ns = some v
    | none => getG es ns = none ∧ ∀ p ∈ es, p.1 ≠ ns
  | [], ns => ⟨rfl, by simp⟩
  | q :: es, ns => by
    rw [List.findIdx?_cons]
    by_cases h : (q.1 == ns) = true
    · rw [if_pos h]
      refine ⟨q.2, ?_, by unfold getG; rw [List.find?_cons, h]; rfl⟩
      have : q.1 = ns := by simpa using h
      rw [← this]; rfl
    · rw [if_neg h]
      have ih := findIdx_G es ns
      have e : getG (q :: es) ns = getG es ns := by
        unfold getG
        rw [List.find?_cons]
        simp only [h]
      rw [e]
      cases hf : es.findIdx? (fun p => p.1 == ns) with
      | none =>
        rw [hf] at ih
        refine ⟨ih.1, fun p hp => ?_⟩
        rcases List.mem_cons.1 hp with rfl | hp
        · simpa using h
        · exact ih.2 p hp
      | some j =>
        rw [hf] at ih
        obtain ⟨v, a, b⟩ := ih
        exact ⟨v, by simpa using a, b⟩
theorem OkG.app {z : ESz} {es : EsG} (ok : OkG z es) {ns : List Int} (hn : ns.length = z.kw) (v : SV) : OkG z (es ++ [(ns, v)]) :=
  ⟨ok.lo, ok.hi, ok.v, ok.k0, fun p hp => by
    rcases List.mem_append.1 hp with h | h
    · exact ok.k p h
    · simp only [List.mem_singleton] at h; subst h; exact hn⟩
theorem OkG.set {z : ESz} {es : EsG} (ok : OkG z es) {ns : List Int} (hn : ns.length = z.kw) (v : SV) (j : Nat) : OkG z (es.set j (ns, v)) :=
  ⟨ok.lo, ok.hi, ok.v, ok.k0, fun p hp => by
    rcases List.mem_or_eq_of_mem_set hp with h | h
    · exact ok.k p h
    · subst h; exact hn⟩
theorem OkG.put {z : ESz} {es : EsG} (ok : OkG z es) {ns : List Int} (hn : ns.length = z.kw) (v : SV) : OkG z (putG es ns v) := by
  unfold putG
  split
  · exact ok.set hn v _
  · exact ok.app hn v
theorem OkG.ent {z : ESz} {es : EsG} (ok : OkG z es) {ns : List Int} (hn : ns.length = z.kw) (v : SV) : OkG z (entG es ns v) := by
  unfold entG
  split
  · exact ok
  · exact ok.app hn v
theorem splice_G {z : ESz} {es : EsG} (ok : OkG z es) {j : Nat} {p : List Int × SV} (h : es[j]? = some p) (v : SV) : splice (prG es) (j * (z.kw + z.vw) + z.kw) [v] = prG (es.set j (p.1, v)) := by
  obtain ⟨hj, rfl⟩ := List.getElem?_eq_some_iff.1 h
  have e : es = es.take j ++ es[j] :: es.drop (j + 1) := by
    conv => lhs; rw [← List.take_append_drop j es]
    rw [List.drop_eq_getElem_cons hj]
  have hk := ok.k es[j] (List.getElem_mem hj)
  have hl : (prG (es.take j)).length = j * (z.kw + 1) := by
    rw [prG_len (k := z.kw) fun q hq => ok.k q (List.mem_of_mem_take hq), List.length_take, Nat.min_eq_left (by omega)]
  have e1 : prG es = (prG (es.take j) ++ es[j].1.map (SV.int .i64)) ++ ([es[j].2] ++ prG (es.drop (j + 1))) := by
    conv => lhs; rw [e]
    rw [prG_app]
    simp [prG]
  have hoff : (prG (es.take j) ++ es[j].1.map (SV.int .i64)).length = j * (z.kw + z.vw) + z.kw := by
    rw [List.length_append, hl, List.length_map, hk, ok.v]
  have e2 : es.set j (es[j].1, v) = es.take j ++ (es[j].1, v) :: es.drop (j + 1) := by
    rw [List.set_eq_take_append_cons_drop, if_pos hj]
  rw [e2, prG_app]
  unfold splice
  rw [← hoff, e1, List.take_left, ← List.drop_drop, List.drop_left]
  simp [prG]
section
variable {FT : FuncId → Option AFun} {HK : FuncId → Option Hook} {E : Env} {h : Heap} {K : Env → Heap → Prop} {d : Option Nat} {r : List AOp} {x y v s : AO} {z : ESz} {es : EsG} {id : Nat} {kv : AV} {ns : List Int}
theorem g_mpL {z0 : SV} (ok : OkG z es) (hx : evS E x = some (.mapv id)) (hL : h[id]? = some (MG z es)) (hy : ev E y = some kv) (hkv : mpOK kv = some (ns.map (SV.int .i64))) (hn : ns.length = z.kw)
    (hw : wOps FT HK r (bindE d (some (.sc ((getG es ns).getD z0))) E) h K) : wOps FT HK (⟨d, .mpL z [z0] false x y, none⟩ :: r) E h K := by
  refine op_ok rfl rfl ?_ hw
  simp only [step1, hx, hL, if_true, hy, hkv, Option.bind_some, intsOf_map, findG ok]
  rw [if_pos hn]
  have := findIdx_G es ns
  cases hf : es.findIdx? (fun p => p.1 == ns) with
  | none => rw [hf] at this; simp only [] at this; rw [this.1]; rfl
  | some j =>
    rw [hf] at this
    obtain ⟨w, a, b⟩ := this
    rw [b]
    simp only [entV_G ok a]
    rfl
theorem g_mpU {w : SV} (ok : OkG z es) (hx : evS E x = some (.mapv id)) (hL : h[id]? = some (MG z es)) (hy : ev E y = some kv) (hkv : mpOK kv = some (ns.map (SV.int .i64))) (hn : ns.length = z.kw) (hv : ev E v = some (.sc w))
    (hw : wOps FT HK r (bindE d none E) (h.set id (MG z (putG es ns w))) K) : wOps FT HK (⟨d, .mpU z x y v, none⟩ :: r) E h K := by
  refine op_ok (v := none) (h' := h.set id (MG z (putG es ns w))) rfl rfl ?_ hw
  simp only [step1, hx, hL, if_true, hy, hkv, hv, Option.bind_some, intsOf_map, findG ok, show mpOK (.sc w) = some [w] from rfl]
  rw [if_pos ⟨hn, by rw [ok.v]; rfl⟩]
  have := findIdx_G es ns
  unfold putG
  cases hf : es.findIdx? (fun p => p.1 == ns) with
  | none => simp only [MG_snoc]
  | some j =>
    rw [hf] at this
    obtain ⟨u, a, b⟩ := this
    simp only [splice_G ok a]
theorem st_mpS {vv : AV} {vs cs : List SV} {j : Int} (hx : evS E x = some (.mapv id)) (hL : h[id]? = some (.cells cs true z)) (hs : evS E s = some (.int .i64 j)) (hv : ev E v = some vv) (ho : mpOK vv = some vs) (h0 : 0 ≤ j) (h1 : j.toNat < cs.length / (z.kw + z.vw)) (h2 : vs.length = z.vw) :
    step1 E h (.mpS z x s v) = some (none, h.set id (.cells (splice cs (j.toNat * (z.kw + z.vw) + z.kw) vs) true z)) := by
  simp only [step1, hx, hs, hL, hv, ho, Option.bind_some]
  rw [if_pos ⟨trivial, h0, h1⟩, if_pos h2]
theorem st_mpE {ks cs zero : List SV} (hx : evS E x = some (.mapv id)) (hL : h[id]? = some (.cells cs true z)) (hy : ev E y = some kv) (hkv : mpOK kv = some ks) (hns : intsOf ks = some ns) (h1 : ns.length = z.kw ∧ zero.length = z.vw ∧ cs.length % (z.kw + z.vw) = 0 ∧ 0 < z.kw) :
    step1 E h (.mpE z zero x y) = some (match findI z cs ns with
            | some j => (some (.tup [mpPV (entV z cs j), .sc (.int .i64 (j : Nat))]), h)
            | none => (some (.tup [mpPV zero, .sc (.int .i64 (cs.length / (z.kw + z.vw) : Nat))]), h.set id (.cells (cs ++ ks ++ zero) true z))) := by
  simp only [step1, hx, hL, hy, hkv, hns, if_true, Option.bind_some]
  rw [if_pos h1]
  cases findI z cs ns <;> rfl
theorem modG {es : EsG} (ok : OkG z es) : (prG es).length % (z.kw + z.vw) = 0 := by
  have hq : ∀ q : Nat, es.length * (q + 1) % (q + 1) = 0 := fun q => Nat.mul_mod_left _ _
  rw [ok.v, prG_len ok.k]; exact hq _
theorem set_self2 {b : Blk} (hL : h[id]? = some b) : h.set id b = h := by
  have hid := (List.getElem?_eq_some_iff.1 hL).1
  refine List.ext_getElem? fun j => ?_
  by_cases e : id = j
  · subst e; rw [List.getElem?_set_self hid, hL]
  · rw [List.getElem?_set_ne e]
theorem g_mpE {z0 : SV} (ok : OkG z es) (hx : evS E x = some (.mapv id)) (hL : h[id]? = some (MG z es)) (hy : ev E y = some kv) (hkv : mpOK kv = some (ns.map (SV.int .i64))) (hn : ns.length = z.kw)
    (hw : wOps FT HK r (bindE d (some (.tup [.sc ((getG es ns).getD z0), .sc (.int .i64 (idxG es ns : Nat))])) E) (h.set id (MG z (entG es ns z0))) K) : wOps FT HK (⟨d, .mpE z [z0] x y, none⟩ :: r) E h K := by
  refine op_ok rfl rfl ?_ hw
  rw [st_mpE (zero := [z0]) hx hL hy hkv (intsOf_map ns) ⟨hn, ok.v.symm, modG ok, ok.k0⟩, findG ok]
  have := findIdx_G es ns
  unfold entG idxG
  cases hf : es.findIdx? (fun p => p.1 == ns) with
  | none =>
    rw [hf] at this
    simp only []
    rw [this.1, lenG ok, MG_snoc]
    rfl
  | some j =>
    rw [hf] at this
    obtain ⟨u, a, b⟩ := this
    simp only []
    rw [b, set_self2 hL, entV_G ok a]
    rfl
theorem g_mpS {w : SV} {j : Nat} {p : List Int × SV} (ok : OkG z es) (hx : evS E x = some (.mapv id)) (hL : h[id]? = some (MG z es)) (hs : evS E s = some (.int .i64 (j : Nat))) (hj : es[j]? = some p) (hv : ev E v = some (.sc w))
    (hw : wOps FT HK r (bindE d none E) (h.set id (MG z (es.set j (p.1, w)))) K) : wOps FT HK (⟨d, .mpS z x s v, none⟩ :: r) E h K := by
  refine op_ok (v := none) (h' := h.set id (MG z (es.set j (p.1, w)))) rfl rfl ?_ hw
  have hjl := (List.getElem?_eq_some_iff.1 hj).1
  rw [st_mpS hx hL hs hv (show mpOK (.sc w) = some [w] from rfl) (Int.natCast_nonneg j) (by rw [lenG ok, Int.toNat_natCast]; exact hjl) ok.v.symm, Int.toNat_natCast, splice_G ok hj]
theorem g_mpN (ok : OkG z es) (hx : evS E x = some (.mapv id)) (hL : h[id]? = some (MG z es))
    (hw : wOps FT HK r (bindE d (some (.sc (.int .i64 (es.length : Nat)))) E) h K) : wOps FT HK (⟨d, .mpN x, none⟩ :: r) E h K := by
  refine op_ok rfl rfl ?_ hw
  simp only [step1, hx, hL, lenG ok]
theorem g_mpM (ok : OkG z []) (hw : wOps FT HK r (bindE d (some (.sc (.mapv h.length))) E) (h ++ [MG z []]) K) : wOps FT HK (⟨d, .mpM z, none⟩ :: r) E h K := by
  refine op_ok (v := some (.sc (.mapv h.length))) (h' := h ++ [MG z []]) rfl rfl ?_ hw
  simp only [step1]
  rw [if_pos ⟨ok.lo, ok.hi, Nat.ne_of_gt ok.k0⟩]
  rfl
theorem g_mpR (ok : OkG z es) (hx : evS E x = some (.mapv id)) (hL : h[id]? = some (MG z es))
    (hw : wOps FT HK r (bindE d (some (.sc (.itv h.length))) E) (h ++ [.cells (iterB id es.length []) true zIt]) K) : wOps FT HK (⟨d, .mpR x, none⟩ :: r) E h K := by
  refine op_ok rfl rfl ?_ hw
  simp only [step1, hx, hL, lenG ok]
  rfl
theorem g_mpT {it len : Nat} {seen : List Nat} {i : Nat} {p : List Int × SV} (ok : OkG z es) (hx : evS E x = some (.itv it)) (hI : h[it]? = some (.cells (iterB id len (seen ++ [i])) true zIt)) (hL : h[id]? = some (MG z es)) (hl : es.length = len) (hp : es[i]? = some p)
    (hw : wOps FT HK r (bindE d (some (.tup [mpPV (p.1.map (SV.int .i64)), .sc p.2])) E) h K) : wOps FT HK (⟨d, .mpT x, none⟩ :: r) E h K := by
  refine op_ok rfl rfl ?_ hw
  have hs : (seenV (seen ++ [i])).getLast? = some (.int .i64 (i : Nat)) := by simp [seenV]
  have hil := (List.getElem?_eq_some_iff.1 hp).1
  simp only [step1, hx, hI, iterB, hs, hL, lenG ok]
  rw [if_pos ⟨by omega, by omega, by simpa using hil⟩]
  simp only [Int.toNat_natCast, entK_G ok hp, entV_G ok hp]
  rfl
end
section
variable [Base] {P : Program} {n : Nat} {E : Env} {h : Heap} {Q : Ex → Env → Heap → Prop}
/-- The next entry of a map. -/
theorem RW.nextG {FT : FuncId → Option AFun} {HK : FuncId → Option Hook} (ok : FTok P FT) (hk : HKok P HK) {t1 : Nat} {x : AO} {rest : List AOp} {ks : List Nat} {it m : Nat} {z : ESz} {es : EsG} {seen : List Nat} (og : OkG z es)
    (hx : evS E x = some (.itv it)) (hi : h[it]? = some (.cells (iterB m es.length seen) true zIt)) (hm : h[m]? = some (MG z es))
    (hN : (∀ i, i < es.length → i ∈ seen) → wOps FT HK rest (bindE (some t1) (some (.tup [.sc (.bool false)])) E) h fun E' h' => Q .nm (E'.keep ks) h')
    (hS : ∀ i p, es[i]? = some p → i ∉ seen → wOps FT HK rest (bindE (some t1) (some (.tup [.sc (.bool true), mpPV (p.1.map (SV.int .i64)), .sc p.2])) E) (h.set it (.cells (iterB m es.length (seen ++ [i])) true zIt)) fun E' h' => Q .nm (E'.keep ks) h') :
    RW P n (.reg (⟨some t1, .mpX x, none⟩ :: rest) ks) E h Q := by
  refine RW.next ok hk (it := it) (m := m) (k := es.length) (seen := seen) (cs := prG es) (z := z) (zi := zIt) hx hi hm (lenG og) hN ?_
  intro i hil hns
  have hg : es[i]? = some es[i] := List.getElem?_eq_getElem hil
  have := hS i _ hg hns
  rw [entK_G og hg, entV_G og hg]
  exact this
/-- From a walk in any order to a call of the model. -/
theorem top_rw {FT : FuncId → Option AFun} (ok : FTok P FT) {f : FuncId} {F : AFun} (hF : FT f = some F) {args : List AV} {vs : List Value} {h : Heap} {w : World} {Ls : List Loc} (hal : args.length = F.np) (hl : Ls.length = h.length) (hn : Base.B ≤ w.heap.size ∧ ∀ b, b < Base.B → w.heap[b]? = Base.W.heap[b]?)
    (hb : ∀ (id : Nat) (L : Loc) (b : Blk), Ls[id]? = some L → h[id]? = some b → ArgB w L b) (hr : F2 (ARel fun id => Ls[id]?) args vs)
    (hw : ∀ n, RW P n F.body (params 0 args) h fun ex E' h' => (ex = .nm ∨ ex = .rt) ∧ resultsA F.res E' h' = some (.sc (.bool true))) :
    Calls P f vs.toArray w fun e w' => e = .returned (.bool true) ∧ RowKit.Below w.heap.size w w' := by
  obtain ⟨fn, h1, h2⟩ := ok.ok f F hF
  simp only [okFun, Bool.and_eq_true, decide_eq_true_eq] at h2
  obtain ⟨⟨⟨h3, h4⟩, h5⟩, h6⟩ := h2
  split at h3
  · rename_i c hc
    have hvl := hr.length
    have R0 := rep_args (w := w) hl hn hb
    refine calls_of_wp h1 hc (wp_mono (hw fn.ntmps c h3 _ w _ R0 (fun id hid => List.getElem?_eq_none (by omega)) ?_ ?_) ?_)
    · intro t u ht
      obtain ⟨-, k2⟩ := params_get args 0 t u ht
      simp at k2
      obtain ⟨cv, k3, k4⟩ := hr.get k2
      refine ⟨cv, ?_, k4⟩
      have hlt : t < vs.length := (List.getElem?_eq_some_iff.1 k3).1
      rw [Array.getElem?_append_left (by simpa using hlt)]
      simpa using k3
    · simp; omega
    · rintro x a' w' ⟨ex, E', h', β', rfl, ⟨hex, hres⟩, s1, s2, s3, s4, s5⟩
      obtain ⟨cv, r1, r2⟩ := results_run h4 s3 s2 hres
      have hcv : cv = .bool true := by
        cases r2 with
        | sc r2 => cases r2; rfl
      subst hcv
      have hbel : RowKit.Below w.heap.size w w' := ⟨s1.os, s1.tape, s1.output, s1.size, fun k hk => s1.frame k hk (by
        rintro ⟨id, L, cs, esz, hg, hL, -⟩
        obtain ⟨h4, -⟩ := (hb id L _ hL hg).cells cs true esz rfl
        simp at h4)⟩
      rcases hex with rfl | rfl
      · exact ⟨s5, _, r1, rfl, hbel⟩
      · exact ⟨s5, _, r1, rfl, hbel⟩
  · simp at h3
end
end Go.Ab

