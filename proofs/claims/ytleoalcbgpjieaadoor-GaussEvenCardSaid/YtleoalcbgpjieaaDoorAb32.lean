import Derived.Test.YtleoalcbgpjieaaDoorAb29
import Derived.Lib.AtoiAll
import Derived.Lib.AtoiAllCases
import Derived.Lib.ItoaNum
import Derived.Lib.Split
import Derived.Lib.SplitLaws
import Derived.Lib.LaidTab
import Derived.Lib.SmallJoins
import Derived.Lib.Join
import Derived.Lib.SpaceU
import Derived.Laws.AppendOwn
import Derived.Below
import Derived.Sort.Grow
import Derived.Stop.LaidErr
import Derived.LaidLaws
import Derived.FnData
/- Contracts of the library that read package variables (which hold what they held at first) or lay new rows: strings.Cut, Split, Fields, Join, strconv.Atoi, Itoa. -/
namespace Go.Ab
open Go.Sort
variable [Base]
set_option linter.unusedSectionVars false
set_option linter.unusedVariables false

/-- A string of these bytes. -/
def tb (l : List UInt8) : SV := .str ⟨l.toArray⟩
theorem tb_self (s : ByteArray) : tb s.data.toList = .str s := rfl

theorem rep_below {β : Bt} {h : Heap} {w w' : World} (R : Rep β h w) (hb : RowKit.Below w.heap.size w w') : Stp β h w β h w' ∧ Rep β h w' :=
  ⟨⟨fun _ _ h => h, fun _ _ h => .inl h, fun id h1 h2 => by omega, Nat.le_refl _, fun b hb => .inr hb, fun id L h1 h2 => by rw [h1] at h2; simp at h2, fun b h1 _ => hb.block b h1, hb.size, hb.os, hb.tape, hb.output⟩, rep_later R hb.block⟩

theorem below_drewN (w : World) (n : Nat) : RowKit.Below w.heap.size w (w.drewN n) := ⟨rfl, rfl, rfl, Nat.le_refl _, fun _ _ => rfl⟩
theorem below_grow (w : World) (os : Array Obj) : RowKit.Below w.heap.size w (grow w os) :=
  ⟨rfl, rfl, rfl, by simp [grow], fun k hk => by simp [grow, Array.getElem?_append, hk]⟩

/-- A new row that is only read. -/
theorem rep_row {β : Bt} {h : Heap} {w w' : World} (R : Rep β h w) (hf : β h.length = none) (hb : RowKit.Below w.heap.size w w') {A : Nat} (hA : w.heap.size ≤ A) {ccs : Array Value} {e : TypeId} {fz : Nat × Nat}
    (hr : w'.heap[A]? = some (.cells ccs e fz)) {cs : List SV} (hl : cs.length ≤ ccs.size) (hrel : ∀ (i : Nat) (v : SV), cs[i]? = some v → ∃ c, ccs[i]? = some c ∧ SRel β v c) :
    Stp β h w (upd β h.length ⟨A, 0, ccs.size, 1⟩) (h ++ [.cells cs false 1]) w' ∧ Rep (upd β h.length ⟨A, 0, ccs.size, 1⟩) (h ++ [.cells cs false 1]) w' := by
  have hle := upd_le (β := β) (⟨A, 0, ccs.size, 1⟩ : Loc) hf
  have hold : ∀ i, i < h.length → upd β h.length ⟨A, 0, ccs.size, 1⟩ i = β i := fun i hi => upd_other _ _ (by omega)
  have lt : ∀ (i : Nat) (x : Blk), h[i]? = some x → i < h.length := fun i x hx => (List.getElem?_eq_some_iff.1 hx).1
  have key : ∀ (i : Nat) (x : Blk), (h ++ [Blk.cells cs false 1])[i]? = some x → (i = h.length ∧ x = .cells cs false 1) ∨ (i ≠ h.length ∧ h[i]? = some x) := by
    intro i x hi
    rw [get_snoc] at hi
    split at hi
    · simp at hi; exact .inl ⟨by assumption, hi.symm⟩
    · exact .inr ⟨by assumption, hi⟩
  refine ⟨⟨hle, ?_, ?_, by simp, ?_, ?_, fun b h1 _ => hb.block b h1, hb.size, hb.os, hb.tape, hb.output⟩, ⟨?_, ?_, ?_, Nat.le_trans R.keep.1 hb.size, fun b h1 => (hb.block b (Nat.lt_of_lt_of_le h1 R.keep.1)).trans (R.keep.2 b h1)⟩⟩
  · intro i M hM
    by_cases hi : i = h.length
    · exact .inr (by simp; omega)
    · exact .inl (by rwa [upd_other _ _ hi] at hM)
  · intro i h1 h2
    have : i = h.length := by simp at h2; omega
    subst this
    exact ⟨_, upd_same _ _ _⟩
  · rintro b ⟨i, M, cs1, e1, hi, hM, rfl⟩
    rcases key _ _ hi with ⟨rfl, h1⟩ | ⟨h1, h2⟩
    · cases h1
    · rw [hold i (lt _ _ h2)] at hM
      exact .inr ⟨i, M, cs1, e1, h2, hM, rfl⟩
  · intro i M h1 h2
    by_cases hi : i = h.length
    · subst hi; rw [upd_same] at h1; simp at h1; subst h1; exact .inl hA
    · rw [upd_other _ _ hi, h2] at h1; simp at h1
  · intro i b M hi hM
    rcases key _ _ hi with ⟨rfl, rfl⟩ | ⟨h1, h2⟩
    · rw [upd_same] at hM; simp at hM; subst hM; rfl
    · rw [hold i (lt _ _ h2)] at hM
      exact R.sz i b M h2 hM
  · intro i M cs1 rw1 e1 hi hM
    rcases key _ _ hi with ⟨rfl, h1⟩ | ⟨h1, h2⟩
    · rw [upd_same] at hM; simp at hM; subst hM
      cases h1
      refine .inl ⟨by decide, rfl, ccs, e, fz, hr, rfl, by simpa using hl, fun i v hi => ?_, fun h => by simp at h, (by intro t ht; cases ht), (by intro t ht; cases ht), fun h => by simp at h⟩
      obtain ⟨c, h1, h2⟩ := hrel i v hi
      exact ⟨c, by simpa using h1, h2.mono hle⟩
    · rw [hold i (lt _ _ h2)] at hM
      have hB := R.blk i M cs1 rw1 e1 h2 hM
      exact hB.mono hle (hb.block _ hB.lt)
  · intro i j M N cs1 e1 cs2 rw2 e2 hi hj hne hM hN
    rcases key _ _ hi with ⟨rfl, h1⟩ | ⟨h1, h2⟩
    · cases h1
    · rw [hold i (lt _ _ h2)] at hM
      rcases key _ _ hj with ⟨rfl, k1⟩ | ⟨k1, k2⟩
      · rw [upd_same] at hN; simp at hN; subst hN
        have := (R.blk i M cs1 true e1 h2 hM).lt
        show M.b ≠ A
        omega
      · rw [hold j (lt _ _ k2)] at hN
        exact R.exc i j M N cs1 e1 cs2 rw2 e2 h2 k2 hne hM hN

/-- strings.Cut. -/
def cutHook : Hook := fun args h => match args with
  | [.sc (.str s), .sc (.str sep)] => if s.size < 4294967281 then
      some (.tup [.sc (tb (Lib.cut s.data.toList sep.data.toList).1), .sc (tb (Lib.cut s.data.toList sep.data.toList).2.1), .sc (.bool (Lib.cut s.data.toList sep.data.toList).2.2)], h) else none
  | _ => none
theorem cutHook_ok {P : Program} {f g : Nat} (hfn : fnIs P f = true) (hg : g < Base.B) (hm : ∃ m, Base.W.cell? ⟨g, 0, none⟩ = some (.int .i64 m))
    (hc : ∀ (s sep : ByteArray) (m : Int) (w : World), s.size < 4294967281 → w.cell? ⟨g, 0, none⟩ = some (.int .i64 m) →
      Calls P f #[.string s, .string sep] w fun e w' => e = .returned (.tuple #[.string ⟨(Lib.cut s.data.toList sep.data.toList).1.toArray⟩, .string ⟨(Lib.cut s.data.toList sep.data.toList).2.1.toArray⟩, .bool (Lib.cut s.data.toList sep.data.toList).2.2]) ∧ ∃ n, w' = w.drewN n) :
    HkOK P f cutHook where
  fn := hfn
  len := fun args h v h' hs => by
    unfold cutHook at hs
    split at hs
    · split at hs
      · simp at hs; rw [← hs.2]; exact Nat.le_refl _
      · simp at hs
    · simp at hs
  run := fun args h v h' hs β w vs hvs R hf => by
    unfold cutHook at hs
    split at hs
    · rename_i s sep
      split at hs
      · rename_i hp
        simp only [Option.some.injEq, Prod.mk.injEq] at hs
        obtain ⟨rfl, rfl⟩ := hs
        obtain ⟨m, hm⟩ := hm
        cases hvs with
        | cons h1 hvs => cases hvs with
          | cons h2 hvs =>
            cases hvs
            cases h1 with
            | sc h1 => cases h1; cases h2 with
              | sc h2 =>
                cases h2
                refine (hc s sep m w hp ((R.cell hg).trans hm)).mono ?_
                rintro e w' ⟨rfl, n, rfl⟩
                obtain ⟨s1, s2⟩ := rep_below R (below_drewN w n)
                exact ⟨β, _, rfl, .tup (.cons (.sc (.str _)) (.cons (.sc (.str _)) (.cons (.sc (.bool _)) .nil))), s1, s2⟩
      · simp at hs
    · simp at hs

/-- strings.Split. -/
def splitHook : Hook := fun args h => match args with
  | [.sc (.str s), .sc (.str sep)] => if s.size < 4294967281 ∧ 1 ≤ sep.size then
      some (.sc (.slc h.length 0 (Lib.split s.data.toList sep.data.toList).length (some (Lib.split s.data.toList sep.data.toList).length)), h ++ [.cells ((Lib.split s.data.toList sep.data.toList).map tb) true 1]) else none
  | _ => none
theorem splitHook_ok {P : Program} {f g e : Nat} (hfn : fnIs P f = true) (hg : g < Base.B) (hm : ∃ m, Base.W.cell? ⟨g, 0, none⟩ = some (.int .i64 m))
    (hc : ∀ (s sep : ByteArray) (m : Int) (w : World), s.size < 4294967281 → w.cell? ⟨g, 0, none⟩ = some (.int .i64 m) → 1 ≤ sep.size →
      Calls P f #[.string s, .string sep] w fun e' w' => e' = .returned (.slice (some ⟨w.heap.size, 0, none⟩) (Lib.countB s sep + 1) (Lib.countB s sep + 1)) ∧ w' = w.alloc (.cells ((Lib.splitB sep 0 (Lib.countB s sep) s).map Value.string).toArray e)) :
    HkOK P f splitHook where
  fn := hfn
  len := fun args h v h' hs => by
    unfold splitHook at hs
    split at hs
    · split at hs
      · simp at hs; rw [← hs.2]; simp
      · simp at hs
    · simp at hs
  run := fun args h v h' hs β w vs hvs R hf => by
    unfold splitHook at hs
    split at hs
    · rename_i s sep
      split at hs
      · rename_i hp
        simp only [Option.some.injEq, Prod.mk.injEq] at hs
        obtain ⟨rfl, rfl⟩ := hs
        obtain ⟨m, hm⟩ := hm
        cases hvs with
        | cons h1 hvs => cases hvs with
          | cons h2 hvs =>
            cases hvs
            cases h1 with
            | sc h1 => cases h1; cases h2 with
              | sc h2 =>
                cases h2
                have e1 : (Lib.splitB sep 0 (Lib.countB s sep) s).map (·.data.toList) = Lib.split s.data.toList sep.data.toList := Lib.splitB_data sep 0 _ s
                have e2 : (Lib.splitB sep 0 (Lib.countB s sep) s).length = Lib.countB s sep + 1 := Lib.splitB_all sep hp.2 0 _ s rfl
                have e3 : (Lib.split s.data.toList sep.data.toList).length = Lib.countB s sep + 1 := by rw [← e1, List.length_map, e2]
                refine (hc s sep m w hp.1 ((R.cell hg).trans hm) hp.2).mono ?_
                rintro e' w' ⟨rfl, rfl⟩
                have hfr : β h.length = none := hf _ (Nat.le_refl _) (by simp)
                obtain ⟨s1, s2⟩ := alloc_done R hfr ((Lib.splitB sep 0 (Lib.countB s sep) s).map Value.string).toArray e ((Lib.split s.data.toList sep.data.toList).map tb) 1 (fun t ht => by cases ht) (by decide) (fun h => by cases h) (by simp [e2, e3]) (fun i v hi => by
                  rw [List.getElem?_map] at hi
                  rw [← e1, List.getElem?_map] at hi
                  cases hx : (Lib.splitB sep 0 (Lib.countB s sep) s)[i]? with
                  | none => rw [hx] at hi; cases hi
                  | some x =>
                    rw [hx] at hi
                    simp only [Option.map_some, Option.some.injEq] at hi
                    subst hi
                    refine ⟨.string x, by simp [hx], .str _⟩)
                refine ⟨_, _, rfl, .sc ?_, s1, s2⟩
                rw [e3]
                refine .slc (upd_same _ _ _) (fun k hk => by cases hk; rfl) (Nat.le_refl _) (fun _ => rfl) (fun _ => ⟨Nat.le_refl _, ?_⟩) (show (1 : ESz).n < 1000000 by decide)
                simp [e2]
      · simp at hs
    · simp at hs

/-- strings.Fields. -/
def fieldsHook : Hook := fun args h => match args with
  | [.sc (.str s)] => if s.size < 4294967281 then
      some (.sc (.slc h.length 0 (Lib.fieldsD s.data.toList).length (some (Lib.fieldsD s.data.toList).length)), h ++ [.cells ((Lib.fieldsD s.data.toList).map tb) false 1]) else none
  | _ => none
theorem fieldsHook_ok {P : Program} {f t : Nat} {Q : World → Prop} (hfn : fnIs P f = true) (hQ : ∀ w : World, (∀ b, b < Base.B → w.heap[b]? = Base.W.heap[b]?) → Q w)
    (hc : ∀ (s : ByteArray) (w : World), s.size < 4294967281 → Q w →
      Calls P f #[.string s] w fun e w' => ∃ A, e = .returned (.slice (some ⟨A, 0, none⟩) (Lib.fieldsD s.data.toList).length (Lib.fieldsD s.data.toList).length) ∧ w.heap.size ≤ A ∧
        w'.ownsRow w.heap.size t 1 (.slice (some ⟨A, 0, none⟩) (Lib.fieldsD s.data.toList).length (Lib.fieldsD s.data.toList).length) (Lib.fieldsD s.data.toList).length ((Lib.fieldsD s.data.toList).map fun x => Value.string ⟨x.toArray⟩) ∧ RowKit.Below w.heap.size w w') :
    HkOK P f fieldsHook where
  fn := hfn
  len := fun args h v h' hs => by
    unfold fieldsHook at hs
    split at hs
    · split at hs
      · simp at hs; rw [← hs.2]; simp
      · simp at hs
    · simp at hs
  run := fun args h v h' hs β w vs hvs R hf => by
    unfold fieldsHook at hs
    split at hs
    · rename_i s
      split at hs
      · rename_i hp
        simp only [Option.some.injEq, Prod.mk.injEq] at hs
        obtain ⟨rfl, rfl⟩ := hs
        cases hvs with
        | cons h1 hvs =>
          cases hvs
          cases h1 with
          | sc h1 =>
            cases h1
            refine (hc s w hp (hQ w R.keep.2)).mono ?_
            rintro e w' ⟨A, rfl, hA, ho, hb⟩
            have hfr : β h.length = none := hf _ (Nat.le_refl _) (by simp)
            obtain ⟨o1, o2⟩ := ho
            rcases o2 with ⟨o3, -⟩ | ⟨g, cap, cur, o3, o4, o5, o6, o7, o8, o9⟩
            · cases o3
            · simp only [Value.slice.injEq, Option.some.injEq, Addr.mk.injEq, true_and, and_true] at o3
              obtain ⟨rfl, rfl⟩ := o3
              have hlen : ((Lib.fieldsD s.data.toList).map tb).length ≤ cur.size := by rw [List.length_map, o8, Nat.mul_one]; exact Nat.le_refl _
              obtain ⟨s1, s2⟩ := rep_row R hfr hb o4 o5 hlen (fun i v hi => by
                rw [List.getElem?_map] at hi
                cases hx : (Lib.fieldsD s.data.toList)[i]? with
                | none => rw [hx] at hi; cases hi
                | some x =>
                  rw [hx] at hi
                  simp only [Option.map_some, Option.some.injEq] at hi
                  subst hi
                  refine ⟨.string ⟨x.toArray⟩, ?_, .str _⟩
                  have h9 : (cur.toList.take ((Lib.fieldsD s.data.toList).length * 1))[i]? = some (Value.string ⟨x.toArray⟩) := by rw [o9, List.getElem?_map, hx]; rfl
                  rw [List.getElem?_take] at h9
                  split at h9
                  · simpa using h9
                  · cases h9)
              refine ⟨_, _, rfl, .sc ?_, s1, s2⟩
              refine .slc (upd_same _ _ _) (fun k hk => by cases hk; rfl) (Nat.le_refl _) (fun _ => rfl) (fun _ => ⟨Nat.le_refl _, ?_⟩) (show (1 : ESz).n < 1000000 by decide)
              simp [o8]
      · simp at hs
    · simp at hs

/-- strings.Join. -/
def strsOf : List SV → Option (List (List UInt8))
  | [] => some []
  | .str s :: r => (strsOf r).map (s.data.toList :: ·)
  | _ => none
theorem strsOf_get : ∀ {vs : List SV} {ls : List (List UInt8)}, strsOf vs = some ls → vs = ls.map tb
  | [], ls, h => by simp only [strsOf, Option.some.injEq] at h; subst h; rfl
  | v :: r, ls, h => by
    unfold strsOf at h
    split at h
    · rename_i e; cases e
    · rename_i s r' e
      cases e
      rw [Option.map_eq_some_iff] at h
      obtain ⟨l, h1, rfl⟩ := h
      rw [strsOf_get h1]; rfl
    · cases h
def joinHook : Hook := fun args h => match args with
  | [.sc .nilS, .sc (.str sep)] => some (.sc (tb []), h)
  | [.sc (.slc id off n _), .sc (.str sep)] => if n = 0 then some (.sc (tb []), h) else
      match (readN h id off n).bind strsOf with
      | some ls => if (Lib.join ls sep.data.toList).length ≤ 140737488355328 ∧ ls.length ≤ 140737488355328 ∧ ls.length = n then some (.sc (tb (Lib.join ls sep.data.toList)), h) else none
      | none => none
  | _ => none
theorem joinHook_ok {P : Program} {f : Nat} (hfn : fnIs P f = true)
    (h0 : ∀ (a : Option Addr) (c : Nat) (sep : ByteArray) (w : World), Calls P f #[.slice a 0 c, .string sep] w fun e w' => e = .returned (.string ⟨#[]⟩) ∧ w' = w)
    (hc : ∀ (bk o c : Nat) (xs : List ByteArray) (sep : ByteArray) (w : World), (∀ (j : Nat) x, xs[j]? = some x → w.cell? ⟨bk, o + j, none⟩ = some (.string x)) → bk < w.heap.size → xs.length ≤ 140737488355328 → xs.length ≤ c →
      (Lib.join (xs.map (·.data.toList)) sep.data.toList).length ≤ 140737488355328 →
      Calls P f #[.slice (some ⟨bk, o, none⟩) xs.length c, .string sep] w fun e w' => e = .returned (.string ⟨(Lib.join (xs.map (·.data.toList)) sep.data.toList).toArray⟩) ∧ RowKit.Below w.heap.size w w') :
    HkOK P f joinHook where
  fn := hfn
  len := fun args h v h' hs => by
    unfold joinHook at hs
    split at hs
    · simp only [Option.some.injEq, Prod.mk.injEq] at hs; rw [← hs.2]; exact Nat.le_refl _
    · split at hs
      · simp only [Option.some.injEq, Prod.mk.injEq] at hs; rw [← hs.2]; exact Nat.le_refl _
      · split at hs
        · split at hs
          · simp only [Option.some.injEq, Prod.mk.injEq] at hs; rw [← hs.2]; exact Nat.le_refl _
          · simp at hs
        · simp at hs
    · simp at hs
  run := fun args h v h' hs β w vs hvs R hf => by
    unfold joinHook at hs
    split at hs
    · rename_i sep
      simp only [Option.some.injEq, Prod.mk.injEq] at hs
      obtain ⟨rfl, rfl⟩ := hs
      cases hvs with
      | cons k1 hvs => cases hvs with
        | cons k2 hvs =>
          cases hvs
          cases k1 with
          | sc k1 => cases k1; cases k2 with
            | sc k2 =>
              cases k2
              refine (h0 none 0 sep w).mono ?_
              rintro e w' ⟨rfl, rfl⟩
              exact ⟨β, _, rfl, .sc (.str _), Stp.refl _ _ _, R⟩
    · rename_i id off n cap sep
      cases hvs with
      | cons k1 hvs => cases hvs with
        | cons k2 hvs =>
          cases hvs
          cases k1 with
          | sc k1 => cases k2 with
            | sc k2 =>
              cases k2
              cases k1 with
              | slc hL hcp hl ho hbd hn' =>
                rename_i L c ad
                split at hs
                · rename_i hn
                  subst hn
                  simp only [Option.some.injEq, Prod.mk.injEq] at hs
                  obtain ⟨rfl, rfl⟩ := hs
                  refine (h0 (some ad) c sep w).mono ?_
                  rintro e w' ⟨rfl, rfl⟩
                  exact ⟨β, _, rfl, .sc (.str _), Stp.refl _ _ _, R⟩
                · rename_i hn
                  split at hs
                  · rename_i ls hls
                    split at hs
                    · rename_i hsz
                      simp only [Option.some.injEq, Prod.mk.injEq] at hs
                      obtain ⟨rfl, rfl⟩ := hs
                      rw [Option.bind_eq_some_iff] at hls
                      obtain ⟨us, hrd, hus⟩ := hls
                      have hus' := strsOf_get hus
                      have had := ho (by omega)
                      subst had
                      unfold readN at hrd
                      split at hrd
                      · rename_i cs rw' esz hg
                        obtain ⟨h1, ccs, e, fz, h2, h3, h4, h5, h6⟩ := (R.blk id L cs rw' esz hg hL).cell hn'
                        obtain ⟨c1, c2, c3⟩ := cut_some hrd
                        have e1 : (ls.map fun l => (⟨l.toArray⟩ : ByteArray)).map (·.data.toList) = ls := by
                          rw [List.map_map]
                          exact List.map_id'' (fun _ => rfl) ls
                        have hc' := hc L.b (L.base + off) c (ls.map fun l => (⟨l.toArray⟩ : ByteArray)) sep w (fun j x hj => by
                          rw [List.getElem?_map, Option.map_eq_some_iff] at hj
                          obtain ⟨l, hl1, rfl⟩ := hj
                          have hv : us[j]? = some (tb l) := by rw [hus', List.getElem?_map, hl1]; rfl
                          have hcs : cs[off + j]? = some (tb l) := (c3 j _ hv).2
                          obtain ⟨c0, q1, q2⟩ := h5 _ _ hcs
                          cases q2
                          rw [cell_of_row w L.b _ ccs e fz h2, Nat.add_assoc]
                          exact q1) (Array.getElem?_eq_some_iff.1 h2).1 (by rw [List.length_map]; exact hsz.2.1) (by rw [List.length_map, hsz.2.2]; exact hl) (by rw [e1]; exact hsz.1)
                        rw [List.length_map, hsz.2.2, e1] at hc'
                        refine hc'.mono ?_
                        rintro e w' ⟨rfl, hb⟩
                        obtain ⟨s1, s2⟩ := rep_below R hb
                        exact ⟨β, _, rfl, .sc (.str _), s1, s2⟩
                      · cases hrd
                    · simp at hs
                  · simp at hs
    · simp at hs

/-- How Atoi may end: what it says of the empty text is the third way. -/
theorem numEnds (e : Lib.NumEnd Int) : (∃ v, e = .ok v) ∨ e = .range ∨ e = Lib.atoiAll [] := by
  cases e
  · exact .inl ⟨_, rfl⟩
  · exact .inr (.inr rfl)
  · exact .inr (.inl rfl)
/-- strconv.Atoi. -/
def atoiHook : Hook := fun args h => match args with
  | [.sc (.str s)] => if s.size ≤ 281474976710656 then
      match Lib.atoiAll s.data.toList with
      | .ok v => some (.tup [.sc (.int .i64 v), .sc .nilI], h)
      | .range => some (.tup [.sc (.int .i64 (Lib.atoiSat s.data.toList)), .sc .ifc], h)
      | _ => some (.tup [.sc (.int .i64 0), .sc .ifc], h)
    else none
  | _ => none
theorem atoiHook_ok {P : Program} {f gS gR te ty : Nat} (hfn : fnIs P f = true) (hgS : gS < Base.B ∧ ∃ t v, Base.W.cell? ⟨gS, 0, none⟩ = some (.iface t v)) (hgR : gR < Base.B ∧ ∃ t v, Base.W.cell? ⟨gR, 0, none⟩ = some (.iface t v))
    (h1 : ∀ (s : ByteArray), s.size ≤ 9223372036854775806 → ∀ v : Int, Lib.atoiAll s.data.toList = .ok v → ∀ w : World,
      Calls P f #[.string s] w fun e w' => e = .returned (.tuple #[.int .i64 v, .nilIface]) ∧ (w' = w ∨ ∃ t, w' = Lib.bytesWorld w ty t))
    (h2 : ∀ (s : ByteArray), s.size ≤ 281474976710656 → Lib.atoiAll s.data.toList = Lib.atoiAll [] → ∀ (ev : Value) (w : World), w.cell? ⟨gS, 0, none⟩ = some ev → (ev = .nilIface ∨ ∃ te pe, ev = .iface te pe) →
      ∃ Q : World → Nat → World → Prop, Calls P f #[.string s] w fun e w' => ∃ N, e = .returned (.tuple #[.int .i64 (0), .iface te (.pointer (some ⟨N, 0, none⟩))]) ∧ w.heap.size ≤ N ∧ Q w N w' ∧ RowKit.Below w.heap.size w w')
    (h3 : ∀ (s : ByteArray), s.size ≤ 281474976710656 → Lib.atoiAll s.data.toList = .range → ∀ (ev : Value) (w : World), w.cell? ⟨gR, 0, none⟩ = some ev → (ev = .nilIface ∨ ∃ te pe, ev = .iface te pe) →
      ∃ Q : World → Nat → World → Prop, Calls P f #[.string s] w fun e w' => ∃ N, e = .returned (.tuple #[.int .i64 (Lib.atoiSat s.data.toList), .iface te (.pointer (some ⟨N, 0, none⟩))]) ∧ w.heap.size ≤ N ∧ Q w N w' ∧ RowKit.Below w.heap.size w w') :
    HkOK P f atoiHook where
  fn := hfn
  len := fun args h v h' hs => by
    unfold atoiHook at hs
    split at hs
    · split at hs
      · split at hs <;> (simp only [Option.some.injEq, Prod.mk.injEq] at hs; rw [← hs.2]; exact Nat.le_refl _)
      · simp at hs
    · simp at hs
  run := fun args h v h' hs β w vs hvs R hf => by
    unfold atoiHook at hs
    split at hs
    · rename_i s
      split at hs
      · rename_i hp
        cases hvs with
        | cons k1 hvs =>
          cases hvs
          cases k1 with
          | sc k1 =>
            cases k1
            rcases numEnds (Lib.atoiAll s.data.toList) with ⟨v, hv⟩ | hv | hv
            · rw [hv] at hs
              simp only [Option.some.injEq, Prod.mk.injEq] at hs
              obtain ⟨rfl, rfl⟩ := hs
              refine (h1 s (by omega) v hv w).mono ?_
              rintro e w' ⟨rfl, hw⟩
              have hb : RowKit.Below w.heap.size w w' := by
                rcases hw with rfl | ⟨t, rfl⟩
                · exact RowKit.Below.refl _ _
                · exact Joins.below_bytesWorld _ _ _ _ (Nat.le_refl _)
              obtain ⟨s1, s2⟩ := rep_below R hb
              exact ⟨β, _, rfl, .tup (.cons (.sc (.int _ _)) (.cons (.sc .nilI) .nil)), s1, s2⟩
            · rw [hv] at hs
              simp only [Option.some.injEq, Prod.mk.injEq] at hs
              obtain ⟨rfl, rfl⟩ := hs
              obtain ⟨hb, t, u, hc⟩ := hgR
              obtain ⟨Q, hQ⟩ := h3 s hp hv _ w ((R.cell hb).trans hc) (.inr ⟨_, _, rfl⟩)
              refine hQ.mono ?_
              rintro e w' ⟨N, rfl, _, _, hb⟩
              obtain ⟨s1, s2⟩ := rep_below R hb
              exact ⟨β, _, rfl, .tup (.cons (.sc (.int _ _)) (.cons (.sc (.ifc _ _)) .nil)), s1, s2⟩
            · rw [hv] at hs
              simp only [Lib.atoiAll, Option.some.injEq, Prod.mk.injEq] at hs
              obtain ⟨rfl, rfl⟩ := hs
              obtain ⟨hb, t, u, hc⟩ := hgS
              obtain ⟨Q, hQ⟩ := h2 s hp hv _ w ((R.cell hb).trans hc) (.inr ⟨_, _, rfl⟩)
              refine hQ.mono ?_
              rintro e w' ⟨N, rfl, _, _, hb⟩
              obtain ⟨s1, s2⟩ := rep_below R hb
              exact ⟨β, _, rfl, .tup (.cons (.sc (.int _ _)) (.cons (.sc (.ifc _ _)) .nil)), s1, s2⟩
      · simp at hs
    · simp at hs

/-- strconv.Itoa. -/
def itoaHook : Hook := fun args h => match args with
  | [.sc (.int .i64 n)] => if -9223372036854775808 ≤ n ∧ n ≤ 9223372036854775807 then some (.sc (tb (Lib.itoa n)), h) else none
  | _ => none
theorem itoaHook_ok {P : Program} {f g : Nat} {nm : String} (hfn : fnIs P f = true) (hg : g < Base.B) (hnm : P.globalNamed nm = some g) (htab : Lib.TabIs P Base.W nm .u64 Lib.pow10Tab)
    (hc : ∀ (n : Int), -9223372036854775808 ≤ n → n ≤ 9223372036854775807 → ∀ w : World, Lib.TabIs P w nm .u64 Lib.pow10Tab →
      Calls P f #[.int .i64 n] w fun e w' => e = .returned (.string ⟨(Lib.itoa n).toArray⟩) ∧ ∃ k os, w' = grow (w.drewN k) os) :
    HkOK P f itoaHook where
  fn := hfn
  len := fun args h v h' hs => by
    unfold itoaHook at hs
    split at hs
    · split at hs
      · simp only [Option.some.injEq, Prod.mk.injEq] at hs; rw [← hs.2]; exact Nat.le_refl _
      · simp at hs
    · simp at hs
  run := fun args h v h' hs β w vs hvs R hf => by
    unfold itoaHook at hs
    split at hs
    · rename_i n
      split at hs
      · rename_i hp
        simp only [Option.some.injEq, Prod.mk.injEq] at hs
        obtain ⟨rfl, rfl⟩ := hs
        cases hvs with
        | cons k1 hvs =>
          cases hvs
          cases k1 with
          | sc k1 =>
            cases k1
            refine (hc n hp.1 hp.2 w ((R.var hnm hg).trans htab)).mono ?_
            rintro e w' ⟨rfl, k, os, rfl⟩
            obtain ⟨s1, s2⟩ := rep_below R (RowKit.Below.trans (below_drewN w k) (below_grow (w.drewN k) os))
            exact ⟨β, _, rfl, .sc (.str _), s1, s2⟩
      · simp at hs
    · simp at hs
end Go.Ab


/- Text: strings as lists of bytes; slices of whatever type of one's own; the Builder in memory. -/
namespace Go.Ab
set_option linter.unusedVariables false

theorem tb_data (l : List UInt8) : ((⟨l.toArray⟩ : ByteArray)).data.toList = l := rfl
theorem tb_size (l : List UInt8) : ((⟨l.toArray⟩ : ByteArray)).size = l.length := rfl
theorem tb_add (a b : List UInt8) : ((⟨a.toArray⟩ : ByteArray) ++ ⟨b.toArray⟩) = ⟨(a ++ b).toArray⟩ := by ext1; simp
theorem tb_cut (a : List UInt8) (l u : Nat) : (⟨a.toArray⟩ : ByteArray).extract l u = ⟨((a.drop l).take (u - l)).toArray⟩ := by ext1; simp
theorem tb_list (a : List UInt8) : (⟨a.toArray⟩ : ByteArray).toList = a := by simp

/-- The cells of bytes. -/
def u8s (l : List UInt8) : List SV := l.map fun b => .int .u8 (b.toNat : Int)
theorem u8s_len (l : List UInt8) : (u8s l).length = l.length := by simp [u8s]
theorem u8s_app (a b : List UInt8) : u8s (a ++ b) = u8s a ++ u8s b := by simp [u8s]
theorem bytesOf_u8s : ∀ l : List UInt8, bytesOf (u8s l) = some l
  | [] => rfl
  | b :: r => by
    have ih := bytesOf_u8s r
    unfold u8s at ih ⊢
    simp only [List.map_cons, bytesOf, Int.toNat_natCast, UInt8.ofNat_toNat, ih, Option.map_some, if_true]

/-- A slice of one's own whose elements are of one cell, of type z. -/
def OwnZ (z : ESz) (h0 h : Heap) (s : SV) (vs : List SV) : Prop :=
  (s = .nilS ∧ vs = []) ∨ ∃ id cap cs, s = .slc id 0 vs.length cap ∧ 0 < vs.length ∧ h0.length ≤ id ∧ h[id]? = some (.cells cs true z) ∧ cs.take vs.length = vs ∧ Room vs.length cs cap

theorem OwnZ.len {z : ESz} {h0 h : Heap} {s : SV} {vs : List SV} (ho : OwnZ z h0 h s vs) : lenS false s = some (vs.length : Int) := by
  rcases ho with ⟨rfl, rfl⟩ | ⟨id, cap, cs, rfl, _⟩ <;> rfl
theorem OwnZ.ext {z : ESz} {h0 h h' : Heap} {s : SV} {vs : List SV} (ho : OwnZ z h0 h s vs) (he : Ext h h') : OwnZ z h0 h' s vs := by
  rcases ho with ho | ⟨id, cap, cs, rfl, h0', h1, h2, h3⟩
  · exact .inl ho
  · exact .inr ⟨id, cap, cs, rfl, h0', h1, he.get _ _ h2, h3⟩
theorem OwnZ.away {z : ESz} {h0 h : Heap} {s : SV} {vs : List SV} {B : Nat} (ho : OwnZ z h0 h s vs) (hn : NotAt s B) (b : Blk) : OwnZ z h0 (h.set B b) s vs := by
  rcases ho with ho | ⟨id, cap, cs, rfl, h0', h1, h2, h3⟩
  · exact .inl ho
  · have hne : B ≠ id := fun e => by subst e; exact hn _ _ _ rfl
    exact .inr ⟨id, cap, cs, rfl, h0', h1, by rw [List.getElem?_set_ne hne]; exact h2, h3⟩

theorem ownz_app {z : ESz} (hz : z.n = 1) {h0 h : Heap} {s : SV} {vs ws : List SV} {bytes : Nat} (he : Ext h0 h) (ho : OwnZ z h0 h s vs) (hb : (vs.length + ws.length) * (bytes + 1) ≤ bigN) :
    ∃ s' h', appS h z bytes s ws.length ws = some (s', h') ∧ OwnZ z h0 h' s' (vs ++ ws) ∧ Ext h0 h' ∧ h.length ≤ h'.length ∧ Fram h h' s s' := by
  have hl := he.len
  have fresh : ∀ (j : Nat) (b : Blk), h[j]? = some b → ∀ k, NotAt (SV.slc h.length 0 k none) j := by
    intro j b hj k o n c hc
    have := (List.getElem?_eq_some_iff.1 hj).1
    cases hc; omega
  rcases ho with ⟨rfl, rfl⟩ | ⟨id, cap, cs, rfl, h0', h1, h2, h3, h4⟩
  · by_cases hm : ws.length = 0
    · have : ws = [] := List.eq_nil_of_length_eq_zero hm
      subst this
      exact ⟨.nilS, h, rfl, .inl ⟨rfl, rfl⟩, he, Nat.le_refl _, fun j b hj hn => ⟨hj, fun o n c hc => by cases hc⟩⟩
    · refine ⟨.slc h.length 0 ws.length none, h ++ [.cells ws true z], ?_, ?_, he.app _, by simp, fun j b hj hn => ⟨mono_app j b hj, fresh j b hj _⟩⟩
      · simp only [appS]
        rw [if_neg hm, if_pos (by simpa using hb)]
      · exact .inr ⟨h.length, none, ws, by simp, by simp; omega, hl, by simp, by simp, by simp [Room]⟩
  · have hid : id < h.length := (List.getElem?_eq_some_iff.1 h2).1
    have hlen : vs.length ≤ cs.length := by
      have := congrArg List.length h3
      simp at this
      omega
    by_cases hm : ws.length = 0
    · have : ws = [] := List.eq_nil_of_length_eq_zero hm
      subst this
      refine ⟨.slc id 0 vs.length cap, h, rfl, .inr ⟨id, cap, cs, by simp, by simpa using h0', h1, h2, by simpa using h3, by simpa using h4⟩, he, Nat.le_refl _, fun j b hj hn => ⟨hj, hn⟩⟩
    have hcut : cut cs 0 (vs.length * z.n) = some vs := by
      unfold cut
      rw [hz, if_pos (by omega)]
      simp [h3]
    cases cap with
    | none =>
      refine ⟨.slc h.length 0 (vs.length + ws.length) none, h.set id (.dead z) ++ [.cells (vs ++ ws) true z], ?_, ?_, (he.set h1 _).app _, by simp, ?_⟩
      · simp only [appS]
        rw [if_neg hm, if_pos hb, h2]
        simp only [if_true, hcut]
        rw [if_pos (by simp)]
      · refine .inr ⟨h.length, none, vs ++ ws, by simp, by simp; omega, hl, ?_, List.take_length, by simp [Room]⟩
        rw [List.getElem?_append_right (by simp)]; simp
      · intro j b hj hn
        have hne : id ≠ j := fun e => by subst e; exact hn _ _ _ rfl
        refine ⟨mono_app j b ?_, fresh j b hj _⟩
        rw [List.getElem?_set_ne hne]; exact hj
    | some c =>
      obtain ⟨h5, h6⟩ := h4
      by_cases hc : c < vs.length + ws.length
      · refine ⟨.slc h.length 0 (vs.length + ws.length) none, h ++ [.cells (vs ++ ws) true z], ?_, ?_, he.app _, by simp, ?_⟩
        · simp only [appS]
          rw [if_neg hm, if_pos hb, h2]
          simp only [if_true, hcut]
          rw [if_pos hc]
        · refine .inr ⟨h.length, none, vs ++ ws, by simp, by simp; omega, hl, ?_, List.take_length, by simp [Room]⟩
          rw [List.getElem?_append_right (Nat.le_refl _)]; simp
        · exact fun j b hj hn => ⟨mono_app j b hj, fresh j b hj _⟩
      · have hsp : splice cs (0 + vs.length * z.n) ws = vs ++ ws ++ cs.drop (vs.length + ws.length) := by
          unfold splice
          simp [h3, hz]
        refine ⟨.slc id 0 (vs.length + ws.length) (some c), h.set id (.cells (splice cs (0 + vs.length * z.n) ws) true z), ?_, ?_, he.set h1 _, by simp, ?_⟩
        · simp only [appS]
          rw [if_neg hm, if_pos hb, h2]
          simp only [if_true, hcut]
          rw [if_neg hc]
          simp only [writeN, h2]
          rw [if_pos (by rw [hz]; omega)]; rfl
        · refine .inr ⟨id, some c, splice cs (0 + vs.length * z.n) ws, by simp, by simp; omega, h1, ?_, ?_, ?_, by simp; omega⟩
          · rw [List.getElem?_set_self hid]
          · rw [hsp]; exact List.take_left
          · rw [hsp]; simp; omega
        · intro j b hj hn
          have hne : id ≠ j := fun e => by subst e; exact hn _ _ _ rfl
          refine ⟨?_, fun o n c' e => hn _ _ _ (by cases e; rfl)⟩
          rw [List.getElem?_set_ne hne]; exact hj

/-- A Builder in block B: it holds bs. -/
structure BldS (T : Nat) (z : ESz) (h0 h : Heap) (B : Nat) (s : SV) (bs : List UInt8) : Prop where
  blk : ∃ q, h[B]? = some (.cells [.ptr B 0, q] true ⟨0, some T⟩)
  low : h0.length ≤ B
  own : OwnZ z h0 h s (u8s bs)
  not : NotAt s B
  ext : Ext h0 h
def Bld (T : Nat) (z : ESz) (h0 h : Heap) (B : Nat) (bs : List UInt8) : Prop :=
  ∃ p s, h[B]? = some (.cells [p, s] true ⟨0, some T⟩) ∧ (p = .nilP ∨ p = .ptr B 0) ∧ h0.length ≤ B ∧ OwnZ z h0 h s (u8s bs) ∧ NotAt s B ∧ Ext h0 h
theorem Bld.new (T : Nat) (z : ESz) {h0 h : Heap} (he : Ext h0 h) : Bld T z h0 (h ++ [.cells [.nilP, .nilS] true ⟨0, some T⟩]) h.length [] :=
  ⟨.nilP, .nilS, by simp, .inl rfl, he.len, .inl ⟨rfl, rfl⟩, (fun o n c e => by cases e), he.app _⟩
theorem Bld.ext {T : Nat} {z : ESz} {h0 h : Heap} {B : Nat} {bs : List UInt8} (hb : Bld T z h0 h B bs) : Ext h0 h := by
  obtain ⟨p, s, _, _, _, _, _, h⟩ := hb; exact h

/-- copyCheck. -/
theorem Bld.check {T : Nat} {z : ESz} {h0 h : Heap} {B : Nat} {bs : List UInt8} (hb : Bld T z h0 h B bs) :
    ∃ h1 s, ccHook T [.sc (.ptr B 0)] h = some (.tup [], h1) ∧ BldS T z h0 h1 B s bs ∧ h1[B]? = some (.cells [.ptr B 0, s] true ⟨0, some T⟩) := by
  obtain ⟨p, s, h1, hp, h2, h3, h4, h5⟩ := hb
  have hB : B < h.length := (List.getElem?_eq_some_iff.1 h1).1
  rcases hp with rfl | rfl
  · refine ⟨h.set B (.cells [.ptr B 0, s] true ⟨0, some T⟩), s, ?_, ⟨⟨s, by rw [List.getElem?_set_self hB]⟩, h2, h3.away h4 _, h4, h5.set h2 _⟩, by rw [List.getElem?_set_self hB]⟩
    simp only [ccHook, h1, if_true]
  · refine ⟨h, s, ?_, ⟨⟨s, h1⟩, h2, h3, h4, h5⟩, h1⟩
    simp only [ccHook, h1]
    rw [if_pos (by simp)]
theorem BldS.grow {T : Nat} {z : ESz} {h0 h h' : Heap} {B : Nat} {s : SV} {bs : List UInt8} (hb : BldS T z h0 h B s bs) (he : Ext h h') : BldS T z h0 h' B s bs :=
  ⟨let ⟨q, hq⟩ := hb.blk; ⟨q, he.get _ _ hq⟩, hb.low, hb.own.ext he, hb.not, hb.ext.trans he⟩
theorem BldS.store {T : Nat} {z : ESz} {h0 h : Heap} {B : Nat} {s : SV} {bs : List UInt8} (hb : BldS T z h0 h B s bs) :
    ∃ h', writeN h B (0 + 1) [s] = some h' ∧ Bld T z h0 h' B bs := by
  obtain ⟨q, hq⟩ := hb.blk
  have hB : B < h.length := (List.getElem?_eq_some_iff.1 hq).1
  refine ⟨h.set B (.cells [.ptr B 0, s] true ⟨0, some T⟩), ?_, .ptr B 0, s, by rw [List.getElem?_set_self hB], .inr rfl, hb.low, hb.own.away hb.not _, hb.not, hb.ext.set hb.low _⟩
  simp only [writeN, hq]
  rw [if_pos (by simp)]
  simp [splice]

section
variable {FT : FuncId → Option AFun} {HK : FuncId → Option Hook} {E : Env} {h : Heap} {K : Env → Heap → Prop} {d : Option Nat} {r : List AOp} {x y : AO}

theorem k_bapp {T : Nat} {z : ESz} {h0 : Heap} {B : Nat} {s t : SV} {bs cs : List UInt8} {bytes : Nat} {zz : List SV} (hz : z.n = 1) (hb : BldS T z h0 h B s bs) (hx : evS E x = some s) (hy : evS E y = some t) (hs : srcCells h 1 t = some (cs.length, u8s cs)) (hl : (bs.length + cs.length) * (bytes + 1) ≤ bigN)
    (hw : ∀ s' h', BldS T z h0 h' B s' (bs ++ cs) → wOps FT HK r (bindE d (some (.sc s')) E) h' K) : wOps FT HK (⟨d, .app z bytes zz x y, none⟩ :: r) E h K := by
  obtain ⟨s', h', h1, h2, h3, h4, h5⟩ := ownz_app (ws := u8s cs) (bytes := bytes) hz hb.ext hb.own (by rw [u8s_len, u8s_len]; exact hl)
  obtain ⟨q, hq⟩ := hb.blk
  obtain ⟨k1, k2⟩ := h5 B _ hq hb.not
  refine op_ok (v := some (.sc s')) (h' := h') rfl rfl ?_ (hw s' h' ⟨⟨q, k1⟩, hb.low, by rw [u8s_app]; exact h2, k2, h3⟩)
  rw [u8s_len] at h1
  simp only [step1, hx, hy, Option.bind_some, hz, hs, h1]
  rfl
theorem src_tb (h : Heap) (cs : List UInt8) : srcCells h 1 (tb cs) = some (cs.length, u8s cs) := by
  simp only [srcCells, tb, if_true, tb_size]
  rfl
theorem src_z {z : ESz} {h : Heap} {c : UInt8} : srcCells (h ++ [.cells [.int .u8 (c.toNat : Int)] true z]) 1 (.slc h.length 0 1 (some 1)) = some (([c] : List UInt8).length, u8s [c]) := by
  simp only [srcCells]
  rw [if_neg (by omega)]
  simp [readN, cut, u8s]
/-- A slice of one value, in a new block. -/
theorem k_bslZ {z : ESz} {v : SV} {zz : SV} (hz : z.n = 1) (hx : ev E x = some (.sc v)) (hw : Ext h (h ++ [.cells [v] true z]) → wOps FT HK r (bindE d (some (.sc (.slc h.length 0 1 (some 1)))) E) (h ++ [.cells [v] true z]) K) :
    wOps FT HK (⟨d, .bsl z [zz] 1 [(0, x)], none⟩ :: r) E h K := by
  refine op_ok (v := some (.sc (.slc h.length 0 1 (some 1)))) (h' := h ++ [.cells [v] true z]) rfl rfl ?_ (hw ⟨_, rfl⟩)
  simp only [step1, hz]
  rw [if_pos (by omega)]
  simp [evParts, hx, AV.cells, fillA, rep, splice]

/-! Strings. -/
theorem beq_dec (a b : List UInt8) : (a == b) = decide (a = b) := by
  by_cases h : a = b
  · subst h; simp
  · simp [h]
theorem k_cat {a b : List UInt8} (hx : evS E x = some (tb a)) (hy : evS E y = some (tb b)) (hl : a.length + b.length ≤ 1099511627776) (hw : wOps FT HK r (bindE d (some (.sc (tb (a ++ b)))) E) h K) :
    wOps FT HK (⟨d, .bin .add x y, none⟩ :: r) E h K := by
  refine op_ok rfl rfl ?_ hw
  simp only [step1, hx, hy, Option.bind_some, tb, binS, binT, tb_size]
  rw [if_pos hl, tb_add]; rfl
theorem k_seql {a b : List UInt8} {u : Bool} (hx : evS E x = some (tb a)) (hy : evS E y = some (tb b)) (hu : decide (a = b) = u) (hw : wOps FT HK r (bindE d (some (.sc (.bool u))) E) h K) :
    wOps FT HK (⟨d, .bin .eql x y, none⟩ :: r) E h K := by
  refine op_ok rfl rfl ?_ hw
  simp only [step1, hx, hy, Option.bind_some, tb, binS, binT, tb_list, ← hu, beq_dec a b]
  rfl
theorem k_sneq {a b : List UInt8} {u : Bool} (hx : evS E x = some (tb a)) (hy : evS E y = some (tb b)) (hu : (!decide (a = b)) = u) (hw : wOps FT HK r (bindE d (some (.sc (.bool u))) E) h K) :
    wOps FT HK (⟨d, .bin .neq x y, none⟩ :: r) E h K := by
  refine op_ok rfl rfl ?_ hw
  simp only [step1, hx, hy, Option.bind_some, tb, binS, binT, tb_list, ← hu, beq_dec a b]
  rfl
theorem k_slen {a : List UInt8} (hx : evS E x = some (tb a)) (hw : wOps FT HK r (bindE d (some (.sc (.int .i64 (a.length : Int)))) E) h K) : wOps FT HK (⟨d, .len true x, none⟩ :: r) E h K := by
  refine op_ok rfl rfl ?_ hw
  simp only [step1, hx, Option.bind_some, tb, lenS, tb_size]; rfl
theorem k_sidx {a : List UInt8} {j : Int} {kd : IntKind} {c : UInt8} (hx : evS E x = some (tb a)) (hy : evS E y = some (.int kd j)) (h0 : 0 ≤ j) (hc : a[j.toNat]? = some c) (hw : wOps FT HK r (bindE d (some (.sc (.int .u8 (c.toNat : Int)))) E) h K) :
    wOps FT HK (⟨d, .idxS x y, none⟩ :: r) E h K := by
  refine op_ok rfl rfl ?_ hw
  obtain ⟨h1, h2⟩ := List.getElem?_eq_some_iff.1 hc
  have : (⟨a.toArray⟩ : ByteArray)[j.toNat]? = some c := by
    rw [getElem?_pos (⟨a.toArray⟩ : ByteArray) j.toNat h1]
    exact congrArg some h2
  simp only [step1, hx, hy, tb]
  rw [if_pos h0, this]; rfl
theorem k_ssub {a : List UInt8} {lo hi : AO} {l u : Int} {k1 k2 : IntKind} (hx : evS E x = some (tb a)) (hl : evS E lo = some (.int k1 l)) (hh : evS E hi = some (.int k2 u)) (hb : 0 ≤ l ∧ l ≤ u ∧ u ≤ a.length)
    (hw : wOps FT HK r (bindE d (some (.sc (tb ((a.drop l.toNat).take (u.toNat - l.toNat))))) E) h K) : wOps FT HK (⟨d, .slS x (some lo) (some hi), none⟩ :: r) E h K := by
  refine op_ok rfl rfl ?_ hw
  simp only [step1, hx, tb, bnd_some hl hb.1, Option.bind_some, tb_size, bnd_some hh (by omega : (0 : Int) ≤ u), tb_cut]
  rw [if_pos (by omega)]
theorem k_sfrom {a : List UInt8} {lo : AO} {l : Int} {k1 : IntKind} (hx : evS E x = some (tb a)) (hl : evS E lo = some (.int k1 l)) (hb : 0 ≤ l ∧ l ≤ a.length)
    (hw : wOps FT HK r (bindE d (some (.sc (tb (a.drop l.toNat)))) E) h K) : wOps FT HK (⟨d, .slS x (some lo) none, none⟩ :: r) E h K := by
  refine op_ok rfl rfl ?_ hw
  have hu : bnd E a.length none = some a.length := rfl
  simp only [step1, hx, tb, bnd_some hl hb.1, Option.bind_some, tb_size, tb_cut, hu]
  rw [if_pos (by omega), List.take_of_length_le (by simp)]

theorem k_sub8 {m n : Int} (hx : evS E x = some (.int .u8 m)) (hy : evS E y = some (.int .u8 n)) (hr : 0 ≤ m - n ∧ m - n ≤ 255) (hw : wOps FT HK r (bindE d (some (.sc (.int .u8 (m - n)))) E) h K) : wOps FT HK (⟨d, .bin .sub x y, none⟩ :: r) E h K := by
  refine op_ok rfl rfl ?_ hw
  simp only [step1, hx, hy, Option.bind_some, binS, isShift, binI]
  rw [if_neg (by decide), if_pos trivial]
  have : IntKind.u8.wrap (m - n) = m - n := by
    simp only [IntKind.wrap, IntKind.bits, IntKind.signed]
    simp
    omega
  simp only [wrapI, this]; rfl
/-- A digit out of "0123456789". -/
theorem k_dig {q u : Int} {lo hi : AO} {k1 k2 : IntKind} (hx : evS E x = some (tb [48, 49, 50, 51, 52, 53, 54, 55, 56, 57])) (hl : evS E lo = some (.int k1 q)) (hh : evS E hi = some (.int k2 u)) (hb : 0 ≤ q ∧ q < 10 ∧ u = q + 1)
    (hw : wOps FT HK r (bindE d (some (.sc (tb [UInt8.ofNat (48 + q.toNat)]))) E) h K) : wOps FT HK (⟨d, .slS x (some lo) (some hi), none⟩ :: r) E h K := by
  obtain ⟨h1, h2, rfl⟩ := hb
  refine k_ssub hx hl hh ⟨h1, by omega, by simp; omega⟩ ?_
  have : ((([48, 49, 50, 51, 52, 53, 54, 55, 56, 57] : List UInt8).drop q.toNat).take ((q + 1).toNat - q.toNat)) = [UInt8.ofNat (48 + q.toNat)] := by
    obtain ⟨k, rfl⟩ := Int.eq_ofNat_of_zero_le h1
    have e1 : ((k : Int) + 1).toNat - (k : Int).toNat = 1 := by omega
    rw [e1, Int.toNat_natCast]
    have hk : k < 10 := by omega
    match k, hk with
    | 0, _ | 1, _ | 2, _ | 3, _ | 4, _ | 5, _ | 6, _ | 7, _ | 8, _ | 9, _ => rfl
    | k + 10, h => omega
  rw [this]; exact hw

/-! The Builder's text. -/
theorem OwnZ.text {t : Nat} {h0 h : Heap} {s : SV} {bs : List UInt8} (ho : OwnZ ⟨1, some t⟩ h0 h s (u8s bs)) (hl : bs.length ≤ 1000000000) :
    (bs = [] ∧ s = .nilS) ∨ ∃ id cap cs, bs ≠ [] ∧ s = .slc id 0 bs.length cap ∧ h[id]? = some (.cells cs true ⟨1, some t⟩) ∧ cut cs 0 bs.length = some (u8s bs) ∧ h0.length ≤ id := by
  rcases ho with ⟨h1, h2⟩ | ⟨id, cap, cs, h1, h2, h3, h4, h5, h6⟩
  · exact .inl ⟨by simpa [u8s] using h2, h1⟩
  · rw [u8s_len] at *
    refine .inr ⟨id, cap, cs, (fun e => by subst e; simp at h2), h1, h4, ?_, h3⟩
    have : bs.length ≤ cs.length := by
      have := congrArg List.length h5
      simp [u8s_len] at this
      omega
    unfold cut
    rw [if_pos (by omega)]
    simp [h5]
theorem k_usd {id off n : Nat} {cap : Option Nat} (hx : evS E x = some (.slc id off n cap)) (hn : 0 < n) (hw : wOps FT HK r (bindE d (some (.sc (.ptr id off))) E) h K) : wOps FT HK (⟨d, .usd x, none⟩ :: r) E h K :=
  op_ok rfl rfl (by simp only [step1, hx]; rw [if_pos hn]) hw
theorem k_usd0 (hx : evS E x = some .nilS) (hw : wOps FT HK r (bindE d (some (.sc .nilP)) E) h K) : wOps FT HK (⟨d, .usd x, none⟩ :: r) E h K :=
  op_ok rfl rfl (by simp only [step1, hx]) hw
theorem k_ustr {t id : Nat} {m : Nat} {cs : List SV} {bs : List UInt8} (hx : evS E x = some (.ptr id 0)) (hy : evS E y = some (.int .i64 (m : Int))) (hg : h[id]? = some (.cells cs true ⟨1, some t⟩)) (hc : cut cs 0 m = some (u8s bs)) (hm : 0 < m ∧ m ≤ 1000000000)
    (hw : wOps FT HK r (bindE d (some (.sc (tb bs))) E) (h.set id (.cells cs false ⟨1, some t⟩)) K) : wOps FT HK (⟨d, .ustr t x y, none⟩ :: r) E h K := by
  refine op_ok (h' := h.set id (.cells cs false ⟨1, some t⟩)) rfl rfl ?_ hw
  simp only [step1, hx, hy, hg]
  rw [if_pos ⟨by omega, by omega, trivial⟩]
  simp only [Int.toNat_natCast, hc, Option.bind_some, bytesOf_u8s, Option.map_some, tb]
theorem k_ustr0 {t : Nat} (hx : evS E x = some .nilP) (hy : evS E y = some (.int .i64 0)) (hw : wOps FT HK r (bindE d (some (.sc (tb []))) E) h K) : wOps FT HK (⟨d, .ustr t x y, none⟩ :: r) E h K :=
  op_ok rfl rfl (by simp only [step1, hx, hy]; rw [if_pos trivial]; rfl) hw
/-- A new typed struct. -/
theorem k_newT {t : Nat} {cs : List SV} (hw : wOps FT HK r (bindE d (some (.sc (.ptr h.length 0))) E) (h ++ [.cells cs true ⟨0, some t⟩]) K) : wOps FT HK (⟨d, .newT t cs, none⟩ :: r) E h K :=
  op_ok rfl rfl (by simp only [step1]) hw
theorem k_nilc {id off : Nat} (hx : evS E x = some (.ptr id off)) (hw : wOps FT HK r (bindE d (some (.sc (.ptr id off))) E) h K) : wOps FT HK (⟨d, .nilc x, none⟩ :: r) E h K :=
  op_ok rfl rfl (by simp only [step1, hx]) hw
end

/-- A value of a slice. -/
theorem IsSl.at {h : Heap} {s : SV} {vs : List SV} (hs : IsSl h s 1 vs.length vs) {i : Nat} {x : SV} (hi : vs[i]? = some x) :
    ∃ id off cap, s = .slc id off vs.length cap ∧ readN h id (off + i * 1) 1 = some [x] := by
  have hl := (List.getElem?_eq_some_iff.1 hi).1
  rcases hs with ⟨rfl, h1, h2⟩ | ⟨id, off, cap, b, h1, h2, h3, h4, h5⟩
  · omega
  · obtain ⟨cs, rw', rfl, hc⟩ := h5 (by omega)
    refine ⟨id, off, cap, h1, ?_⟩
    unfold readN
    rw [h2]
    simp only
    unfold cut at hc ⊢
    simp only [ESz.one_n] at hc
    split at hc
    · rename_i hle
      simp only [Option.some.injEq] at hc
      rw [if_pos (by omega)]
      have : (cs.drop (off + i * 1)).take 1 = (((cs.drop off).take (vs.length * 1)).drop i).take 1 := by
        rw [List.drop_take, List.drop_drop, List.take_take]
        rw [Nat.min_eq_left (by omega), Nat.mul_one]
      rw [this, hc, List.drop_eq_getElem_cons hl, (List.getElem?_eq_some_iff.1 hi).2]
      rfl
    · simp at hc
end Go.Ab
namespace Go.Ab
section
variable {FT : FuncId → Option AFun} {HK : FuncId → Option Hook} {E : Env} {h : Heap} {K : Env → Heap → Prop} {d : Option Nat} {r : List AOp} {x y : AO}
/-- The bytes of a string, as a slice. -/
theorem k_cvb {l : List UInt8} (hx : evS E x = some (tb l)) (hw : ∀ s h', IsSl h' s 1 l.length (u8s l) → Ext h h' → wOps FT HK r (bindE d (some (.sc s)) E) h' K) : wOps FT HK (⟨d, .cvb x, none⟩ :: r) E h K := by
  refine op_ok (v := some (.sc (.slc h.length 0 l.length none))) (h' := h ++ [.cells (u8s l) false 1]) rfl rfl ?_ (hw _ _ ?_ ⟨_, rfl⟩)
  · simp only [step1, hx, tb, tb_size]; rfl
  · refine .inr ⟨h.length, 0, none, .cells (u8s l) false 1, rfl, by simp, rfl, fun h0 => by rw [List.eq_nil_of_length_eq_zero h0]; rfl, fun _ => ⟨u8s l, false, rfl, ?_⟩⟩
    unfold cut
    simp only [ESz.one_n, Nat.mul_one]
    rw [if_pos (by rw [u8s_len]; omega)]
    simp only [List.drop_zero, Option.some.injEq]
    exact List.take_of_length_le (by rw [u8s_len]; exact Nat.le_refl _)
/-- The string of a slice of bytes. -/
theorem k_cbs {id off n : Nat} {cap : Option Nat} {l : List UInt8} (hx : evS E x = some (.slc id off n cap)) (hn : 0 < n) (hr : readN h id off n = some (u8s l))
    (hw : wOps FT HK r (bindE d (some (.sc (tb l))) E) h K) : wOps FT HK (⟨d, .cbs x, none⟩ :: r) E h K :=
  op_ok rfl rfl (by simp only [step1, hx, if_pos hn, hr, Option.bind_some, bytesOf_u8s, Option.map_some]; rfl) hw
end
end Go.Ab


/- What a world holds, every world holds that agrees with it; what a row lists, in cells. -/
namespace Go.Ab
open Go.ChangeShapes
set_option linter.unusedVariables false

/-- The worlds agree in all that W has. -/
def Agree (W w : World) : Prop := ∀ b, b < W.heap.size → w.heap[b]? = W.heap[b]?
theorem lt_of_cell {w : World} {a : Addr} {v : Value} (h : w.cell? a = some v) : a.block < w.heap.size := by
  rcases Nat.lt_or_ge a.block w.heap.size with h' | h'
  · exact h'
  · simp [World.cell?, Array.getElem?_eq_none h'] at h
theorem Agree.cell {W w : World} (h : Agree W w) {a : Addr} {v : Value} (hc : W.cell? a = some v) : w.cell? a = some v := by
  rw [← hc]
  unfold World.cell?
  rw [h _ (lt_of_cell hc)]
theorem Agree.var {P : Program} {W w : World} (h : Agree W w) {n : String} {cs : Array Value} (hc : W.var? P n = some cs) : w.var? P n = some cs := by
  rw [← hc]
  unfold World.var? at hc ⊢
  cases hg : P.globalNamed n with
  | none => rfl
  | some g =>
    rw [hg] at hc
    simp only [Option.bind_some] at hc ⊢
    have hlt : g < W.heap.size := by
      rcases Nat.lt_or_ge g W.heap.size with h' | h'
      · exact h'
      · simp [Array.getElem?_eq_none h'] at hc
    rw [h g hlt]
theorem Agree.tab {P : Program} {W w : World} (h : Agree W w) {n : String} {k : IntKind} {zs : List Int} (hc : Lib.TabIs P W n k zs) : Lib.TabIs P w n k zs := Agree.var h hc
theorem lt_of_tab {P : Program} {W : World} {n : String} {k : IntKind} {zs : List Int} {g : Nat} (hg : P.globalNamed n = some g) (hc : Lib.TabIs P W n k zs) : g < W.heap.size := by
  unfold Lib.TabIs World.var? at hc
  rw [hg] at hc
  simp only [Option.bind_some] at hc
  rcases Nat.lt_or_ge g W.heap.size with h' | h'
  · exact h'
  · simp [Array.getElem?_eq_none h'] at hc
/-- A variable that a row lists as a value of an interface. -/
theorem ifc_of_laid {P : Program} {W : World} {n nm : String} {d : DataW Unit} {r : List (String × DataW Unit)} {g : Nat} {ti : TypeId} {ms : Array (String × TypeId)}
    (h : laidMet P ((n, .iface nm d) :: r) W) (hg : P.globalNamed n = some g) (ht : (P.globals[g]?).map (·.type) = some ti) (hi : P.underlying ti = some (.interface ms)) :
    ∃ u v, W.cell? ⟨g, 0, none⟩ = some (.iface u v) := by
  obtain ⟨ps, ⟨g0, t0, cs0, f0, p0, q0, hg0, ht0, hv0, hd0, _, e0⟩, _, hrows⟩ := h
  obtain rfl := Option.some.inj (hg.symm.trans hg0)
  obtain rfl := Option.some.inj (ht.symm.trans ht0)
  obtain ⟨l0⟩ := cs0
  obtain ⟨f1, u, v, rfl, hn, h1⟩ := iface_of_trod hi hd0
  exact ⟨u, v, by rw [World.var?_cell hg hv0 0]; rfl⟩
end Go.Ab

