/- gauss.Valid. -/
import Derived.Test.YtleoalcbgpjieaaDoorGM
import Derived.Test.YtleoalcbgpjieaaDoorH3
namespace Go.Proofs.YtleoalcbgpjieaaDoor
open Go.Ab
set_option linter.unusedVariables false
set_option linter.unusedSimpArgs false
set_option maxRecDepth 20000
attribute [local irreducible] wOps wA wSeq wBlk wRound wOpsD

def VG (g : GC) : Prop := g.S.length ≤ 64 ∧ (0 ≤ g.L ∧ g.L ≤ 64) ∧ (∀ s ∈ g.S, s = 1 ∨ s = -1) ∧ (∀ c ∈ g.C, c ≠ []) ∧ (∀ v ∈ g.C.flatten, 0 ≤ v.1 ∧ v.1 < g.S.length) ∧ g.C.flatten.Nodup ∧ g.C.flatten.length = 2 * g.S.length

/-! ### Valid -/
def SB (n : Nat) (o : Bool) (F : List Vis) (bs : List SV) : Prop := bs.length = n ∧ ∀ k, k < n → bs[k]? = some (.bool (decide (((k : Int), o) ∈ F)))
theorem SB.new (n : Nat) (o : Bool) : SB n o [] (List.replicate n (.bool false)) := ⟨by simp, fun k hk => by simp [hk]⟩
theorem SB.other {n : Nat} {o : Bool} {F : List Vis} {bs : List SV} {v : Vis} (h : SB n o F bs) (hv : v.2 ≠ o) : SB n o (F ++ [v]) bs := ⟨h.1, fun k hk => by
  rw [h.2 k hk]
  congr 2
  have : ((k : Int), o) ≠ v := fun e => hv (by rw [← e])
  simp [this]⟩
theorem SB.mark {n : Nat} {o : Bool} {F : List Vis} {bs : List SV} {v : Vis} (h : SB n o F bs) (hv : v.2 = o) (h0 : 0 ≤ v.1) : SB n o (F ++ [v]) (bs.set v.1.toNat (.bool true)) := by
  refine ⟨by simpa using h.1, fun k hk => ?_⟩
  rw [List.getElem?_set]
  split
  · rename_i he
    subst he
    rw [if_pos (by rw [h.1]; exact hk)]
    have : (((v.1.toNat : Nat) : Int), o) = v := by
      rcases v with ⟨a, b⟩
      simp only at hv h0 ⊢
      subst hv
      congr 1
      omega
    rw [this]; simp
  · rename_i he
    rw [h.2 k hk]
    have : ((k : Int), o) ≠ v := fun e => he (by rw [← e]; simp)
    simp [this]
structure St16 (h0 h : Heap) (so su : SV) (n : Nat) (F : List Vis) : Prop where
  e : Ext h0 h
  o : ∃ bs, Own h0 h so bs ∧ SB n true F bs
  u : ∃ bs, Own h0 h su bs ∧ SB n false F bs
  ap : Ab.Apart so su
  rg : ∀ v ∈ F, 0 ≤ v.1 ∧ v.1 < n
  nd : F.Nodup
theorem St16.ext {h0 h h' : Heap} {so su : SV} {n : Nat} {F : List Vis} (s : St16 h0 h so su n F) (e : Ext h h') : St16 h0 h' so su n F := by
  obtain ⟨bs, o1, o2⟩ := s.o
  obtain ⟨bu, u1, u2⟩ := s.u
  exact ⟨s.e.trans e, ⟨bs, o1.ext e, o2⟩, ⟨bu, u1.ext e, u2⟩, s.ap, s.rg, s.nd⟩
theorem nodup_snoc {F : List Vis} {v : Vis} (h : F.Nodup) (hv : v ∉ F) : (F ++ [v]).Nodup := by
  rw [List.nodup_append]
  exact ⟨h, by simp, fun a ha b hb => by simp at hb; subst hb; exact fun e => hv (by rw [← e]; exact ha)⟩

theorem key_of {v : Vis} {o : Bool} (ho : v.2 = o) (h : 0 ≤ v.1) : (((v.1.toNat : Nat) : Int), o) = v := by
  rcases v with ⟨a, b⟩
  simp only at ho h ⊢
  subst ho
  congr 1; omega
theorem rg_snoc {F : List Vis} {n : Nat} {v : Vis} (h : ∀ u ∈ F, 0 ≤ u.1 ∧ u.1 < (n : Int)) (hv : 0 ≤ v.1 ∧ v.1 < (n : Int)) : ∀ u ∈ F ++ [v], 0 ≤ u.1 ∧ u.1 < (n : Int) := fun u hu => by
  rcases List.mem_append.1 hu with hu | hu
  · exact h u hu
  · simp only [List.mem_singleton] at hu; subst hu; exact hv
theorem St16.seenO {h0 h : Heap} {so su : SV} {n : Nat} {F : List Vis} {v : Vis} (s : St16 h0 h so su n F) (hv : 0 ≤ v.1 ∧ v.1 < (n : Int)) (hm : v ∈ F) (ho : v.2 = true) :
    ∃ id cap, so = .slc id 0 n cap ∧ readN h id (0 + v.1.toNat * 1) 1 = some [.bool true] := by
  obtain ⟨bs, o1, o2⟩ := s.o
  have hb := o2.2 v.1.toNat (by omega)
  rw [key_of ho hv.1, decide_eq_true hm] at hb
  obtain ⟨id, cap, e, r⟩ := Own.rd o1 hb
  exact ⟨id, cap, by rw [e, o2.1], r⟩
theorem St16.seenU {h0 h : Heap} {so su : SV} {n : Nat} {F : List Vis} {v : Vis} (s : St16 h0 h so su n F) (hv : 0 ≤ v.1 ∧ v.1 < (n : Int)) (hm : v ∈ F) (ho : v.2 = false) :
    ∃ id cap, su = .slc id 0 n cap ∧ readN h id (0 + v.1.toNat * 1) 1 = some [.bool true] := by
  obtain ⟨bs, o1, o2⟩ := s.u
  have hb := o2.2 v.1.toNat (by omega)
  rw [key_of ho hv.1, decide_eq_true hm] at hb
  obtain ⟨id, cap, e, r⟩ := Own.rd o1 hb
  exact ⟨id, cap, by rw [e, o2.1], r⟩
theorem own_same {h0 h : Heap} {s : SV} {bs : List SV} {i : Nat} {x : SV} (he : Ext h0 h) (ho : Own h0 h s bs) (hb : bs[i]? = some x) (y : SV) :
    ∃ id cap h3, s = .slc id 0 bs.length cap ∧ readN h id (0 + i * 1) 1 = some [x] ∧ writeN h id (0 + i * 1) [y] = some h3 ∧ Own h0 h3 s (bs.set i y) ∧ Ext h0 h3 ∧ Fram h h3 s s := by
  obtain ⟨id, cap, e, r⟩ := Own.rd ho hb
  obtain ⟨id3, cap3, h3, e3, w3, o3, x3, f3, -⟩ := Own.wr he ho (List.getElem?_eq_some_iff.1 hb).1 y
  have es := e.symm.trans e3
  simp only [SV.slc.injEq, true_and] at es
  obtain ⟨rfl, rfl⟩ := es
  exact ⟨id, cap, h3, e, r, w3, o3, x3, f3⟩
theorem St16.stepO {h0 h : Heap} {so su : SV} {n : Nat} {F : List Vis} {v : Vis} (s : St16 h0 h so su n F) (hv : 0 ≤ v.1 ∧ v.1 < (n : Int)) (hm : v ∉ F) (ho : v.2 = true) :
    ∃ id cap h3, so = .slc id 0 n cap ∧ readN h id (0 + v.1.toNat * 1) 1 = some [.bool false] ∧ writeN h id (0 + v.1.toNat * 1) [.bool true] = some h3 ∧ St16 h0 h3 so su n (F ++ [v]) := by
  obtain ⟨bs, o1, o2⟩ := s.o
  obtain ⟨bu, u1, u2⟩ := s.u
  have hb := o2.2 v.1.toNat (by omega)
  rw [key_of ho hv.1, decide_eq_false hm] at hb
  obtain ⟨id, cap, h3, e, r, w3, o3, x3, f3⟩ := own_same s.e o1 hb (.bool true)
  exact ⟨id, cap, h3, by rw [e, o2.1], r, w3, x3, ⟨_, o3, o2.mark ho hv.1⟩, ⟨bu, Own.away u1 f3 s.ap, u2.other (by rw [ho]; decide)⟩, s.ap, rg_snoc s.rg hv, nodup_snoc s.nd hm⟩
theorem St16.stepU {h0 h : Heap} {so su : SV} {n : Nat} {F : List Vis} {v : Vis} (s : St16 h0 h so su n F) (hv : 0 ≤ v.1 ∧ v.1 < (n : Int)) (hm : v ∉ F) (ho : v.2 = false) :
    ∃ id cap h3, su = .slc id 0 n cap ∧ readN h id (0 + v.1.toNat * 1) 1 = some [.bool false] ∧ writeN h id (0 + v.1.toNat * 1) [.bool true] = some h3 ∧ St16 h0 h3 so su n (F ++ [v]) := by
  obtain ⟨bs, o1, o2⟩ := s.u
  obtain ⟨bu, u1, u2⟩ := s.o
  have hb := o2.2 v.1.toNat (by omega)
  rw [key_of ho hv.1, decide_eq_false hm] at hb
  obtain ⟨id, cap, h3, e, r, w3, o3, x3, f3⟩ := own_same s.e o1 hb (.bool true)
  exact ⟨id, cap, h3, by rw [e, o2.1], r, w3, x3, ⟨bu, Own.away u1 f3 s.ap.symm, u2.other (by rw [ho]; decide)⟩, ⟨_, o3, o2.mark ho hv.1⟩, s.ap, rg_snoc s.rg hv, nodup_snoc s.nd hm⟩

def I16v (h0 : Heap) (X t so su : SV) (g : GC) (i : Nat) (vs : List Vis) (E : Env) (h : Heap) : Prop := ∃ k : Nat, k ≤ vs.length ∧ St16 h0 h so su g.S.length ((g.C.take i).flatten ++ vs.take k) ∧
  E = [(3, some (.sc (.int .i64 (g.S.length : Nat)))), (6, some (.sc so)), (7, some (.sc su)), (8, some (.sc (.int .i64 (((g.C.take i).flatten ++ vs.take k).length : Nat)))), (48, some (.sc X)), (49, some (.sc (.int .i64 (g.C.length : Nat)))), (50, some (.sc (.int .i64 (i : Nat)))), (57, some (.sc t)), (58, some (.sc (.int .i64 (vs.length : Nat)))), (59, some (.sc (.int .i64 (k : Nat))))]
def R16v (h0 : Heap) (X so su : SV) (g : GC) (i : Nat) (vs : List Vis) (ex : Ex) (E : Env) (h : Heap) : Prop := Ext h0 h ∧ match ex with
  | .rt => E = [(2, some (.sc (.bool false)))] ∧ ¬ VG g
  | .ex z => z = 4 ∧ St16 h0 h so su g.S.length ((g.C.take i).flatten ++ vs) ∧ ∃ a b c d,
      E = [(3, some (.sc (.int .i64 (g.S.length : Nat)))), (6, some (.sc so)), (7, some (.sc su)), (8, some (.sc (.int .i64 (((g.C.take i).flatten ++ vs).length : Nat)))), (48, some (.sc X)), (49, some (.sc (.int .i64 (g.C.length : Nat)))), (50, some (.sc (.int .i64 (i : Nat)))), (57, a), (58, b), (59, c), (60, d)]
  | .nm => False
set_option maxHeartbeats 4000000 in
theorem round16v (h0 : Heap) (X t so su : SV) (g : GC) (hf : GFits g) (i : Nat) (vs : List Vis) (hi : g.C[i]? = some vs) (ht : IsVis h0 t vs) (E : Env) (h : Heap) (hI : I16v h0 X t so su g i vs E h) :
    wA FT HKt b16L2 (E.keep [3, 6, 7, 8, 48, 49, 50, 57, 58, 59]) h (wRound (I16v h0 X t so su g i vs) (cnt vs.length 59) (cnt vs.length 59 E h) (R16v h0 X so su g i vs)) := by
  obtain ⟨k, hk, s, rfl⟩ := hI
  have hfl : ((g.C.take i).flatten ++ vs).length ≤ 1000000 := by
    have e : g.C.flatten = (g.C.take i).flatten ++ (vs ++ (g.C.drop (i + 1)).flatten) := by
      conv => lhs; rw [← List.take_append_drop i g.C]
      obtain ⟨h9, h10⟩ := List.getElem?_eq_some_iff.1 hi
      rw [List.flatten_append, List.drop_eq_getElem_cons h9, h10, List.flatten_cons]
    have := hf.v
    rw [e] at this
    simp only [List.length_append] at this ⊢
    omega
  have hsn := hf.s
  have hvl : vs.length ≤ 1000000 := by simp only [List.length_append] at hfl; omega
  by_cases hlt : k < vs.length
  · obtain ⟨v, hx⟩ : ∃ v, vs[k]? = some v := ⟨_, List.getElem?_eq_getElem hlt⟩
    have hv := mem_flat hi hx
    have hvn := hf.n v hv
    obtain ⟨id, off, cap, rfl, hrd⟩ := (ht.ext s.e).at hx
    have en : vs.take (k + 1) = vs.take k ++ [v] := take_snoc hx
    have eF : (g.C.take i).flatten ++ vs.take (k + 1) = ((g.C.take i).flatten ++ vs.take k) ++ [v] := by rw [en, List.append_assoc]
    have hlF : (((g.C.take i).flatten ++ vs.take k).length : Int) + 1 = ((((g.C.take i).flatten ++ vs.take (k + 1)).length : Nat) : Int) := by rw [eF]; simp; omega
    have hlk : ((g.C.take i).flatten ++ vs.take k).length ≤ 1000000 := by
      simp only [List.length_append, List.length_take] at hfl ⊢; omega
    by_cases hneg : v.1 < 0
    · have hno : ¬ VG g := fun hg => by have := hg.2.2.2.2.1 v hv; omega
      repeat' (first | refine w_seq ?_ | refine w_seqN ?_ | refine w_seqR ?_ | refine w_blk ?_ | refine w_blkR ?_ | refine w_skip ?_ | refine w_ret ?_ | refine w_ops ?_ | ((refine i_cond ?_); refine w_condT rfl ?_) | ((refine i_nil ?_); first | refine w_end1 rfl ?_ | refine w_end11 rfl rfl rfl rfl rfl rfl rfl rfl rfl rfl rfl ?_ | refine w_end12 rfl rfl rfl rfl rfl rfl rfl rfl rfl rfl rfl rfl ?_) | ((refine i_cons ?_); first | refine k_idxA rfl rfl (by omega) ?_ | refine op_ldA rfl rfl hrd ?_ | (refine k_newst rfl ?_; intro h1 e1 c1) | refine k_fldA rfl ?_ | refine k_ldC0 rfl c1 ?_ | refine k_skip rfl ?_ | refine k_mv rfl ?_ | refine k_pickT rfl rfl ?_ | refine k_lssT rfl rfl (by omega) ?_))
      exact w_roundR ⟨s.e.trans e1, rfl, hno⟩
    · by_cases hbig : (g.S.length : Int) ≤ v.1
      · have hno : ¬ VG g := fun hg => by have := hg.2.2.2.2.1 v hv; omega
        repeat' (first | refine w_seq ?_ | refine w_seqN ?_ | refine w_seqR ?_ | refine w_blk ?_ | refine w_blkR ?_ | refine w_skip ?_ | refine w_ret ?_ | refine w_ops ?_ | ((refine i_cond ?_); refine w_condT rfl ?_) | ((refine i_nil ?_); first | refine w_end1 rfl ?_ | refine w_end11 rfl rfl rfl rfl rfl rfl rfl rfl rfl rfl rfl ?_ | refine w_end12 rfl rfl rfl rfl rfl rfl rfl rfl rfl rfl rfl rfl ?_) | ((refine i_cons ?_); first | refine k_idxA rfl rfl (by omega) ?_ | refine op_ldA rfl rfl hrd ?_ | (refine k_newst rfl ?_; intro h1 e1 c1) | refine k_fldA rfl ?_ | refine k_ldC0 rfl c1 ?_ | refine k_want rfl ?_ | refine k_mv rfl ?_ | refine k_pickF rfl rfl ?_ | refine k_lssT rfl rfl (by omega) ?_ | refine k_lssF rfl rfl (by omega) ?_ | refine k_geqT rfl rfl (by omega) ?_))
        exact w_roundR ⟨s.e.trans e1, rfl, hno⟩
      · have hin : v.1.toNat < g.S.length := by omega
        have hkey : ∀ o : Bool, v.2 = o → (((v.1.toNat : Nat) : Int), o) = v := fun o ho => by
          rcases v with ⟨a, b⟩
          simp only at ho hneg ⊢
          subst ho
          congr 1; omega
        have hdup : v ∈ (g.C.take i).flatten ++ vs.take k → ¬ VG g := fun hm hg => by
          have hnd := hg.2.2.2.2.2.1
          have e : g.C.flatten = ((g.C.take i).flatten ++ vs.take k) ++ (v :: (vs.drop (k + 1) ++ (g.C.drop (i + 1)).flatten)) := by
            conv => lhs; rw [← List.take_append_drop i g.C]
            obtain ⟨h9, h10⟩ := List.getElem?_eq_some_iff.1 hi
            obtain ⟨h11, h12⟩ := List.getElem?_eq_some_iff.1 hx
            rw [List.flatten_append, List.drop_eq_getElem_cons h9, h10, List.flatten_cons]
            conv => lhs; rw [← List.take_append_drop k vs]
            rw [List.drop_eq_getElem_cons h11, h12]
            simp
          rw [e, List.nodup_append] at hnd
          exact hnd.2.2 v hm v (by simp) rfl
        have hvr : 0 ≤ v.1 ∧ v.1 < (g.S.length : Int) := by omega
        cases ho : v.2 with
        | true =>
          by_cases hm : v ∈ (g.C.take i).flatten ++ vs.take k
          · have hno := hdup hm
            repeat' (first | refine w_seq ?_ | refine w_seqN ?_ | refine w_seqR ?_ | refine w_blk ?_ | refine w_blkR ?_ | refine w_skip ?_ | refine w_ret ?_ | refine w_ops ?_ | ((refine i_cond ?_); first | refine w_condT rfl ?_ | refine w_condF rfl ?_) | ((refine i_nil ?_); first | refine w_end1 rfl ?_ | refine w_end11 rfl rfl rfl rfl rfl rfl rfl rfl rfl rfl rfl ?_ | refine w_end12 rfl rfl rfl rfl rfl rfl rfl rfl rfl rfl rfl rfl ?_ | refine w_end13 rfl rfl rfl rfl rfl rfl rfl rfl rfl rfl rfl rfl rfl ?_) | ((refine i_cons ?_); first | refine k_idxA (esz := 2) rfl rfl (by omega) ?_ | refine op_ldA rfl rfl hrd ?_ | (refine k_newst rfl ?_; intro h1 e1 c1; rw [ho] at c1; obtain ⟨id2, cap2, e2, r2⟩ := (s.ext e1).seenO hvr hm ho; subst e2) | refine k_fldA rfl ?_ | refine k_ldC0 rfl c1 ?_ | refine k_ldC1 rfl c1 ?_ | refine k_idxA (esz := 1) rfl rfl (by omega) ?_ | refine k_ld rfl r2 ?_ | refine k_want rfl ?_ | refine k_mv rfl ?_ | refine k_pickF rfl rfl ?_ | refine k_lssT rfl rfl (by omega) ?_ | refine k_lssF rfl rfl (by omega) ?_ | refine k_geqF rfl rfl (by omega) ?_))
            exact w_roundR ⟨s.e.trans e1, rfl, hno⟩
          · repeat' (first | refine w_seq ?_ | refine w_seqN ?_ | refine w_blk ?_ | refine w_blkN ?_ | refine w_skip ?_ | refine w_ops ?_ | ((refine i_cond ?_); first | refine w_condT rfl ?_ | refine w_condF rfl ?_) | ((refine i_nil ?_); first | refine w_end10 rfl rfl rfl rfl rfl rfl rfl rfl rfl rfl ?_ | refine w_end11 rfl rfl rfl rfl rfl rfl rfl rfl rfl rfl rfl ?_ | refine w_end12 rfl rfl rfl rfl rfl rfl rfl rfl rfl rfl rfl rfl ?_ | refine w_end13 rfl rfl rfl rfl rfl rfl rfl rfl rfl rfl rfl rfl rfl ?_) | ((refine i_cons ?_); first | refine k_idxA (esz := 2) rfl rfl (by omega) ?_ | refine op_ldA rfl rfl hrd ?_ | (refine k_newst rfl ?_; intro h1 e1 c1; rw [ho] at c1; obtain ⟨id2, cap2, h3, e2, r2, w3, q3⟩ := (s.ext e1).stepO hvr hm ho; rw [← eF] at q3; subst e2) | refine k_fldA rfl ?_ | refine k_ldC0 rfl c1 ?_ | refine k_ldC1 rfl c1 ?_ | refine k_idxA (esz := 1) rfl rfl (by omega) ?_ | refine k_ld rfl r2 ?_ | refine k_st2 rfl rfl w3 ?_ | refine k_want rfl ?_ | refine k_mv rfl ?_ | refine k_pickF rfl rfl ?_ | refine k_add rfl rfl (by omega) ?_ | refine k_lssT rfl rfl (by omega) ?_ | refine k_lssF rfl rfl (by omega) ?_ | refine k_geqF rfl rfl (by omega) ?_))
            exact w_roundN ⟨k + 1, by omega, q3, by rw [← hlF]; rfl⟩ (by simp [cnt, Env.get]; omega)
        | false =>
          by_cases hm : v ∈ (g.C.take i).flatten ++ vs.take k
          · have hno := hdup hm
            repeat' (first | refine w_seq ?_ | refine w_seqN ?_ | refine w_seqR ?_ | refine w_blk ?_ | refine w_blkR ?_ | refine w_skip ?_ | refine w_ret ?_ | refine w_ops ?_ | ((refine i_cond ?_); first | refine w_condT rfl ?_ | refine w_condF rfl ?_) | ((refine i_nil ?_); first | refine w_end1 rfl ?_ | refine w_end11 rfl rfl rfl rfl rfl rfl rfl rfl rfl rfl rfl ?_ | refine w_end12 rfl rfl rfl rfl rfl rfl rfl rfl rfl rfl rfl rfl ?_ | refine w_end13 rfl rfl rfl rfl rfl rfl rfl rfl rfl rfl rfl rfl rfl ?_) | ((refine i_cons ?_); first | refine k_idxA (esz := 2) rfl rfl (by omega) ?_ | refine op_ldA rfl rfl hrd ?_ | (refine k_newst rfl ?_; intro h1 e1 c1; rw [ho] at c1; obtain ⟨id2, cap2, e2, r2⟩ := (s.ext e1).seenU hvr hm ho; subst e2) | refine k_fldA rfl ?_ | refine k_ldC0 rfl c1 ?_ | refine k_ldC1 rfl c1 ?_ | refine k_idxA (esz := 1) rfl rfl (by omega) ?_ | refine k_ld rfl r2 ?_ | refine k_want rfl ?_ | refine k_mv rfl ?_ | refine k_pickF rfl rfl ?_ | refine k_lssT rfl rfl (by omega) ?_ | refine k_lssF rfl rfl (by omega) ?_ | refine k_geqF rfl rfl (by omega) ?_))
            exact w_roundR ⟨s.e.trans e1, rfl, hno⟩
          · repeat' (first | refine w_seq ?_ | refine w_seqN ?_ | refine w_blk ?_ | refine w_blkN ?_ | refine w_skip ?_ | refine w_ops ?_ | ((refine i_cond ?_); first | refine w_condT rfl ?_ | refine w_condF rfl ?_) | ((refine i_nil ?_); first | refine w_end10 rfl rfl rfl rfl rfl rfl rfl rfl rfl rfl ?_ | refine w_end11 rfl rfl rfl rfl rfl rfl rfl rfl rfl rfl rfl ?_ | refine w_end12 rfl rfl rfl rfl rfl rfl rfl rfl rfl rfl rfl rfl ?_ | refine w_end13 rfl rfl rfl rfl rfl rfl rfl rfl rfl rfl rfl rfl rfl ?_) | ((refine i_cons ?_); first | refine k_idxA (esz := 2) rfl rfl (by omega) ?_ | refine op_ldA rfl rfl hrd ?_ | (refine k_newst rfl ?_; intro h1 e1 c1; rw [ho] at c1; obtain ⟨id2, cap2, h3, e2, r2, w3, q3⟩ := (s.ext e1).stepU hvr hm ho; rw [← eF] at q3; subst e2) | refine k_fldA rfl ?_ | refine k_ldC0 rfl c1 ?_ | refine k_ldC1 rfl c1 ?_ | refine k_idxA (esz := 1) rfl rfl (by omega) ?_ | refine k_ld rfl r2 ?_ | refine k_st2 rfl rfl w3 ?_ | refine k_want rfl ?_ | refine k_mv rfl ?_ | refine k_pickF rfl rfl ?_ | refine k_add rfl rfl (by omega) ?_ | refine k_lssT rfl rfl (by omega) ?_ | refine k_lssF rfl rfl (by omega) ?_ | refine k_geqF rfl rfl (by omega) ?_))
            exact w_roundN ⟨k + 1, by omega, q3, by rw [← hlF]; rfl⟩ (by simp [cnt, Env.get]; omega)
  · have hke : k = vs.length := by omega
    subst hke
    rw [List.take_length] at s ⊢
    repeat' (first | refine w_seq ?_ | refine w_seqN ?_ | refine w_seqX ?_ | refine w_exit ?_ | refine w_ops ?_ | ((refine i_cond ?_); refine w_condF rfl ?_) | ((refine i_nil ?_); refine w_end11 rfl rfl rfl rfl rfl rfl rfl rfl rfl rfl rfl ?_) | ((refine i_cons ?_); refine k_lssF rfl rfl (by omega) ?_))
    exact w_roundX ⟨s.e, rfl, s, _, _, _, _, rfl⟩
def I16c (h0 : Heap) (X so su : SV) (g : GC) (E : Env) (h : Heap) : Prop := ∃ i : Nat, i ≤ g.C.length ∧ St16 h0 h so su g.S.length (g.C.take i).flatten ∧ (∀ c ∈ g.C.take i, c ≠ []) ∧
  E = [(3, some (.sc (.int .i64 (g.S.length : Nat)))), (6, some (.sc so)), (7, some (.sc su)), (8, some (.sc (.int .i64 ((g.C.take i).flatten.length : Nat)))), (48, some (.sc X)), (49, some (.sc (.int .i64 (g.C.length : Nat)))), (50, some (.sc (.int .i64 (i : Nat))))]
def R16c (h0 : Heap) (so su : SV) (g : GC) (ex : Ex) (E : Env) (h : Heap) : Prop := Ext h0 h ∧ match ex with
  | .rt => E = [(2, some (.sc (.bool false)))] ∧ ¬ VG g
  | .ex z => z = 2 ∧ St16 h0 h so su g.S.length g.C.flatten ∧ (∀ c ∈ g.C, c ≠ []) ∧ ∃ a b c d e f,
      E = [(3, some (.sc (.int .i64 (g.S.length : Nat)))), (6, a), (7, b), (8, some (.sc (.int .i64 (g.C.flatten.length : Nat)))), (48, c), (49, d), (50, e), (51, f)]
  | .nm => False
set_option maxHeartbeats 4000000 in
theorem round16c (h0 : Heap) (X so su : SV) (g : GC) (hf : GFits g) (hX : IsComps h0 X g.C) (E : Env) (h : Heap) (hI : I16c h0 X so su g E h) :
    wA FT HKt b16L1 (E.keep [3, 6, 7, 8, 48, 49, 50]) h (wRound (I16c h0 X so su g) (cnt g.C.length 50) (cnt g.C.length 50 E h) (R16c h0 so su g)) := by
  obtain ⟨i, hi, s, hne, rfl⟩ := hI
  have hcl := hf.c
  by_cases hlt : i < g.C.length
  · obtain ⟨vs, hx⟩ : ∃ vs, g.C[i]? = some vs := ⟨_, List.getElem?_eq_getElem hlt⟩
    obtain ⟨id, off, cap, t, e9, hrd, it⟩ := (hX.ext s.e).at hx
    have it0 : ∃ ss, ss[i]? = some t ∧ IsSl h0 X 1 ss.length ss → True := ⟨[], fun _ => trivial⟩
    have lt := it.len
    have eF := flat_snoc hx
    have hvm : vs ∈ g.C := List.mem_of_getElem? hx
    by_cases hv0 : vs = []
    · have hno : ¬ VG g := fun hg => hg.2.2.2.1 vs hvm hv0
      subst hv0
      have lt0 : lenS false t = some (0 : Int) := lt
      subst e9
      repeat' (first | refine w_seq ?_ | refine w_seqN ?_ | refine w_seqR ?_ | refine w_blk ?_ | refine w_blkR ?_ | refine w_skip ?_ | refine w_ret ?_ | refine w_ops ?_ | ((refine i_cond ?_); refine w_condT rfl ?_) | ((refine i_nil ?_); first | refine w_end1 rfl ?_ | refine w_end8 rfl rfl rfl rfl rfl rfl rfl rfl ?_ | refine w_end9 rfl rfl rfl rfl rfl rfl rfl rfl rfl ?_) | ((refine i_cons ?_); first | refine k_idxA rfl rfl (by omega) ?_ | refine k_ld rfl hrd ?_ | refine k_len rfl lt0 ?_ | refine k_mv rfl ?_ | refine k_lssT rfl rfl (by omega) ?_ | refine k_eqlT rfl rfl (by omega) ?_))
      exact w_roundR ⟨s.e, rfl, hno⟩
    · have hpos : 0 < vs.length := List.length_pos_iff.2 hv0
      have hne' : ∀ c ∈ g.C.take (i + 1), c ≠ [] := fun c hc => by
        rw [take_snoc hx] at hc
        rcases List.mem_append.1 hc with hc | hc
        · exact hne c hc
        · simp only [List.mem_singleton] at hc; subst hc; exact hv0
      have hh : Ext h h := Ext.refl h
      subst e9
      repeat' (first | refine w_seq ?_ | refine w_seqN ?_ | refine w_blk ?_ | refine w_skip ?_ | refine w_ops ?_ | ((refine i_cond ?_); first | refine w_condT rfl ?_ | refine w_condF rfl ?_) | ((refine i_nil ?_); first | refine w_end8 rfl rfl rfl rfl rfl rfl rfl rfl ?_ | refine w_end9 rfl rfl rfl rfl rfl rfl rfl rfl rfl ?_ | refine w_end10 rfl rfl rfl rfl rfl rfl rfl rfl rfl rfl ?_) | ((refine i_cons ?_); first | refine k_idxA rfl rfl (by omega) ?_ | refine k_ld rfl hrd ?_ | refine k_len rfl lt ?_ | refine k_mv rfl ?_ | refine k_lssT rfl rfl (by omega) ?_ | refine k_eqlF rfl rfl (by omega) ?_))
      have s0 : St16 h0 h so su g.S.length ((g.C.take i).flatten ++ vs.take 0) := by simpa using s
      refine w_loop (I16v h0 (.slc id off g.C.length cap) t so su g i vs) (cnt vs.length 59) (R16v h0 (.slc id off g.C.length cap) so su g i vs) ⟨0, Nat.zero_le _, s0, by simp⟩ (round16v h0 (.slc id off g.C.length cap) t so su g hf i vs hx ?_) ?_
      · obtain ⟨id2, off2, cap2, t2, e2, r2, it2⟩ := hX.at hx
        simp only [SV.slc.injEq, true_and] at e2
        obtain ⟨rfl, rfl, rfl⟩ := e2
        have r3 := readN_ext s.e r2
        rw [r3] at hrd
        simp only [Option.some.injEq, List.cons.injEq, and_true] at hrd
        subst hrd
        exact it2
      rintro ex E' h' ⟨he, hR⟩
      cases ex with
      | nm => exact hR.elim
      | rt =>
        obtain ⟨rfl, hno⟩ := hR
        repeat' (first | refine w_seqR ?_ | refine w_blkR ?_)
        exact w_roundR ⟨he, rfl, hno⟩
      | ex z =>
        obtain ⟨rfl, s1, a, b, c, d, rfl⟩ := hR
        rw [← eF] at s1
        repeat' (first | refine w_seqN ?_ | refine w_blkN ?_ | refine w_blkX ?_ | refine w_ops ?_ | ((refine i_nil ?_); refine w_end7 rfl rfl rfl rfl rfl rfl rfl ?_) | ((refine i_cons ?_); first | refine k_mv rfl ?_ | refine k_add rfl rfl (by omega) ?_))
        exact w_roundN ⟨i + 1, by omega, s1, hne', by rw [eF]; rfl⟩ (by simp [cnt, Env.get]; omega)
  · have hie : i = g.C.length := by omega
    subst hie
    rw [List.take_length] at s hne
    repeat' (first | refine w_seq ?_ | refine w_seqN ?_ | refine w_seqX ?_ | refine w_exit ?_ | refine w_ops ?_ | ((refine i_cond ?_); refine w_condF rfl ?_) | ((refine i_nil ?_); refine w_end8 rfl rfl rfl rfl rfl rfl rfl rfl ?_) | ((refine i_cons ?_); refine k_lssF rfl rfl (by omega) ?_))
    exact w_roundX ⟨s.e, rfl, s, hne, _, _, _, _, _, _, by rw [List.take_length]⟩

def I16s (h0 : Heap) (q : SV) (Sg : SV) (g : GC) (E : Env) (h : Heap) : Prop := ∃ i : Nat, i ≤ g.S.length ∧ h = h0 ∧ (∀ s ∈ g.S.take i, s = 1 ∨ s = -1) ∧
  E = [(1, some (.sc q)), (3, some (.sc (.int .i64 (g.S.length : Nat)))), (30, some (.sc Sg)), (31, some (.sc (.int .i64 (g.S.length : Nat)))), (32, some (.sc (.int .i64 (i : Nat))))]
def R16s (h0 : Heap) (q : SV) (g : GC) (ex : Ex) (E : Env) (h : Heap) : Prop := h = h0 ∧ match ex with
  | .rt => E = [(2, some (.sc (.bool false)))] ∧ ¬ VG g
  | .ex z => z = 0 ∧ (∀ s ∈ g.S, s = 1 ∨ s = -1) ∧ ∃ a b c d, E = [(1, some (.sc q)), (3, some (.sc (.int .i64 (g.S.length : Nat)))), (30, a), (31, b), (32, c), (33, d)]
  | .nm => False
theorem round16s (h0 : Heap) (q Sg : SV) (g : GC) (hf : GFits g) (hS : IsInts h0 Sg g.S) (E : Env) (h : Heap) (hI : I16s h0 q Sg g E h) :
    wA FT HKt b16L0 (E.keep [1, 3, 30, 31, 32]) h (wRound (I16s h0 q Sg g) (cnt g.S.length 32) (cnt g.S.length 32 E h) (R16s h0 q g)) := by
  obtain ⟨i, hi, rfl, hne, rfl⟩ := hI
  have hsl := hf.s
  by_cases hlt : i < g.S.length
  · obtain ⟨x, hx⟩ : ∃ x, g.S[i]? = some x := ⟨_, List.getElem?_eq_getElem hlt⟩
    have hm := List.mem_of_getElem? hx
    obtain ⟨id, off, cap, rfl, hrd⟩ := IsInts.at hS hx
    by_cases h1 : x = 1
    · have hne' : ∀ s ∈ g.S.take (i + 1), s = 1 ∨ s = -1 := fun s hs => by
        rw [take_snoc hx] at hs
        rcases List.mem_append.1 hs with hs | hs
        · exact hne s hs
        · simp only [List.mem_singleton] at hs; subst hs; exact .inl h1
      repeat' (first | refine w_seq ?_ | refine w_seqN ?_ | refine w_blk ?_ | refine w_blkN ?_ | refine w_skip ?_ | refine w_ops ?_ | ((refine i_cond ?_); first | refine w_condT rfl ?_ | refine w_condF rfl ?_) | ((refine i_nil ?_); first | refine w_end5 rfl rfl rfl rfl rfl ?_ | refine w_end6 rfl rfl rfl rfl rfl rfl ?_) | ((refine i_cons ?_); first | refine k_idxA rfl rfl (by omega) ?_ | refine k_ld rfl hrd ?_ | refine k_skip rfl ?_ | refine k_mv rfl ?_ | refine k_pickF rfl rfl ?_ | refine k_add rfl rfl (by omega) ?_ | refine k_lssT rfl rfl (by omega) ?_ | refine k_neqF rfl rfl (by omega) ?_))
      exact w_roundN ⟨i + 1, by omega, rfl, hne', rfl⟩ (by simp [cnt, Env.get]; omega)
    · by_cases h2 : x = -1
      · have hne' : ∀ s ∈ g.S.take (i + 1), s = 1 ∨ s = -1 := fun s hs => by
          rw [take_snoc hx] at hs
          rcases List.mem_append.1 hs with hs | hs
          · exact hne s hs
          · simp only [List.mem_singleton] at hs; subst hs; exact .inr h2
        repeat' (first | refine w_seq ?_ | refine w_seqN ?_ | refine w_blk ?_ | refine w_blkN ?_ | refine w_skip ?_ | refine w_ops ?_ | ((refine i_cond ?_); first | refine w_condT rfl ?_ | refine w_condF rfl ?_) | ((refine i_nil ?_); first | refine w_end5 rfl rfl rfl rfl rfl ?_ | refine w_end6 rfl rfl rfl rfl rfl rfl ?_) | ((refine i_cons ?_); first | refine k_idxA rfl rfl (by omega) ?_ | refine k_ld rfl hrd ?_ | refine k_want rfl ?_ | refine k_mv rfl ?_ | refine k_pickT rfl rfl ?_ | refine k_add rfl rfl (by omega) ?_ | refine k_lssT rfl rfl (by omega) ?_ | refine k_neqT rfl rfl (by omega) ?_ | refine k_neqF rfl rfl (by omega) ?_))
        exact w_roundN ⟨i + 1, by omega, rfl, hne', rfl⟩ (by simp [cnt, Env.get]; omega)
      · have hno : ¬ VG g := fun hg => by rcases hg.2.2.1 x hm with h | h; exact h1 h; exact h2 h
        repeat' (first | refine w_seq ?_ | refine w_seqN ?_ | refine w_seqR ?_ | refine w_blk ?_ | refine w_blkR ?_ | refine w_skip ?_ | refine w_ret ?_ | refine w_ops ?_ | ((refine i_cond ?_); refine w_condT rfl ?_) | ((refine i_nil ?_); first | refine w_end1 rfl ?_ | refine w_end6 rfl rfl rfl rfl rfl rfl ?_) | ((refine i_cons ?_); first | refine k_idxA rfl rfl (by omega) ?_ | refine k_ld rfl hrd ?_ | refine k_want rfl ?_ | refine k_mv rfl ?_ | refine k_pickT rfl rfl ?_ | refine k_lssT rfl rfl (by omega) ?_ | refine k_neqT rfl rfl (by omega) ?_))
        exact w_roundR ⟨rfl, rfl, hno⟩
  · rw [List.take_of_length_le (by omega)] at hne
    repeat' (first | refine w_seq ?_ | refine w_seqN ?_ | refine w_seqX ?_ | refine w_exit ?_ | refine w_ops ?_ | ((refine i_cond ?_); refine w_condF rfl ?_) | ((refine i_nil ?_); refine w_end6 rfl rfl rfl rfl rfl rfl ?_) | ((refine i_cons ?_); refine k_lssF rfl rfl (by omega) ?_))
    exact w_roundX ⟨rfl, rfl, hne, _, _, _, _, rfl⟩

set_option maxHeartbeats 4000000 in
theorem call16 (h0 : Heap) (X Sg : SV) (g : GC) (hf : GFits g) (hc : IsCode h0 X Sg g) : ∃ v h', Cal FT HKt 16 [.agg [X, Sg, .int .i64 g.L]] h0 v h' ∧ Ext h0 h' ∧ ∃ b, v = .sc (.bool b) ∧ (b = true ↔ VG g) := by
  refine Cal.of (F := a16) rfl rfl rfl ?_
  have hsl := hf.s
  have hlr := hf.l
  have hS := IsSl.len hc.s
  have hX := hc.x.len
  have no : ∀ {h' : Heap}, Ext h0 h' → ¬ VG g → Ext h0 h' ∧ ∃ b, (AV.sc (SV.bool false)) = .sc (.bool b) ∧ (b = true ↔ VG g) := fun he hno => ⟨he, false, rfl, by simpa using hno⟩
  by_cases h1 : 64 < g.S.length
  · have hno : ¬ VG g := fun hg => by have := hg.1; omega
    repeat' (first | refine w_seq ?_ | refine w_seqN ?_ | refine w_seqR ?_ | refine w_ret ?_ | refine w_ops ?_ | ((refine i_cond ?_); refine w_condT rfl ?_) | ((refine i_nil ?_); first | refine w_end1 rfl ?_ | refine w_end2 rfl rfl ?_ | refine w_end3 rfl rfl rfl ?_) | ((refine i_cons ?_); first | (refine k_box rfl rfl ?_; intro h1 e1 l1 b1) | refine k_fldA rfl ?_ | refine k_ldb rfl b1 rfl ?_ | refine k_len rfl hS ?_ | refine k_skip rfl ?_ | refine k_mv rfl ?_ | refine k_pickT rfl rfl ?_ | refine k_gtrT rfl rfl (by omega) ?_))
    exact ⟨.inr rfl, no e1 hno⟩
  by_cases h2 : g.L < 0
  · have hno : ¬ VG g := fun hg => by have := hg.2.1; omega
    repeat' (first | refine w_seq ?_ | refine w_seqN ?_ | refine w_seqR ?_ | refine w_ret ?_ | refine w_ops ?_ | ((refine i_cond ?_); refine w_condT rfl ?_) | ((refine i_nil ?_); first | refine w_end1 rfl ?_ | refine w_end2 rfl rfl ?_ | refine w_end3 rfl rfl rfl ?_) | ((refine i_cons ?_); first | (refine k_box rfl rfl ?_; intro h1 e1 l1 b1) | refine k_fldA rfl ?_ | refine k_ldb rfl b1 rfl ?_ | refine k_len rfl hS ?_ | refine k_skip rfl ?_ | refine k_want rfl ?_ | refine k_mv rfl ?_ | refine k_pickT rfl rfl ?_ | refine k_pickF rfl rfl ?_ | refine k_lssT rfl rfl (by omega) ?_ | refine k_gtrF rfl rfl (by omega) ?_))
    exact ⟨.inr rfl, no e1 hno⟩
  by_cases h3 : 64 < g.L
  · have hno : ¬ VG g := fun hg => by have := hg.2.1; omega
    repeat' (first | refine w_seq ?_ | refine w_seqN ?_ | refine w_seqR ?_ | refine w_ret ?_ | refine w_ops ?_ | ((refine i_cond ?_); refine w_condT rfl ?_) | ((refine i_nil ?_); first | refine w_end1 rfl ?_ | refine w_end2 rfl rfl ?_ | refine w_end3 rfl rfl rfl ?_) | ((refine i_cons ?_); first | (refine k_box rfl rfl ?_; intro h1 e1 l1 b1) | refine k_fldA rfl ?_ | refine k_ldb rfl b1 rfl ?_ | refine k_len rfl hS ?_ | refine k_want rfl ?_ | refine k_mv rfl ?_ | refine k_pickF rfl rfl ?_ | refine k_lssF rfl rfl (by omega) ?_ | refine k_gtrT rfl rfl (by omega) ?_ | refine k_gtrF rfl rfl (by omega) ?_))
    exact ⟨.inr rfl, no e1 hno⟩
  repeat' (first | refine w_seq ?_ | refine w_seqN ?_ | refine w_blk ?_ | refine w_skip ?_ | refine w_ops ?_ | ((refine i_cond ?_); refine w_condF rfl ?_) | ((refine i_nil ?_); first | refine w_end1 rfl ?_ | refine w_end2 rfl rfl ?_ | refine w_end3 rfl rfl rfl ?_ | refine w_end5 rfl rfl rfl rfl rfl ?_) | ((refine i_cons ?_); first | (refine k_box rfl rfl ?_; intro h1 e1 l1 b1) | refine k_fldA rfl ?_ | refine k_ldb rfl b1 rfl ?_ | refine k_len rfl hS ?_ | refine k_want rfl ?_ | refine k_mv rfl ?_ | refine k_pickF rfl rfl ?_ | refine k_lssF rfl rfl (by omega) ?_ | refine k_gtrF rfl rfl (by omega) ?_))
  refine w_loop (I16s h1 _ Sg g) (cnt g.S.length 32) (R16s h1 _ g) ⟨0, Nat.zero_le _, rfl, by simp, rfl⟩ (round16s h1 _ Sg g hf (IsSl.ext hc.s e1)) ?_
  rintro ex E' h' ⟨rfl, hR⟩
  cases ex with
  | nm => exact hR.elim
  | rt =>
    obtain ⟨rfl, hno⟩ := hR
    repeat' (first | refine w_seqR ?_ | refine w_blkR ?_)
    exact ⟨.inr rfl, no e1 hno⟩
  | ex z =>
    obtain ⟨rfl, hsg, a, b, c, d, rfl⟩ := hR
    repeat' (first | refine w_seq ?_ | refine w_seqN ?_ | refine w_blk ?_ | refine w_blkX ?_ | refine w_ops ?_ | ((refine i_nil ?_); first | refine w_end3 rfl rfl rfl ?_ | refine w_end4 rfl rfl rfl rfl ?_ | refine w_end5 rfl rfl rfl rfl rfl ?_ | refine w_end7 rfl rfl rfl rfl rfl rfl rfl ?_) | ((refine i_cons ?_); first | (refine k_mkO (Ext.refl h') rfl rfl (by simp only [bigN]; omega) ?_; intro so h2 o2 e2 x2 l2) | (refine k_mkO x2 rfl rfl (by simp only [bigN]; omega) ?_; intro su h3 o3 e3 x3 l3; have b3 := b1.ext x3) | refine k_fldA rfl ?_ | refine k_ldb rfl b3 rfl ?_ | refine k_len rfl hX ?_ | refine k_mv rfl ?_))
    rw [Int.toNat_natCast] at o2 o3
    have s0 : St16 h' h3 so su g.S.length (g.C.take 0).flatten := ⟨x3, ⟨_, o2.ext e3, SB.new _ _⟩, ⟨_, o3.weaken (Nat.le_of_lt l2), SB.new _ _⟩, (apart_old o3 o2.sl).symm, by simp, by simp⟩
    refine w_loop (I16c h' X so su g) (cnt g.C.length 50) (R16c h' so su g) ⟨0, Nat.zero_le _, s0, by simp, rfl⟩ (round16c h' X so su g hf (hc.x.ext e1)) ?_
    rintro ex E' h4 ⟨he, hR⟩
    cases ex with
    | nm => exact hR.elim
    | rt =>
      obtain ⟨rfl, hno⟩ := hR
      repeat' (first | refine w_seqR ?_ | refine w_blkR ?_)
      exact ⟨.inr rfl, no (e1.trans he) hno⟩
    | ex z =>
      obtain ⟨rfl, s4, hne, a, b, c, d, e, f, rfl⟩ := hR
      by_cases hn : g.C.flatten.length = 2 * g.S.length
      · have hyes : VG g := ⟨by omega, by omega, hsg, hne, s4.rg, s4.nd, hn⟩
        repeat' (first | refine w_seq ?_ | refine w_seqN ?_ | refine w_blkX ?_ | refine w_ret ?_ | refine w_ops ?_ | ((refine i_nil ?_); refine w_end1 rfl ?_) | ((refine i_cons ?_); first | refine k_mv rfl ?_ | refine k_mul rfl rfl (by omega) ?_ | refine k_eqlT rfl rfl (by omega) ?_))
        exact ⟨.inr rfl, e1.trans he, true, rfl, by simpa using hyes⟩
      · have hno : ¬ VG g := fun hg => hn hg.2.2.2.2.2.2
        have hfv := hf.v
        repeat' (first | refine w_seq ?_ | refine w_seqN ?_ | refine w_blkX ?_ | refine w_ret ?_ | refine w_ops ?_ | ((refine i_nil ?_); refine w_end1 rfl ?_) | ((refine i_cons ?_); first | refine k_mv rfl ?_ | refine k_mul rfl rfl (by omega) ?_ | refine k_eqlF rfl rfl (by omega) ?_))
        exact ⟨.inr rfl, no (e1.trans he) hno⟩
theorem valT (h : Heap) (X Sg : SV) (g : GC) (hf : GFits g) (hc : IsCode h X Sg g) (hg : VG g) : ∃ v h', Cal FT HKt 16 [.agg [X, Sg, .int .i64 g.L]] h v h' ∧ Ext h h' ∧ v = .sc (.bool true) := by
  obtain ⟨v, h', hcl, he, b, rfl, hb⟩ := call16 h X Sg g hf hc
  exact ⟨_, _, hcl, he, by rw [hb.2 hg]⟩
theorem valF (h : Heap) (X Sg : SV) (g : GC) (hf : GFits g) (hc : IsCode h X Sg g) (hg : ¬ VG g) : ∃ v h', Cal FT HKt 16 [.agg [X, Sg, .int .i64 g.L]] h v h' ∧ Ext h h' ∧ v = .sc (.bool false) := by
  obtain ⟨v, h', hcl, he, b, rfl, hb⟩ := call16 h X Sg g hf hc
  refine ⟨_, _, hcl, he, ?_⟩
  cases b with
  | false => rfl
  | true => exact absurd (hb.1 rfl) hg
end Go.Proofs.YtleoalcbgpjieaaDoor
