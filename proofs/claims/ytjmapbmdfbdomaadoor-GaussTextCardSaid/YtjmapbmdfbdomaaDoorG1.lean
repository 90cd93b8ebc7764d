/- Codes in memory; gauss.Valid. -/
import Derived.Test.YtjmapbmdfbdomaaDoorT2
import Derived.Test.YtjmapbmdfbdomaaDoorGP2
namespace Go.Proofs.YtjmapbmdfbdomaaDoor
open Go.Ab
set_option linter.unusedVariables false
set_option linter.unusedSimpArgs false
set_option maxRecDepth 20000
attribute [local irreducible] wOps wA wSeq wBlk wRound wOpsD

def cnt (n t : Nat) (E : Env) (_ : Heap) : Nat := match E.get t with
  | some (.sc (.int _ i)) => n - i.toNat
  | _ => 0
abbrev ints (xs : List Int) : List SV := xs.map (.int .i64)

/-! ### Codes in memory -/
abbrev vc (v : Vis) : List SV := [.int .i64 v.1, .bool v.2]
def vcs : List Vis → List SV
  | [] => []
  | v :: r => .int .i64 v.1 :: .bool v.2 :: vcs r
theorem vcs_len : ∀ vs : List Vis, (vcs vs).length = vs.length * 2
  | [] => rfl
  | v :: r => by simp [vcs, vcs_len r]; omega
theorem vcs_app : ∀ a b : List Vis, vcs (a ++ b) = vcs a ++ vcs b
  | [], b => rfl
  | v :: r, b => by simp [vcs, vcs_app r b]
theorem vcs_at : ∀ {vs : List Vis} {i : Nat} {v : Vis}, vs[i]? = some v → ((vcs vs).drop (i * 2)).take 2 = vc v
  | [], i, v, h => by simp at h
  | u :: r, 0, v, h => by simp at h; subst h; simp [vcs]
  | u :: r, i + 1, v, h => by
    have e : (i + 1) * 2 = i * 2 + 1 + 1 := by omega
    rw [e]
    simp only [vcs, List.drop_succ_cons]
    exact vcs_at (by simpa using h)
def IsVis (h : Heap) (t : SV) (vs : List Vis) : Prop := IsSl h t 2 vs.length (vcs vs)
theorem IsVis.ext {h h' : Heap} {t : SV} {vs : List Vis} (i : IsVis h t vs) (e : Ext h h') : IsVis h' t vs := IsSl.ext i e
theorem IsVis.len {h : Heap} {t : SV} {vs : List Vis} (i : IsVis h t vs) : lenS false t = some (vs.length : Int) := IsSl.len i
theorem IsVis.at {h : Heap} {t : SV} {vs : List Vis} (hs : IsVis h t vs) {i : Nat} {v : Vis} (hv : vs[i]? = some v) : ∃ id off cap, t = .slc id off vs.length cap ∧ readN h id (off + i * 2) 2 = some (vc v) := by
  have hi := (List.getElem?_eq_some_iff.1 hv).1
  rcases hs with ⟨-, h0, -⟩ | ⟨id, off, cap, b, rfl, h1, h2, h3, h4⟩
  · omega
  · obtain ⟨cs, rw', rfl, hc⟩ := h4 (by omega)
    refine ⟨id, off, cap, rfl, ?_⟩
    unfold readN
    rw [h1]
    simp only
    unfold cut at hc ⊢
    simp only [ez2] at hc
    split at hc
    · rename_i hle
      simp only [Option.some.injEq] at hc
      rw [if_pos (by omega)]
      have : (cs.drop (off + i * 2)).take 2 = (((cs.drop off).take (vs.length * 2)).drop (i * 2)).take 2 := by
        rw [List.drop_take, List.drop_drop, List.take_take]
        rw [Nat.min_eq_left (by omega)]
      rw [this, hc, vcs_at hv]
    · simp at hc
/-- A slice of slices. -/
def IsComps (h : Heap) (X : SV) (C : List (List Vis)) : Prop := ∃ ss : List SV, ss.length = C.length ∧ IsSl h X 1 ss.length ss ∧ ∀ (i : Nat) (t : SV) (vs : List Vis), ss[i]? = some t → C[i]? = some vs → IsVis h t vs
theorem IsComps.ext {h h' : Heap} {X : SV} {C : List (List Vis)} (i : IsComps h X C) (e : Ext h h') : IsComps h' X C := by
  obtain ⟨ss, h1, h2, h3⟩ := i
  exact ⟨ss, h1, IsSl.ext h2 e, fun i t vs a b => (h3 i t vs a b).ext e⟩
theorem IsComps.len {h : Heap} {X : SV} {C : List (List Vis)} (i : IsComps h X C) : lenS false X = some (C.length : Int) := by
  obtain ⟨ss, h1, h2, h3⟩ := i
  rw [← h1]; exact IsSl.len h2
theorem IsComps.at {h : Heap} {X : SV} {C : List (List Vis)} (hs : IsComps h X C) {i : Nat} {vs : List Vis} (hv : C[i]? = some vs) : ∃ id off cap t, X = .slc id off C.length cap ∧ readN h id (off + i * 1) 1 = some [t] ∧ IsVis h t vs := by
  obtain ⟨ss, h1, h2, h3⟩ := hs
  have hi := (List.getElem?_eq_some_iff.1 hv).1
  obtain ⟨t, ht⟩ : ∃ t, ss[i]? = some t := ⟨_, List.getElem?_eq_getElem (by omega)⟩
  obtain ⟨id, off, cap, e1, e2⟩ := IsSl.at h2 ht
  exact ⟨id, off, cap, t, by rw [e1, h1], e2, h3 i t vs ht hv⟩
structure IsCode (h : Heap) (X Sg : SV) (g : GC) : Prop where
  x : IsComps h X g.C
  s : IsInts h Sg g.S
theorem IsCode.ext {h h' : Heap} {X Sg : SV} {g : GC} (i : IsCode h X Sg g) (e : Ext h h') : IsCode h' X Sg g := ⟨i.x.ext e, IsSl.ext i.s e⟩
/-- Not too big to be counted. -/
structure Fits (g : GC) : Prop where
  c : g.C.length ≤ 1000000
  v : g.C.flatten.length ≤ 1000000
  s : g.S.length ≤ 1000000
  l : -9223372036854775808 ≤ g.L ∧ g.L ≤ 9223372036854775807
  n : ∀ v ∈ g.C.flatten, -9223372036854775808 ≤ v.1 ∧ v.1 ≤ 9223372036854775807
theorem mem_flat {C : List (List Vis)} {i k : Nat} {vs : List Vis} {v : Vis} (h1 : C[i]? = some vs) (h2 : vs[k]? = some v) : v ∈ C.flatten := List.mem_flatten.2 ⟨vs, List.mem_of_getElem? h1, List.mem_of_getElem? h2⟩

theorem readN_ext {h h' : Heap} {id off n : Nat} {vs : List SV} (e : Ext h h') (hr : readN h id off n = some vs) : readN h' id off n = some vs := by
  unfold readN at hr ⊢
  split at hr
  · rename_i hg; rw [e.get _ _ hg]; exact hr
  · cases hr

/-! ### Valid -/
def SB (n : Nat) (o : Bool) (F : List Vis) (bs : List SV) : Prop := bs.length = n ∧ ∀ k, k < n → bs[k]? = some (.bool (decide (((k : Int), o) ∈ F)))
theorem SB.new (n : Nat) (o : Bool) : SB n o [] (List.replicate n (.bool false)) := ⟨by simp, fun k hk => by simp [hk]⟩
theorem SB.other {n : Nat} {o : Bool} {F : List Vis} {bs : List SV} {v : Vis} (h : SB n o F bs) (hv : v.2 ≠ o) : SB n o (F ++ [v]) bs := ⟨h.1, fun k hk => by
  rw [h.2 k hk]
  congr 2
  have : ((k : Int), o) ≠ v := fun e => hv (by rw [← e])
  simp [this]⟩
theorem SB.mark {n : Nat} {o : Bool} {F : List Vis} {bs : List SV} {v : Vis} (h : SB n o F bs) (hv : v.2 = o) (h0 : 0 ≤ v.1) : SB n o (F ++ [v]) (bs.set v.1.toNat (.bool true)) := by
  refine ⟨by simpa using h.1, fun k hk => ?_⟩
  rw [List.getElem?_set]
  split
  · rename_i he
    subst he
    rw [if_pos (by rw [h.1]; exact hk)]
    have : (((v.1.toNat : Nat) : Int), o) = v := by
      rcases v with ⟨a, b⟩
      simp only at hv h0 ⊢
      subst hv
      congr 1
      omega
    rw [this]; simp
  · rename_i he
    rw [h.2 k hk]
    have : ((k : Int), o) ≠ v := fun e => he (by rw [← e]; simp)
    simp [this]
structure St15 (h0 h : Heap) (so su : SV) (n : Nat) (F : List Vis) : Prop where
  e : Ext h0 h
  o : ∃ bs, Own h0 h so bs ∧ SB n true F bs
  u : ∃ bs, Own h0 h su bs ∧ SB n false F bs
  ap : Apart so su
  rg : ∀ v ∈ F, 0 ≤ v.1 ∧ v.1 < n
  nd : F.Nodup
theorem St15.ext {h0 h h' : Heap} {so su : SV} {n : Nat} {F : List Vis} (s : St15 h0 h so su n F) (e : Ext h h') : St15 h0 h' so su n F := by
  obtain ⟨bs, o1, o2⟩ := s.o
  obtain ⟨bu, u1, u2⟩ := s.u
  exact ⟨s.e.trans e, ⟨bs, o1.ext e, o2⟩, ⟨bu, u1.ext e, u2⟩, s.ap, s.rg, s.nd⟩
theorem nodup_snoc {F : List Vis} {v : Vis} (h : F.Nodup) (hv : v ∉ F) : (F ++ [v]).Nodup := by
  rw [List.nodup_append]
  exact ⟨h, by simp, fun a ha b hb => by simp at hb; subst hb; exact fun e => hv (by rw [← e]; exact ha)⟩

theorem key_of {v : Vis} {o : Bool} (ho : v.2 = o) (h : 0 ≤ v.1) : (((v.1.toNat : Nat) : Int), o) = v := by
  rcases v with ⟨a, b⟩
  simp only at ho h ⊢
  subst ho
  congr 1; omega
theorem rg_snoc {F : List Vis} {n : Nat} {v : Vis} (h : ∀ u ∈ F, 0 ≤ u.1 ∧ u.1 < (n : Int)) (hv : 0 ≤ v.1 ∧ v.1 < (n : Int)) : ∀ u ∈ F ++ [v], 0 ≤ u.1 ∧ u.1 < (n : Int) := fun u hu => by
  rcases List.mem_append.1 hu with hu | hu
  · exact h u hu
  · simp only [List.mem_singleton] at hu; subst hu; exact hv
theorem St15.seenO {h0 h : Heap} {so su : SV} {n : Nat} {F : List Vis} {v : Vis} (s : St15 h0 h so su n F) (hv : 0 ≤ v.1 ∧ v.1 < (n : Int)) (hm : v ∈ F) (ho : v.2 = true) :
    ∃ id cap, so = .slc id 0 n cap ∧ readN h id (0 + v.1.toNat * 1) 1 = some [.bool true] := by
  obtain ⟨bs, o1, o2⟩ := s.o
  have hb := o2.2 v.1.toNat (by omega)
  rw [key_of ho hv.1, decide_eq_true hm] at hb
  obtain ⟨id, cap, e, r⟩ := Own.rd o1 hb
  exact ⟨id, cap, by rw [e, o2.1], r⟩
theorem St15.seenU {h0 h : Heap} {so su : SV} {n : Nat} {F : List Vis} {v : Vis} (s : St15 h0 h so su n F) (hv : 0 ≤ v.1 ∧ v.1 < (n : Int)) (hm : v ∈ F) (ho : v.2 = false) :
    ∃ id cap, su = .slc id 0 n cap ∧ readN h id (0 + v.1.toNat * 1) 1 = some [.bool true] := by
  obtain ⟨bs, o1, o2⟩ := s.u
  have hb := o2.2 v.1.toNat (by omega)
  rw [key_of ho hv.1, decide_eq_true hm] at hb
  obtain ⟨id, cap, e, r⟩ := Own.rd o1 hb
  exact ⟨id, cap, by rw [e, o2.1], r⟩
theorem own_same {h0 h : Heap} {s : SV} {bs : List SV} {i : Nat} {x : SV} (he : Ext h0 h) (ho : Own h0 h s bs) (hb : bs[i]? = some x) (y : SV) :
    ∃ id cap h3, s = .slc id 0 bs.length cap ∧ readN h id (0 + i * 1) 1 = some [x] ∧ writeN h id (0 + i * 1) [y] = some h3 ∧ Own h0 h3 s (bs.set i y) ∧ Ext h0 h3 ∧ Fram h h3 s s := by
  obtain ⟨id, cap, e, r⟩ := Own.rd ho hb
  obtain ⟨id3, cap3, h3, e3, w3, o3, x3, f3, -⟩ := Own.wr he ho (List.getElem?_eq_some_iff.1 hb).1 y
  have es := e.symm.trans e3
  simp only [SV.slc.injEq, true_and] at es
  obtain ⟨rfl, rfl⟩ := es
  exact ⟨id, cap, h3, e, r, w3, o3, x3, f3⟩
theorem St15.stepO {h0 h : Heap} {so su : SV} {n : Nat} {F : List Vis} {v : Vis} (s : St15 h0 h so su n F) (hv : 0 ≤ v.1 ∧ v.1 < (n : Int)) (hm : v ∉ F) (ho : v.2 = true) :
    ∃ id cap h3, so = .slc id 0 n cap ∧ readN h id (0 + v.1.toNat * 1) 1 = some [.bool false] ∧ writeN h id (0 + v.1.toNat * 1) [.bool true] = some h3 ∧ St15 h0 h3 so su n (F ++ [v]) := by
  obtain ⟨bs, o1, o2⟩ := s.o
  obtain ⟨bu, u1, u2⟩ := s.u
  have hb := o2.2 v.1.toNat (by omega)
  rw [key_of ho hv.1, decide_eq_false hm] at hb
  obtain ⟨id, cap, h3, e, r, w3, o3, x3, f3⟩ := own_same s.e o1 hb (.bool true)
  exact ⟨id, cap, h3, by rw [e, o2.1], r, w3, x3, ⟨_, o3, o2.mark ho hv.1⟩, ⟨bu, Own.away u1 f3 s.ap, u2.other (by rw [ho]; decide)⟩, s.ap, rg_snoc s.rg hv, nodup_snoc s.nd hm⟩
theorem St15.stepU {h0 h : Heap} {so su : SV} {n : Nat} {F : List Vis} {v : Vis} (s : St15 h0 h so su n F) (hv : 0 ≤ v.1 ∧ v.1 < (n : Int)) (hm : v ∉ F) (ho : v.2 = false) :
    ∃ id cap h3, su = .slc id 0 n cap ∧ readN h id (0 + v.1.toNat * 1) 1 = some [.bool false] ∧ writeN h id (0 + v.1.toNat * 1) [.bool true] = some h3 ∧ St15 h0 h3 so su n (F ++ [v]) := by
  obtain ⟨bs, o1, o2⟩ := s.u
  obtain ⟨bu, u1, u2⟩ := s.o
  have hb := o2.2 v.1.toNat (by omega)
  rw [key_of ho hv.1, decide_eq_false hm] at hb
  obtain ⟨id, cap, h3, e, r, w3, o3, x3, f3⟩ := own_same s.e o1 hb (.bool true)
  exact ⟨id, cap, h3, by rw [e, o2.1], r, w3, x3, ⟨bu, Own.away u1 f3 s.ap.symm, u2.other (by rw [ho]; decide)⟩, ⟨_, o3, o2.mark ho hv.1⟩, s.ap, rg_snoc s.rg hv, nodup_snoc s.nd hm⟩

def I15v (h0 : Heap) (X t so su : SV) (g : GC) (i : Nat) (vs : List Vis) (E : Env) (h : Heap) : Prop := ∃ k : Nat, k ≤ vs.length ∧ St15 h0 h so su g.S.length ((g.C.take i).flatten ++ vs.take k) ∧
  E = [(3, some (.sc (.int .i64 (g.S.length : Nat)))), (6, some (.sc so)), (7, some (.sc su)), (8, some (.sc (.int .i64 (((g.C.take i).flatten ++ vs.take k).length : Nat)))), (48, some (.sc X)), (49, some (.sc (.int .i64 (g.C.length : Nat)))), (50, some (.sc (.int .i64 (i : Nat)))), (57, some (.sc t)), (58, some (.sc (.int .i64 (vs.length : Nat)))), (59, some (.sc (.int .i64 (k : Nat))))]
def R15v (h0 : Heap) (X so su : SV) (g : GC) (i : Nat) (vs : List Vis) (ex : Ex) (E : Env) (h : Heap) : Prop := Ext h0 h ∧ match ex with
  | .rt => E = [(2, some (.sc (.bool false)))] ∧ ¬ VG g
  | .ex z => z = 4 ∧ St15 h0 h so su g.S.length ((g.C.take i).flatten ++ vs) ∧ ∃ a b c d,
      E = [(3, some (.sc (.int .i64 (g.S.length : Nat)))), (6, some (.sc so)), (7, some (.sc su)), (8, some (.sc (.int .i64 (((g.C.take i).flatten ++ vs).length : Nat)))), (48, some (.sc X)), (49, some (.sc (.int .i64 (g.C.length : Nat)))), (50, some (.sc (.int .i64 (i : Nat)))), (57, a), (58, b), (59, c), (60, d)]
  | .nm => False
set_option maxHeartbeats 4000000 in
theorem round15v (h0 : Heap) (X t so su : SV) (g : GC) (hf : Fits g) (i : Nat) (vs : List Vis) (hi : g.C[i]? = some vs) (ht : IsVis h0 t vs) (E : Env) (h : Heap) (hI : I15v h0 X t so su g i vs E h) :
    wA FT HKt b15L2 (E.keep [3, 6, 7, 8, 48, 49, 50, 57, 58, 59]) h (wRound (I15v h0 X t so su g i vs) (cnt vs.length 59) (cnt vs.length 59 E h) (R15v h0 X so su g i vs)) := by
  obtain ⟨k, hk, s, rfl⟩ := hI
  have hfl : ((g.C.take i).flatten ++ vs).length ≤ 1000000 := by
    have e : g.C.flatten = (g.C.take i).flatten ++ (vs ++ (g.C.drop (i + 1)).flatten) := by
      conv => lhs; rw [← List.take_append_drop i g.C]
      obtain ⟨h9, h10⟩ := List.getElem?_eq_some_iff.1 hi
      rw [List.flatten_append, List.drop_eq_getElem_cons h9, h10, List.flatten_cons]
    have := hf.v
    rw [e] at this
    simp only [List.length_append] at this ⊢
    omega
  have hsn := hf.s
  have hvl : vs.length ≤ 1000000 := by simp only [List.length_append] at hfl; omega
  by_cases hlt : k < vs.length
  · obtain ⟨v, hx⟩ : ∃ v, vs[k]? = some v := ⟨_, List.getElem?_eq_getElem hlt⟩
    have hv := mem_flat hi hx
    have hvn := hf.n v hv
    obtain ⟨id, off, cap, rfl, hrd⟩ := (ht.ext s.e).at hx
    have en : vs.take (k + 1) = vs.take k ++ [v] := take_snoc hx
    have eF : (g.C.take i).flatten ++ vs.take (k + 1) = ((g.C.take i).flatten ++ vs.take k) ++ [v] := by rw [en, List.append_assoc]
    have hlF : (((g.C.take i).flatten ++ vs.take k).length : Int) + 1 = ((((g.C.take i).flatten ++ vs.take (k + 1)).length : Nat) : Int) := by rw [eF]; simp; omega
    have hlk : ((g.C.take i).flatten ++ vs.take k).length ≤ 1000000 := by
      simp only [List.length_append, List.length_take] at hfl ⊢; omega
    by_cases hneg : v.1 < 0
    · have hno : ¬ VG g := fun hg => by have := hg.2.2.2.2.1 v hv; omega
      repeat' (first | refine w_seq ?_ | refine w_seqN ?_ | refine w_seqR ?_ | refine w_blk ?_ | refine w_blkR ?_ | refine w_skip ?_ | refine w_ret ?_ | refine w_ops ?_ | ((refine i_cond ?_); refine w_condT rfl ?_) | ((refine i_nil ?_); first | refine w_end1 rfl ?_ | refine w_end11 rfl rfl rfl rfl rfl rfl rfl rfl rfl rfl rfl ?_ | refine w_end12 rfl rfl rfl rfl rfl rfl rfl rfl rfl rfl rfl rfl ?_) | ((refine i_cons ?_); first | refine k_idxA rfl rfl (by omega) ?_ | refine op_ldA rfl rfl hrd ?_ | (refine k_newst rfl ?_; intro h1 e1 c1) | refine k_fldA rfl ?_ | refine k_ldC0 rfl c1 ?_ | refine k_skip rfl ?_ | refine k_mv rfl ?_ | refine k_pickT rfl rfl ?_ | refine k_lssT rfl rfl (by omega) ?_))
      exact w_roundR ⟨s.e.trans e1, rfl, hno⟩
    · by_cases hbig : (g.S.length : Int) ≤ v.1
      · have hno : ¬ VG g := fun hg => by have := hg.2.2.2.2.1 v hv; omega
        repeat' (first | refine w_seq ?_ | refine w_seqN ?_ | refine w_seqR ?_ | refine w_blk ?_ | refine w_blkR ?_ | refine w_skip ?_ | refine w_ret ?_ | refine w_ops ?_ | ((refine i_cond ?_); refine w_condT rfl ?_) | ((refine i_nil ?_); first | refine w_end1 rfl ?_ | refine w_end11 rfl rfl rfl rfl rfl rfl rfl rfl rfl rfl rfl ?_ | refine w_end12 rfl rfl rfl rfl rfl rfl rfl rfl rfl rfl rfl rfl ?_) | ((refine i_cons ?_); first | refine k_idxA rfl rfl (by omega) ?_ | refine op_ldA rfl rfl hrd ?_ | (refine k_newst rfl ?_; intro h1 e1 c1) | refine k_fldA rfl ?_ | refine k_ldC0 rfl c1 ?_ | refine k_want rfl ?_ | refine k_mv rfl ?_ | refine k_pickF rfl rfl ?_ | refine k_lssT rfl rfl (by omega) ?_ | refine k_lssF rfl rfl (by omega) ?_ | refine k_geqT rfl rfl (by omega) ?_))
        exact w_roundR ⟨s.e.trans e1, rfl, hno⟩
      · have hin : v.1.toNat < g.S.length := by omega
        have hkey : ∀ o : Bool, v.2 = o → (((v.1.toNat : Nat) : Int), o) = v := fun o ho => by
          rcases v with ⟨a, b⟩
          simp only at ho hneg ⊢
          subst ho
          congr 1; omega
        have hdup : v ∈ (g.C.take i).flatten ++ vs.take k → ¬ VG g := fun hm hg => by
          have hnd := hg.2.2.2.2.2.1
          have e : g.C.flatten = ((g.C.take i).flatten ++ vs.take k) ++ (v :: (vs.drop (k + 1) ++ (g.C.drop (i + 1)).flatten)) := by
            conv => lhs; rw [← List.take_append_drop i g.C]
            obtain ⟨h9, h10⟩ := List.getElem?_eq_some_iff.1 hi
            obtain ⟨h11, h12⟩ := List.getElem?_eq_some_iff.1 hx
            rw [List.flatten_append, List.drop_eq_getElem_cons h9, h10, List.flatten_cons]
            conv => lhs; rw [← List.take_append_drop k vs]
            rw [List.drop_eq_getElem_cons h11, h12]
            simp
          rw [e, List.nodup_append] at hnd
          exact hnd.2.2 v hm v (by simp) rfl
        have hvr : 0 ≤ v.1 ∧ v.1 < (g.S.length : Int) := by omega
        cases ho : v.2 with
        | true =>
          by_cases hm : v ∈ (g.C.take i).flatten ++ vs.take k
          · have hno := hdup hm
            repeat' (first | refine w_seq ?_ | refine w_seqN ?_ | refine w_seqR ?_ | refine w_blk ?_ | refine w_blkR ?_ | refine w_skip ?_ | refine w_ret ?_ | refine w_ops ?_ | ((refine i_cond ?_); first | refine w_condT rfl ?_ | refine w_condF rfl ?_) | ((refine i_nil ?_); first | refine w_end1 rfl ?_ | refine w_end11 rfl rfl rfl rfl rfl rfl rfl rfl rfl rfl rfl ?_ | refine w_end12 rfl rfl rfl rfl rfl rfl rfl rfl rfl rfl rfl rfl ?_ | refine w_end13 rfl rfl rfl rfl rfl rfl rfl rfl rfl rfl rfl rfl rfl ?_) | ((refine i_cons ?_); first | refine k_idxA (esz := 2) rfl rfl (by omega) ?_ | refine op_ldA rfl rfl hrd ?_ | (refine k_newst rfl ?_; intro h1 e1 c1; rw [ho] at c1; obtain ⟨id2, cap2, e2, r2⟩ := (s.ext e1).seenO hvr hm ho; subst e2) | refine k_fldA rfl ?_ | refine k_ldC0 rfl c1 ?_ | refine k_ldC1 rfl c1 ?_ | refine k_idxA (esz := 1) rfl rfl (by omega) ?_ | refine k_ld rfl r2 ?_ | refine k_want rfl ?_ | refine k_mv rfl ?_ | refine k_pickF rfl rfl ?_ | refine k_lssT rfl rfl (by omega) ?_ | refine k_lssF rfl rfl (by omega) ?_ | refine k_geqF rfl rfl (by omega) ?_))
            exact w_roundR ⟨s.e.trans e1, rfl, hno⟩
          · repeat' (first | refine w_seq ?_ | refine w_seqN ?_ | refine w_blk ?_ | refine w_blkN ?_ | refine w_skip ?_ | refine w_ops ?_ | ((refine i_cond ?_); first | refine w_condT rfl ?_ | refine w_condF rfl ?_) | ((refine i_nil ?_); first | refine w_end10 rfl rfl rfl rfl rfl rfl rfl rfl rfl rfl ?_ | refine w_end11 rfl rfl rfl rfl rfl rfl rfl rfl rfl rfl rfl ?_ | refine w_end12 rfl rfl rfl rfl rfl rfl rfl rfl rfl rfl rfl rfl ?_ | refine w_end13 rfl rfl rfl rfl rfl rfl rfl rfl rfl rfl rfl rfl rfl ?_) | ((refine i_cons ?_); first | refine k_idxA (esz := 2) rfl rfl (by omega) ?_ | refine op_ldA rfl rfl hrd ?_ | (refine k_newst rfl ?_; intro h1 e1 c1; rw [ho] at c1; obtain ⟨id2, cap2, h3, e2, r2, w3, q3⟩ := (s.ext e1).stepO hvr hm ho; rw [← eF] at q3; subst e2) | refine k_fldA rfl ?_ | refine k_ldC0 rfl c1 ?_ | refine k_ldC1 rfl c1 ?_ | refine k_idxA (esz := 1) rfl rfl (by omega) ?_ | refine k_ld rfl r2 ?_ | refine k_st2 rfl rfl w3 ?_ | refine k_want rfl ?_ | refine k_mv rfl ?_ | refine k_pickF rfl rfl ?_ | refine k_add rfl rfl (by omega) ?_ | refine k_lssT rfl rfl (by omega) ?_ | refine k_lssF rfl rfl (by omega) ?_ | refine k_geqF rfl rfl (by omega) ?_))
            exact w_roundN ⟨k + 1, by omega, q3, by rw [← hlF]; rfl⟩ (by simp [cnt, Env.get]; omega)
        | false =>
          by_cases hm : v ∈ (g.C.take i).flatten ++ vs.take k
          · have hno := hdup hm
            repeat' (first | refine w_seq ?_ | refine w_seqN ?_ | refine w_seqR ?_ | refine w_blk ?_ | refine w_blkR ?_ | refine w_skip ?_ | refine w_ret ?_ | refine w_ops ?_ | ((refine i_cond ?_); first | refine w_condT rfl ?_ | refine w_condF rfl ?_) | ((refine i_nil ?_); first | refine w_end1 rfl ?_ | refine w_end11 rfl rfl rfl rfl rfl rfl rfl rfl rfl rfl rfl ?_ | refine w_end12 rfl rfl rfl rfl rfl rfl rfl rfl rfl rfl rfl rfl ?_ | refine w_end13 rfl rfl rfl rfl rfl rfl rfl rfl rfl rfl rfl rfl rfl ?_) | ((refine i_cons ?_); first | refine k_idxA (esz := 2) rfl rfl (by omega) ?_ | refine op_ldA rfl rfl hrd ?_ | (refine k_newst rfl ?_; intro h1 e1 c1; rw [ho] at c1; obtain ⟨id2, cap2, e2, r2⟩ := (s.ext e1).seenU hvr hm ho; subst e2) | refine k_fldA rfl ?_ | refine k_ldC0 rfl c1 ?_ | refine k_ldC1 rfl c1 ?_ | refine k_idxA (esz := 1) rfl rfl (by omega) ?_ | refine k_ld rfl r2 ?_ | refine k_want rfl ?_ | refine k_mv rfl ?_ | refine k_pickF rfl rfl ?_ | refine k_lssT rfl rfl (by omega) ?_ | refine k_lssF rfl rfl (by omega) ?_ | refine k_geqF rfl rfl (by omega) ?_))
            exact w_roundR ⟨s.e.trans e1, rfl, hno⟩
          · repeat' (first | refine w_seq ?_ | refine w_seqN ?_ | refine w_blk ?_ | refine w_blkN ?_ | refine w_skip ?_ | refine w_ops ?_ | ((refine i_cond ?_); first | refine w_condT rfl ?_ | refine w_condF rfl ?_) | ((refine i_nil ?_); first | refine w_end10 rfl rfl rfl rfl rfl rfl rfl rfl rfl rfl ?_ | refine w_end11 rfl rfl rfl rfl rfl rfl rfl rfl rfl rfl rfl ?_ | refine w_end12 rfl rfl rfl rfl rfl rfl rfl rfl rfl rfl rfl rfl ?_ | refine w_end13 rfl rfl rfl rfl rfl rfl rfl rfl rfl rfl rfl rfl rfl ?_) | ((refine i_cons ?_); first | refine k_idxA (esz := 2) rfl rfl (by omega) ?_ | refine op_ldA rfl rfl hrd ?_ | (refine k_newst rfl ?_; intro h1 e1 c1; rw [ho] at c1; obtain ⟨id2, cap2, h3, e2, r2, w3, q3⟩ := (s.ext e1).stepU hvr hm ho; rw [← eF] at q3; subst e2) | refine k_fldA rfl ?_ | refine k_ldC0 rfl c1 ?_ | refine k_ldC1 rfl c1 ?_ | refine k_idxA (esz := 1) rfl rfl (by omega) ?_ | refine k_ld rfl r2 ?_ | refine k_st2 rfl rfl w3 ?_ | refine k_want rfl ?_ | refine k_mv rfl ?_ | refine k_pickF rfl rfl ?_ | refine k_add rfl rfl (by omega) ?_ | refine k_lssT rfl rfl (by omega) ?_ | refine k_lssF rfl rfl (by omega) ?_ | refine k_geqF rfl rfl (by omega) ?_))
            exact w_roundN ⟨k + 1, by omega, q3, by rw [← hlF]; rfl⟩ (by simp [cnt, Env.get]; omega)
  · have hke : k = vs.length := by omega
    subst hke
    rw [List.take_length] at s ⊢
    repeat' (first | refine w_seq ?_ | refine w_seqN ?_ | refine w_seqX ?_ | refine w_exit ?_ | refine w_ops ?_ | ((refine i_cond ?_); refine w_condF rfl ?_) | ((refine i_nil ?_); refine w_end11 rfl rfl rfl rfl rfl rfl rfl rfl rfl rfl rfl ?_) | ((refine i_cons ?_); refine k_lssF rfl rfl (by omega) ?_))
    exact w_roundX ⟨s.e, rfl, s, _, _, _, _, rfl⟩
end Go.Proofs.YtjmapbmdfbdomaaDoor
