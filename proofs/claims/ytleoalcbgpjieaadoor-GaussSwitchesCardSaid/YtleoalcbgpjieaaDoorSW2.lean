/- The law GaussSwitches: its loops. -/
import Derived.Test.YtleoalcbgpjieaaDoorSW1
import Derived.Test.YtleoalcbgpjieaaDoorAb38
namespace Go.Proofs.YtleoalcbgpjieaaDoor
open Go.Ab
set_option linter.unusedVariables false
set_option linter.unusedSimpArgs false
set_option maxRecDepth 20000
set_option maxHeartbeats 4000000
attribute [local irreducible] wOps wA wSeq wBlk wRound wRoundI wOpsD wOpsS

/-! ### A visit more, and what else lies there -/
theorem push2F {h0 h : Heap} {s : SV} {n : Nat} {cs : List SV} {bytes : Nat} (he : Ext h0 h) (ho : Own2 h0 h s n cs) (hb : (n + 1) * (bytes + 1) ≤ bigN) (a b : SV) :
    ∃ s' h', appS (h ++ [.cells [a, b] true 2]) 2 bytes s 1 [a, b] = some (s', h') ∧ Own2 h0 h' s' (n + 1) (cs ++ [a, b]) ∧ Ext h0 h' ∧ Fram h h' s s' ∧ h.length ≤ h'.length := by
  have hl := Ext.len he
  rcases ho with ⟨rfl, rfl, rfl⟩ | ⟨id, rfl, h2, h3, h4, h5⟩
  · refine ⟨.slc (h ++ [Blk.cells [a, b] true 2]).length 0 1 none, (h ++ [.cells [a, b] true 2]) ++ [.cells [a, b] true 2], ?_, .inr ⟨_, rfl, by simp; omega, by simp, rfl, by omega⟩, (he.app _).app _, fun j x hj _ => ?_, by simp⟩
    · simp only [appS]
      rw [if_neg (by omega), if_pos (by omega)]
    · have := (List.getElem?_eq_some_iff.1 hj).1
      refine ⟨by rw [List.getElem?_append_left (by simp; omega), List.getElem?_append_left this]; exact hj, fun o n c e => ?_⟩
      cases e; simp at this; omega
  · have hid := (List.getElem?_eq_some_iff.1 h3).1
    have h3' : (h ++ [Blk.cells [a, b] true 2])[id]? = some (.cells cs true 2) := by rw [List.getElem?_append_left hid]; exact h3
    have hc : cut cs 0 (n * 2) = some cs := by
      unfold cut
      rw [if_pos (by omega), List.drop_zero, List.take_of_length_le (by omega)]
    refine ⟨.slc (h ++ [Blk.cells [a, b] true 2]).length 0 (n + 1) none, (h ++ [Blk.cells [a, b] true 2]).set id (Blk.dead 2) ++ [Blk.cells (cs ++ [a, b]) true 2], ?_, .inr ⟨_, rfl, by simp; omega, ?_, by simp [h4]; omega, by omega⟩, ?_, fun j x hj hn => ?_, by simp; omega⟩
    · simp only [appS]
      rw [if_neg (by omega), if_pos (by omega), h3']
      simp only [if_true, ez2, hc]
      rw [if_pos ⟨trivial, .inl rfl⟩]
    · rw [List.getElem?_append_right (by simp)]; simp
    · exact ((he.app _).set h2 _).app _
    · have hjl := (List.getElem?_eq_some_iff.1 hj).1
      refine ⟨?_, fun o n c e => ?_⟩
      · rw [List.getElem?_append_left (by simp; omega), List.getElem?_set_ne (fun e => hn _ _ _ (by rw [e])), List.getElem?_append_left hjl]
        exact hj
      · cases e; simp at hjl; omega
section
variable {FT : FuncId → Option AFun} {HK : FuncId → Option Hook} {E : Env} {h h0 : Heap} {K : Env → Heap → Prop} {d : Option Nat} {r : List AOp} {xo so : AO}
theorem k_push2F {t n bytes : Nat} {s a b z0 z1 : SV} {cs z2 : List SV} (he : Ext h0 h) (ho : Own2 h0 h s n cs) (hx : ev E xo = some (.agg [a, b])) (hs : evS (bindE (some t) (some (.sc (.slc h.length 0 1 (some 1)))) E) so = some s) (hb : (n + 1) * (bytes + 1) ≤ bigN)
    (hw : ∀ s' h', Own2 h0 h' s' (n + 1) (cs ++ [a, b]) → Ext h0 h' → Fram h h' s s' → h.length ≤ h'.length → wOps FT HK r (bindE d (some (.sc s')) (bindE (some t) (some (.sc (.slc h.length 0 1 (some 1)))) E)) h' K) :
    wOps FT HK (⟨some t, .bsl 2 [z0, z1] 1 [(0, xo)], none⟩ :: ⟨d, .app 2 bytes z2 so (.t t), none⟩ :: r) E h K := by
  obtain ⟨s', h', h1, h2, h3, h4, h5⟩ := push2F (bytes := bytes) he ho hb a b
  refine op_ok (v := some (.sc (.slc h.length 0 1 (some 1)))) (h' := h ++ [.cells [a, b] true 2]) rfl rfl ?_ ?_
  · simp [step1, evParts, hx, AV.cells, fillA, rep, splice, ez2]
  refine op_ok (v := some (.sc s')) (h' := h') rfl rfl ?_ (hw s' h' h2 h3 h4 h5)
  have e1 : evS (bindE (some t) (some (.sc (.slc h.length 0 1 (some 1)))) E) (.t t) = some (.slc h.length 0 1 (some 1)) := by simp [evS, ev, bindE, Env.get]
  have e2 : srcCells (h ++ [Blk.cells [a, b] true 2]) 2 (.slc h.length 0 1 (some 1)) = some (1, [a, b]) := by simp [srcCells, readN, cut]
  simp only [step1, hs, e1, Option.bind_some, ez2, e2, h1, Option.map_some]
end
theorem Own2.away {h0 h h' : Heap} {s s' t : SV} {n : Nat} {cs : List SV} (ht : Own2 h0 h t n cs) (hf : Fram h h' s s') (ha : Ab.Apart s t) : Own2 h0 h' t n cs ∧ Ab.Apart s' t := by
  rcases ht with ⟨rfl, h1, h2⟩ | ⟨id, rfl, h2, h3, h4, h5⟩
  · exact ⟨.inl ⟨rfl, h1, h2⟩, fun j => .inr fun o n c e => by cases e⟩
  · have hn : NotAt s id := (ha id).resolve_right fun h => h _ _ _ rfl
    obtain ⟨k1, k2⟩ := hf _ _ h3 hn
    refine ⟨.inr ⟨id, rfl, h2, k1, h4, h5⟩, fun j => ?_⟩
    by_cases e : j = id
    · subst e; exact .inl k2
    · exact .inr fun o n c e' => by cases e'; exact e rfl
theorem Own2.fsh {h0 h : Heap} {s : SV} {n : Nat} {cs : List SV} (ho : Own2 h0 h s n cs) : Fsh h0 s := fun j hj => by
  rcases ho with ⟨rfl, -⟩ | ⟨id, rfl, h2, -⟩
  · exact fsh_nil h0 j hj
  · intro o n c e; cases e; omega
/-! ### One sequence -/
def bkT (vs : List Vis) (k : Nat) : List Vis := vs.reverse.take k
def swT (x : Nat) (vs : List Vis) (k : Nat) : List Vis := (vs.take k).map (swV x)
def I4v (hb : Heap) (q8 q9 : Nat) (G Er : Int) (x n i : Nat) (X t : SV) (vs : List Vis) (E : Env) (h : Heap) : Prop := ∃ (k : Nat) (u w : SV), k ≤ vs.length ∧ Ext hb h ∧ Own2 hb h u k (vcs (swT x vs k)) ∧ Own2 hb h w k (vcs (bkT vs k)) ∧ Ab.Apart u w ∧
  E.keep [5, 6, 7, 8, 9, 11, 12, 13, 73, 74, 75, 79, 80, 81] = [(5, some (.sc (.int .i64 G))), (6, some (.sc (.int .i64 Er))), (7, some (.sc (.int .i64 (x : Nat)))), (8, some (.sc (.ptr q8 0))), (9, some (.sc (.ptr q9 0))), (11, some (.sc t)), (12, some (.sc u)), (13, some (.sc w)), (73, some (.sc X)), (74, some (.sc (.int .i64 (n : Nat)))), (75, some (.sc (.int .i64 (i : Nat)))), (79, some (.sc t)), (80, some (.sc (.int .i64 (vs.length : Nat)))), (81, some (.sc (.int .i64 (k : Nat))))]
def R4v (hb : Heap) (q8 q9 : Nat) (G Er : Int) (x n i : Nat) (X : SV) (vs : List Vis) (ex : Ex) (E : Env) (h : Heap) : Prop := ex = .ex 2 ∧ Ext hb h ∧ ∃ (u w : SV) (a b c d e : Option AV), Own2 hb h u vs.length (vcs (vs.map (swV x))) ∧ Own2 hb h w vs.length (vcs vs.reverse) ∧ Ab.Apart u w ∧
  E = [(5, some (.sc (.int .i64 G))), (6, some (.sc (.int .i64 Er))), (7, some (.sc (.int .i64 (x : Nat)))), (8, some (.sc (.ptr q8 0))), (9, some (.sc (.ptr q9 0))), (11, a), (12, some (.sc u)), (13, some (.sc w)), (73, some (.sc X)), (74, some (.sc (.int .i64 (n : Nat)))), (75, some (.sc (.int .i64 (i : Nat)))), (79, b), (80, c), (81, d), (82, e)]
theorem round4v (hb : Heap) (q8 q9 : Nat) (G Er : Int) (x n i : Nat) (X t : SV) (vs : List Vis) (ht : IsVis hb t vs) (hl : vs.length ≤ 1000000) (hn : n ≤ 1000000 ∧ i ≤ n ∧ x ≤ 1000000) (E : Env) (h : Heap) (hI : I4v hb q8 q9 G Er x n i X t vs E h) :
    wA FT HKt b4L1 (E.keep [5, 6, 7, 8, 9, 11, 12, 13, 73, 74, 75, 79, 80, 81]) h (wRound (I4v hb q8 q9 G Er x n i X t vs) (cKK [5, 6, 7, 8, 9, 11, 12, 13, 73, 74, 75, 79, 80, 81] vs.length 81) (cKK [5, 6, 7, 8, 9, 11, 12, 13, 73, 74, 75, 79, 80, 81] vs.length 81 E h) (R4v hb q8 q9 G Er x n i X vs)) := by
  obtain ⟨k, u, w, hk, e, ou, ow, ap, hE⟩ := hI
  have hm : cKK [5, 6, 7, 8, 9, 11, 12, 13, 73, 74, 75, 79, 80, 81] vs.length 81 E h = vs.length - k := by unfold cKK; rw [hE]; rfl
  rw [hm, hE]
  have lt := ht.len
  by_cases hlt : k < vs.length
  · obtain ⟨v, hx⟩ : ∃ v, vs[k]? = some v := ⟨_, List.getElem?_eq_getElem hlt⟩
    obtain ⟨v', hx'⟩ : ∃ v', vs[vs.length - 1 - k]? = some v' := ⟨_, List.getElem?_eq_getElem (by omega)⟩
    obtain ⟨id, off, cap, rfl, hrd0⟩ := ht.at hx
    obtain ⟨id', off', cap', e', hrd1⟩ := ht.at hx'
    cases e'
    have hrd := readN_ext e hrd0
    have ei : ((vs.length : Int) - 1 - (k : Int)).toNat = vs.length - 1 - k := by omega
    rw [← ei] at hrd1
    have en1 : vcs (swT x vs (k + 1)) = vcs (swT x vs k) ++ [.int .i64 v.1, .bool (v.2 != (v.1 == (x : Int)))] := by
      unfold swT
      rw [take_snoc hx, List.map_append, vcs_app]; rfl
    have hr' : vs.reverse[k]? = some v' := by rw [List.getElem?_reverse hlt]; exact hx'
    have en2 : vcs (bkT vs (k + 1)) = vcs (bkT vs k) ++ [.int .i64 v'.1, .bool v'.2] := by
      unfold bkT
      rw [take_snoc hr', vcs_app]; rfl
    have fin : ∀ b : Bool, b = (v.2 != (v.1 == (x : Int))) → ∀ (h5 h6 : Heap) (u' w' : SV), Own2 hb h6 u' (k + 1) (vcs (swT x vs k) ++ [.int .i64 v.1, .bool b]) → Own2 hb h6 u' (k + 1) (vcs (swT x vs (k + 1))) := fun b hb' h5 h6 u' w' o => by rw [en1, ← hb']; exact o
    by_cases hvx : v.1 = (x : Int)
    · have hbx : (v.1 == (x : Int)) = true := by simp [hvx]
      rw [hbx] at fin
      repeat' (first | refine w_seq ?_ | refine w_seqN ?_ | refine w_blk ?_ | refine w_blkN ?_ | refine w_skip ?_ | refine w_ops ?_ | ((refine i_cond ?_); refine w_condT rfl ?_) | ((refine i_nil ?_); first | refine w_end14 rfl rfl rfl rfl rfl rfl rfl rfl rfl rfl rfl rfl rfl rfl ?_ | refine w_end15 rfl rfl rfl rfl rfl rfl rfl rfl rfl rfl rfl rfl rfl rfl rfl ?_ | refine w_end16 rfl rfl rfl rfl rfl rfl rfl rfl rfl rfl rfl rfl rfl rfl rfl rfl ?_) | ((refine i_cons ?_); first | refine k_idxA (esz := 2) rfl rfl (by omega) ?_ | (have z := o5; refine op_ldA rfl rfl hrd6 ?_) | refine op_ldA rfl rfl hrd ?_ | (refine k_newC ?_; intro h2 e2 c2) | (refine k_stC rfl rfl c2 ?_; intro h3 wr3; have e3 : Ext h h3 := wr3.ext e2 (Nat.le_refl _); have c3 := wr3.cel; have x3 := e.trans e3; have u3 := ou.ext e3; have w3 := ow.ext e3) | refine k_fldA rfl ?_ | refine k_ldC0 rfl c3 ?_ | refine k_ldC1 rfl c3 ?_ | refine k_beq rfl rfl ?_ | refine k_bld rfl rfl ?_ | (have z := o5; refine k_push2F x5 w5 rfl rfl (by simp only [bigN]; omega) ?_; intro w' h6 o6 x6 f6 l6) | (refine k_push2F x3 u3 rfl rfl (by simp only [bigN]; omega) ?_; intro u' h5 o5 x5 f5 l5; have hrd6 := readN_ext x5 hrd1; obtain ⟨w5, ap5⟩ := Own2.away w3 f5 ap) | refine k_len rfl lt ?_ | refine k_mv rfl ?_ | refine k_add rfl rfl (by omega) ?_ | refine k_sub rfl rfl (by omega) ?_ | refine k_lssT rfl rfl (by omega) ?_ | refine k_eqlT rfl rfl (by omega) ?_))
      obtain ⟨o6', ap6⟩ := Own2.away o5 f6 ap5.symm
      exact w_roundN ⟨k + 1, u', w', by omega, x6, fin _ (by cases v.2 <;> rfl) h5 h6 u' w' o6', by rw [en2]; exact o6, ap6.symm, rfl⟩ (by simp [cKK, Env.keep, Env.get]; omega)
    · have hbx : (v.1 == (x : Int)) = false := by simp [hvx]
      rw [hbx] at fin
      repeat' (first | refine w_seq ?_ | refine w_seqN ?_ | refine w_blk ?_ | refine w_blkN ?_ | refine w_skip ?_ | refine w_ops ?_ | ((refine i_cond ?_); refine w_condT rfl ?_) | ((refine i_nil ?_); first | refine w_end14 rfl rfl rfl rfl rfl rfl rfl rfl rfl rfl rfl rfl rfl rfl ?_ | refine w_end15 rfl rfl rfl rfl rfl rfl rfl rfl rfl rfl rfl rfl rfl rfl rfl ?_ | refine w_end16 rfl rfl rfl rfl rfl rfl rfl rfl rfl rfl rfl rfl rfl rfl rfl rfl ?_) | ((refine i_cons ?_); first | refine k_idxA (esz := 2) rfl rfl (by omega) ?_ | (have z := o5; refine op_ldA rfl rfl hrd6 ?_) | refine op_ldA rfl rfl hrd ?_ | (refine k_newC ?_; intro h2 e2 c2) | (refine k_stC rfl rfl c2 ?_; intro h3 wr3; have e3 : Ext h h3 := wr3.ext e2 (Nat.le_refl _); have c3 := wr3.cel; have x3 := e.trans e3; have u3 := ou.ext e3; have w3 := ow.ext e3) | refine k_fldA rfl ?_ | refine k_ldC0 rfl c3 ?_ | refine k_ldC1 rfl c3 ?_ | refine k_beq rfl rfl ?_ | refine k_bld rfl rfl ?_ | (have z := o5; refine k_push2F x5 w5 rfl rfl (by simp only [bigN]; omega) ?_; intro w' h6 o6 x6 f6 l6) | (refine k_push2F x3 u3 rfl rfl (by simp only [bigN]; omega) ?_; intro u' h5 o5 x5 f5 l5; have hrd6 := readN_ext x5 hrd1; obtain ⟨w5, ap5⟩ := Own2.away w3 f5 ap) | refine k_len rfl lt ?_ | refine k_mv rfl ?_ | refine k_add rfl rfl (by omega) ?_ | refine k_sub rfl rfl (by omega) ?_ | refine k_lssT rfl rfl (by omega) ?_ | refine k_eqlF rfl rfl (by omega) ?_))
      obtain ⟨o6', ap6⟩ := Own2.away o5 f6 ap5.symm
      exact w_roundN ⟨k + 1, u', w', by omega, x6, fin _ (by cases v.2 <;> rfl) h5 h6 u' w' o6', by rw [en2]; exact o6, ap6.symm, rfl⟩ (by simp [cKK, Env.keep, Env.get]; omega)
  · have hke : k = vs.length := by omega
    subst hke
    have e1 : swT x vs vs.length = vs.map (swV x) := by unfold swT; rw [List.take_length]
    have e2 : bkT vs vs.length = vs.reverse := by unfold bkT; rw [List.take_of_length_le (by simp)]
    rw [e1] at ou
    rw [e2] at ow
    repeat' (first | refine w_seq ?_ | refine w_seqN ?_ | refine w_seqX ?_ | refine w_exit ?_ | refine w_ops ?_ | ((refine i_cond ?_); refine w_condF rfl ?_) | ((refine i_nil ?_); refine w_end15 rfl rfl rfl rfl rfl rfl rfl rfl rfl rfl rfl rfl rfl rfl rfl ?_) | ((refine i_cons ?_); refine k_lssF rfl rfl (by omega) ?_))
    exact w_roundX ⟨rfl, e, u, w, _, _, _, _, _, ou, ow, ap, rfl⟩
end Go.Proofs.YtleoalcbgpjieaaDoor
