/- The law GaussEven: the map of the visits, while it is filled. -/
import Derived.Test.YtleoalcbgpjieaaDoorEV8
import Derived.Test.YtleoalcbgpjieaaDoorGM
import Derived.Test.YtleoalcbgpjieaaDoorAb52
import Derived.Test.YtleoalcbgpjieaaDoorAb38
import Derived.Test.YtleoalcbgpjieaaDoorAb50
namespace Go.Proofs.YtleoalcbgpjieaaDoor
open Go.Ab
set_option linter.unusedVariables false
set_option linter.unusedSimpArgs false
set_option maxRecDepth 20000
set_option maxHeartbeats 4000000

/-! ### Lists of entries -/
theorem getG_spec (es : EsG) (ns : List Int) : match getG es ns with
    | some v => (ns, v) ∈ es
    | none => ∀ p ∈ es, p.1 ≠ ns := by
  have := findIdx_G es ns
  cases hf : es.findIdx? (fun p => p.1 == ns) with
  | none => rw [hf] at this; rw [this.1]; exact this.2
  | some j =>
    rw [hf] at this
    obtain ⟨v, a, b⟩ := this
    rw [b]; exact List.mem_of_getElem? a
theorem nodup_key {es : EsG} (hn : (es.map (·.1)).Nodup) {p q : List Int × SV} (hp : p ∈ es) (hq : q ∈ es) (h : p.1 = q.1) : p = q := by
  induction es with
  | nil => simp at hp
  | cons a es ih =>
    rw [List.map_cons, List.nodup_cons] at hn
    rcases List.mem_cons.1 hp with e1 | hp2
    · rcases List.mem_cons.1 hq with e2 | hq2
      · rw [e1, e2]
      · exact absurd (List.mem_map.2 ⟨q, hq2, by rw [← h, e1]⟩) hn.1
    · rcases List.mem_cons.1 hq with e2 | hq2
      · exact absurd (List.mem_map.2 ⟨p, hp2, by rw [h, e2]⟩) hn.1
      · exact ih hn.2 hp2 hq2
theorem putG_spec {es : EsG} (hn : (es.map (·.1)).Nodup) (ns : List Int) (v : SV) : ((putG es ns v).map (·.1)).Nodup ∧ (∀ p, p ∈ putG es ns v ↔ p = (ns, v) ∨ (p ∈ es ∧ p.1 ≠ ns)) := by
  have := findIdx_G es ns
  unfold putG
  cases hf : es.findIdx? (fun p => p.1 == ns) with
  | none =>
    rw [hf] at this
    simp only []
    refine ⟨?_, fun p => ?_⟩
    · rw [List.map_append, List.nodup_append]
      refine ⟨hn, by simp, fun a ha b hb e => ?_⟩
      obtain ⟨p, hp, rfl⟩ := List.mem_map.1 ha
      simp only [List.map_cons, List.map_nil, List.mem_singleton] at hb
      exact this.2 p hp (e.trans hb)
    · rw [List.mem_append, List.mem_singleton]
      constructor
      · rintro (h | h)
        · exact .inr ⟨h, this.2 p h⟩
        · exact .inl h
      · rintro (h | h)
        · exact .inr h
        · exact .inl h.1
  | some j =>
    rw [hf] at this
    obtain ⟨w, a, -⟩ := this
    have hj := (List.getElem?_eq_some_iff.1 a).1
    simp only []
    have hk : (es.set j (ns, v)).map (·.1) = es.map (·.1) := by
      rw [List.map_set]
      refine List.ext_getElem? fun i => ?_
      by_cases e : j = i
      · subst e
        rw [List.getElem?_set_self (by simpa using hj), List.getElem?_map, a]; rfl
      · rw [List.getElem?_set_ne e]
    refine ⟨by rw [hk]; exact hn, fun p => ?_⟩
    constructor
    · intro hp
      obtain ⟨i, hi⟩ := List.mem_iff_getElem?.1 hp
      by_cases e : j = i
      · subst e
        rw [List.getElem?_set_self hj] at hi
        exact .inl (Option.some.inj hi).symm
      · rw [List.getElem?_set_ne e] at hi
        refine .inr ⟨List.mem_of_getElem? hi, fun hpn => e ?_⟩
        have h1 : (es.map (·.1))[i]? = some ns := by rw [List.getElem?_map, hi, ← hpn]; rfl
        have h2 : (es.map (·.1))[j]? = some ns := by rw [List.getElem?_map, a]; rfl
        obtain ⟨q1, q2⟩ := List.getElem?_eq_some_iff.1 h1
        obtain ⟨q3, q4⟩ := List.getElem?_eq_some_iff.1 h2
        exact (List.getElem_inj (h₀ := q3) (h₁ := q1) hn).1 (q4.trans q2.symm)
    · rintro (rfl | ⟨h1, h2⟩)
      · exact List.mem_iff_getElem?.2 ⟨j, List.getElem?_set_self hj⟩
      · obtain ⟨i, hi⟩ := List.mem_iff_getElem?.1 h1
        refine List.mem_iff_getElem?.2 ⟨i, ?_⟩
        have e : j ≠ i := fun e => by
          subst e
          rw [a] at hi
          exact h2 (by rw [← Option.some.inj hi])
        rw [List.getElem?_set_ne e]; exact hi

/-! ### The map of the visits -/
abbrev T3 := Int × Nat × Nat
abbrev zA : ESz := ⟨1001001, none⟩
abbrev zM : ESz := ⟨1002001, none⟩
theorem okA : OkG zA [] := ⟨by decide, by decide, by decide, by decide, by simp⟩
theorem okMM : OkG zM [] := ⟨by decide, by decide, by decide, by decide, by simp⟩
structure Ats (A h : Heap) (m : Nat) (W : List T3) (es : EsG) : Prop where
  ext : Ext A h
  ml : A.length ≤ m
  blk : h[m]? = some (MG zA es)
  ok : OkG zA es
  key : ∀ p ∈ es, ∃ c, p.1 = [c] ∧ c ∈ W.map (·.1)
  all : ∀ c ∈ W.map (·.1), ∃ p ∈ es, p.1 = [c]
  nd : (es.map (·.1)).Nodup
  own : ∀ p ∈ es, ∀ c, p.1 = [c] → Own A h p.2 (ints (conP W c)) ∧ NotAt p.2 m
  ap : ∀ p ∈ es, ∀ q ∈ es, p.1 ≠ q.1 → Ab.Apart p.2 q.2
theorem Ats.mlt {A h : Heap} {m : Nat} {W : List T3} {es : EsG} (s : Ats A h m W es) : m < h.length := (List.getElem?_eq_some_iff.1 s.blk).1
theorem Ats.go {A h h' : Heap} {m : Nat} {W : List T3} {es : EsG} (s : Ats A h m W es) (e : Ext h h') : Ats A h' m W es :=
  ⟨s.ext.trans e, s.ml, e.get _ _ s.blk, s.ok, s.key, s.all, s.nd, fun p hp c hc => ⟨Ab.Own.ext (s.own p hp c hc).1 e, (s.own p hp c hc).2⟩, s.ap⟩
theorem notAt_nil (j : Nat) : NotAt .nilS j := fun o n c e => by cases e
theorem Ats.get {A h : Heap} {m : Nat} {W : List T3} {es : EsG} (s : Ats A h m W es) (c : Int) :
    Own A h ((getG es [c]).getD .nilS) (ints (conP W c)) ∧ NotAt ((getG es [c]).getD .nilS) m ∧ ∀ p ∈ es, p.1 ≠ [c] → Ab.Apart ((getG es [c]).getD .nilS) p.2 := by
  have := getG_spec es [c]
  cases hg : getG es [c] with
  | none =>
    rw [hg] at this
    have hc : c ∉ W.map (·.1) := fun h => by
      obtain ⟨p, h1, h2⟩ := s.all c h
      exact this p h1 h2
    rw [conP_none hc]
    exact ⟨.inl ⟨rfl, rfl⟩, notAt_nil m, fun p _ _ j => .inl (notAt_nil j)⟩
  | some v =>
    rw [hg] at this
    have h1 := s.own _ this c rfl
    exact ⟨h1.1, h1.2, fun p hp hne => s.ap _ this p hp fun e => hne e.symm⟩
theorem Ats.put {A h h' : Heap} {m : Nat} {W : List T3} {es : EsG} (s : Ats A h m W es) {c : Int} {i k : Nat} {s' : SV} (hf : Fram h h' ((getG es [c]).getD .nilS) s') (he : Ext A h') (ho : Own A h' s' (ints (conP W c) ++ [.int .i64 (i : Nat), .int .i64 (k : Nat)])) :
    h'[m]? = some (MG zA es) ∧ Ats A (h'.set m (MG zA (putG es [c] s'))) m (W ++ [(c, i, k)]) (putG es [c] s') := by
  obtain ⟨g1, g2, g3⟩ := s.get c
  obtain ⟨f1, f2⟩ := hf m _ s.blk g2
  have hm := (List.getElem?_eq_some_iff.1 f1).1
  obtain ⟨p1, p2⟩ := putG_spec s.nd [c] s'
  have hmem : ∀ d, d ∈ (W ++ [(c, i, k)]).map (·.1) ↔ d = c ∨ d ∈ W.map (·.1) := fun d => by
    rw [List.map_append, List.mem_append]; simp [or_comm]
  refine ⟨f1, he.set s.ml _, s.ml, List.getElem?_set_self hm, s.ok.put rfl _, fun p hp => ?_, fun d hd => ?_, p1, fun p hp d hd => ?_, fun p hp q hq hne => ?_⟩
  · rcases (p2 p).1 hp with rfl | ⟨h1, h2⟩
    · exact ⟨c, rfl, (hmem c).2 (.inl rfl)⟩
    · obtain ⟨d, h3, h4⟩ := s.key p h1
      exact ⟨d, h3, (hmem d).2 (.inr h4)⟩
  · by_cases e : d = c
    · subst e
      exact ⟨_, (p2 _).2 (.inl rfl), rfl⟩
    · obtain ⟨p, h1, h2⟩ := s.all d (((hmem d).1 hd).resolve_left e)
      exact ⟨p, (p2 p).2 (.inr ⟨h1, fun e2 => e (by rw [h2] at e2; simpa using e2)⟩), h2⟩
  · rcases (p2 p).1 hp with rfl | ⟨h1, h2⟩
    · have hd : c = d := by simpa using hd
      subst hd
      refine ⟨own_set ?_ f2 _, f2⟩
      rw [conP_app, if_pos rfl]
      simpa [ints] using ho
    · obtain ⟨o1, o2⟩ := s.own p h1 d hd
      have hdc : ¬ c = d := fun e => h2 (by rw [hd, e])
      refine ⟨own_set ?_ o2 _, o2⟩
      rw [conP_app, if_neg hdc, List.append_nil]
      exact Own.away o1 hf (g3 p h1 h2)
  · rcases (p2 p).1 hp with rfl | ⟨h1, h2⟩
    · rcases (p2 q).1 hq with rfl | ⟨h3, h4⟩
      · exact absurd rfl hne
      · obtain ⟨d, h5, -⟩ := s.key q h3
        exact hf.apart (s.own q h3 d h5).1.sl (g3 q h3 h4)
    · rcases (p2 q).1 hq with rfl | ⟨h3, h4⟩
      · obtain ⟨d, h5, -⟩ := s.key p h1
        exact (hf.apart (s.own p h1 d h5).1.sl (g3 p h1 h2)).symm
      · exact s.ap p h1 q h3 hne
/-- The visits of a row. -/
def rowW (i : Nat) (c : List Vis) : List T3 := (rowG i 0 c).map fun t => (t.1.1, t.2)
theorem rowW_len (i : Nat) (c : List Vis) : (rowW i c).length = c.length := by
  unfold rowW
  have := congrArg List.length (rowG_fst i 0 c)
  rw [List.length_map] at this ⊢
  exact this
theorem rowW_snoc {i k : Nat} {c : List Vis} {v : Vis} (h : c[k]? = some v) : rowW i (c.take (k + 1)) = rowW i (c.take k) ++ [(v.1, i, k)] := by
  unfold rowW
  have hk := (List.getElem?_eq_some_iff.1 h).1
  rw [take_snoc h, rowG_app, List.map_append]
  congr 1
  simp [rowG, Nat.min_eq_left (Nat.le_of_lt hk)]
theorem visT_snoc {C : List (List Vis)} {i : Nat} {c : List Vis} (h : C[i]? = some c) : visT (C.take (i + 1)) = visT (C.take i) ++ rowW i c := by
  unfold visT rowW
  have hi := (List.getElem?_eq_some_iff.1 h).1
  rw [take_snoc h, allG_app, List.map_append]
  congr 1
  simp [allG, Nat.min_eq_left (Nat.le_of_lt hi)]
theorem visT_len (C : List (List Vis)) : (visT C).length = C.flatten.length := by
  unfold visT
  have := congrArg List.length (allG_fst 0 C)
  rw [List.length_map] at this ⊢
  exact this

attribute [local irreducible] wOps wA wSeq wBlk wRound wRoundI wOpsD wOpsS
def I5v (A : Heap) (b p3 m : Nat) (X t1 : SV) (n i : Nat) (W0 : List T3) (c : List Vis) (E : Env) (h : Heap) : Prop := ∃ (k : Nat) (es : EsG), k ≤ c.length ∧ Ats A h m (W0 ++ rowW i (c.take k)) es ∧
  E = [(1, some (.sc (.ptr b 0))), (3, some (.sc (.ptr p3 0))), (5, some (.sc (.mapv m))), (6, some (.sc (.int .i64 (i : Nat)))), (38, some (.sc X)), (39, some (.sc (.int .i64 (n : Nat)))), (40, some (.sc (.int .i64 (i : Nat)))), (45, some (.sc t1)), (46, some (.sc (.int .i64 (c.length : Nat)))), (47, some (.sc (.int .i64 (k : Nat))))]
def R5v (A : Heap) (b p3 m : Nat) (X : SV) (n i : Nat) (W : List T3) (ex : Ex) (E : Env) (h : Heap) : Prop := ex = .ex 2 ∧ ∃ es : EsG, Ats A h m W es ∧ ∃ u v w x y,
  E = [(1, some (.sc (.ptr b 0))), (3, some (.sc (.ptr p3 0))), (5, some (.sc (.mapv m))), (6, u), (38, some (.sc X)), (39, some (.sc (.int .i64 (n : Nat)))), (40, some (.sc (.int .i64 (i : Nat)))), (45, v), (46, w), (47, x), (48, y)]
theorem round5v (A : Heap) (b p3 m : Nat) (X t1 : SV) (n i : Nat) (W0 : List T3) (c : List Vis) (hc : IsVis A t1 c) (hcl : c.length ≤ 1000000) (hil : i ≤ 1000000) (hW : W0.length ≤ 1000000) (E : Env) (h : Heap) (hI : I5v A b p3 m X t1 n i W0 c E h) :
    wA FT HKt b5L1 (E.keep [1, 3, 5, 6, 38, 39, 40, 45, 46, 47]) h (wRound (I5v A b p3 m X t1 n i W0 c) (cnt c.length 47) (cnt c.length 47 E h) (R5v A b p3 m X n i (W0 ++ rowW i c))) := by
  obtain ⟨k, es, hk, st, rfl⟩ := hI
  by_cases hlt : k < c.length
  · obtain ⟨v, hx⟩ : ∃ v, c[k]? = some v := ⟨_, List.getElem?_eq_getElem hlt⟩
    obtain ⟨id, off, cap, rfl, hr⟩ := (hc.ext st.ext).at hx
    have en := rowW_snoc (i := i) hx
    have hwl : (W0 ++ rowW i (c.take k)).length ≤ 2000000 := by rw [List.length_append, rowW_len, List.length_take]; omega
    generalize hWg : W0 ++ rowW i (c.take k) = W at st hwl
    have hcl2 := conP_len W v.1
    repeat' (first | refine w_seq ?_ | refine w_seqN ?_ | refine w_blk ?_ | refine w_skip ?_ | refine w_ops ?_ | ((refine i_cond ?_); refine w_condT rfl ?_) | ((refine i_nil ?_); first | refine w_end11 rfl rfl rfl rfl rfl rfl rfl rfl rfl rfl rfl ?_ | refine w_end12 rfl rfl rfl rfl rfl rfl rfl rfl rfl rfl rfl rfl ?_) | ((refine i_cons ?_); first | refine k_idxA (esz := 2) rfl rfl (by omega) ?_ | refine op_ldA rfl rfl hr ?_ | (refine k_newC ?_; intro h2 e2 c2) | (refine k_stC rfl rfl c2 ?_; intro h3 w3; have c3 := w3.cel; have e3 : Ext h h3 := w3.ext e2 (Nat.le_refl _)) | refine k_mv rfl ?_ | refine k_lssT rfl rfl (by omega) ?_))
    obtain ⟨g1, g2, g3⟩ := st.get v.1
    have st3 := st.go e3
    have ns : NotAt ((getG es [v.1]).getD .nilS) h.length := isSl_not g1.sl (Nat.le_refl _)
    have hql : h.length < h3.length := c3.lt
    have hml := st.mlt
    have no : ∀ {ord : Bool} {k : AK} (E : Env) (id : Nat), ldX E ord k = some id → ldX E ord k = none → id ∈ [h.length] := fun E id h1 h2 => by rw [h2] at h1; cases h1
    refine w_opsS [h.length] ?_
    refine s_one (fun id h => no _ id h rfl) (k_mv rfl (s_same ?_))
    refine s_one (fun id h => no _ id h rfl) (k_fldA rfl (s_same ?_))
    refine s_one (fun id h => by cases h; exact List.mem_singleton.2 rfl) (k_ldC0 rfl c3 (s_same ?_))
    refine s_one (fun id h => no _ id h rfl) (k_mv rfl (s_same ?_))
    refine s_one (fun id h => no _ id h rfl) (k_fldA rfl (s_same ?_))
    refine s_one (fun id h => by cases h; exact List.mem_singleton.2 rfl) (k_ldC0 rfl c3 (s_same ?_))
    refine s_one (fun id h => no _ id h rfl) (g_mpL (ns := [v.1]) st3.ok rfl st3.blk rfl rfl rfl (s_same ?_))
    refine s_one (fun id h => no _ id h rfl) (k_mv rfl (s_same ?_))
    refine s_one (fun id h => no _ id h rfl) (k_mv rfl (s_same ?_))
    refine s_one (fun id h => no _ id h rfl) (op_ok (v := some (.sc (.slc h3.length 0 2 (some 2)))) (h' := h3 ++ [Blk.cells [.int .i64 (i : Nat), .int .i64 (k : Nat)] true 1]) rfl rfl rfl (s_grow ⟨_, rfl⟩ (fun id h => by rw [List.mem_singleton] at h; omega) ?_))
    have e4 : Ext h3 (h3 ++ [Blk.cells [SV.int .i64 (i : Nat), SV.int .i64 (k : Nat)] true 1]) := ⟨_, rfl⟩
    have st4 := st3.go e4
    have o4 := (st4.get v.1).1
    have src : srcCells (h3 ++ [Blk.cells [SV.int .i64 (i : Nat), SV.int .i64 (k : Nat)] true 1]) 1 (.slc h3.length 0 2 (some 2)) = some (2, [SV.int .i64 (i : Nat), SV.int .i64 (k : Nat)]) := by simp [srcCells, readN, cut]
    have c4 := c3.ext e4
    refine s_one (fun id h => no _ id h rfl) (k_app (ws := [SV.int .i64 (i : Nat), SV.int .i64 (k : Nat)]) st4.ext o4 rfl rfl src (by simp only [bigN, List.length_cons, List.length_nil, List.length_map]; omega) ?_)
    intro s' h5 o5 e5 l5 f5
    have q5 := (f5 _ _ c4 ns).1
    refine s_ord ?_ ?_
    · intro id hid
      rw [List.mem_singleton] at hid
      subst hid
      rw [q5]; exact c4.symm
    obtain ⟨m5, st5⟩ := st4.put (i := i) (k := k) f5 e5 o5
    refine s_one (fun id h => no _ id h rfl) (g_mpU (ns := [v.1]) st4.ok rfl m5 rfl rfl rfl rfl (s_ord ?_ ?_))
    · intro id hid
      rw [List.mem_singleton] at hid
      subst hid
      rw [List.getElem?_set_ne (by omega)]
    refine s_nil ?_
    repeat' (first | refine w_seqN ?_ | refine w_blkN ?_ | refine w_ops ?_ | ((refine i_nil ?_); refine w_end10 rfl rfl rfl rfl rfl rfl rfl rfl rfl rfl ?_) | ((refine i_cons ?_); first | refine k_mv rfl ?_ | refine k_add rfl rfl (by omega) ?_))
    exact w_roundN ⟨k + 1, putG es [v.1] s', by omega, by rw [en, ← List.append_assoc, hWg]; exact st5, rfl⟩ (by simp [cnt, Env.get]; omega)
  · have hke : k = c.length := by omega
    subst hke
    rw [List.take_length] at st
    repeat' (first | refine w_seq ?_ | refine w_seqN ?_ | refine w_seqX ?_ | refine w_exit ?_ | refine w_ops ?_ | ((refine i_cond ?_); refine w_condF rfl ?_) | ((refine i_nil ?_); refine w_end11 rfl rfl rfl rfl rfl rfl rfl rfl rfl rfl rfl ?_) | ((refine i_cons ?_); refine k_lssF rfl rfl (by omega) ?_))
    exact w_roundX ⟨rfl, es, st, _, _, _, _, _, rfl⟩
def I5c (A : Heap) (b p3 m : Nat) (X : SV) (C : List (List Vis)) (E : Env) (h : Heap) : Prop := ∃ (i : Nat) (es : EsG), i ≤ C.length ∧ Ats A h m (visT (C.take i)) es ∧
  E = [(1, some (.sc (.ptr b 0))), (3, some (.sc (.ptr p3 0))), (5, some (.sc (.mapv m))), (38, some (.sc X)), (39, some (.sc (.int .i64 (C.length : Nat)))), (40, some (.sc (.int .i64 (i : Nat))))]
def R5c (A : Heap) (b p3 m : Nat) (C : List (List Vis)) (ex : Ex) (E : Env) (h : Heap) : Prop := ex = .ex 0 ∧ ∃ es : EsG, Ats A h m (visT C) es ∧ ∃ u v w x,
  E = [(1, some (.sc (.ptr b 0))), (3, some (.sc (.ptr p3 0))), (5, some (.sc (.mapv m))), (38, u), (39, v), (40, w), (41, x)]
theorem round5c (A : Heap) (b p3 m : Nat) (X Sg : SV) (g : GC) (hc : IsCode A X Sg g) (hf : GFits g) (E : Env) (h : Heap) (hI : I5c A b p3 m X g.C E h) :
    wA FT HKt b5L0 (E.keep [1, 3, 5, 38, 39, 40]) h (wRound (I5c A b p3 m X g.C) (cnt g.C.length 40) (cnt g.C.length 40 E h) (R5c A b p3 m g.C)) := by
  obtain ⟨i, es, hi, st, rfl⟩ := hI
  have hcl := hf.c
  by_cases hlt : i < g.C.length
  · obtain ⟨c, hx⟩ : ∃ c, g.C[i]? = some c := ⟨_, List.getElem?_eq_getElem hlt⟩
    obtain ⟨id, off, cap, t1, rfl, hr, hvis⟩ := hc.x.at hx
    have hr' := readN_ext st.ext hr
    have lt := hvis.len
    have h2 := flat_le (C := g.C) (i + 1)
    have h3 := flat_le (C := g.C) i
    have hvf := hf.v
    have hvl : c.length ≤ 1000000 := by
      have h1 := flat_snoc hx
      rw [h1, List.length_append] at h2
      omega
    have hwl := visT_len (g.C.take i)
    have en := visT_snoc hx
    repeat' (first | refine w_seq ?_ | refine w_seqN ?_ | refine w_blk ?_ | refine w_skip ?_ | refine w_ops ?_ | ((refine i_cond ?_); refine w_condT rfl ?_) | ((refine i_nil ?_); first | refine w_end7 rfl rfl rfl rfl rfl rfl rfl ?_ | refine w_end8 rfl rfl rfl rfl rfl rfl rfl rfl ?_ | refine w_end10 rfl rfl rfl rfl rfl rfl rfl rfl rfl rfl ?_) | ((refine i_cons ?_); first | refine k_idxA (esz := 1) rfl rfl (by omega) ?_ | refine k_ld rfl hr' ?_ | refine k_len rfl lt ?_ | refine k_mv rfl ?_ | refine k_lssT rfl rfl (by omega) ?_))
    refine w_loop (I5v A b p3 m (.slc id off g.C.length cap) t1 g.C.length i (visT (g.C.take i)) c) (cnt c.length 47) (R5v A b p3 m (.slc id off g.C.length cap) g.C.length i (visT (g.C.take i) ++ rowW i c)) ⟨0, es, Nat.zero_le _, by simpa [rowW, rowG] using st, rfl⟩ (round5v A b p3 m _ t1 _ i _ c hvis hvl (by omega) (by omega)) ?_
    rintro ex E' h' ⟨rfl, es', st', u, v, w, x, y, rfl⟩
    repeat' (first | refine w_seqN ?_ | refine w_blkN ?_ | refine w_blkX ?_ | refine w_ops ?_ | ((refine i_nil ?_); refine w_end6 rfl rfl rfl rfl rfl rfl ?_) | ((refine i_cons ?_); first | refine k_mv rfl ?_ | refine k_add rfl rfl (by omega) ?_))
    exact w_roundN ⟨i + 1, es', by omega, by rw [en]; exact st', rfl⟩ (by simp [cnt, Env.get]; omega)
  · have hie : i = g.C.length := by omega
    subst hie
    rw [List.take_length] at st
    repeat' (first | refine w_seq ?_ | refine w_seqN ?_ | refine w_seqX ?_ | refine w_exit ?_ | refine w_ops ?_ | ((refine i_cond ?_); refine w_condF rfl ?_) | ((refine i_nil ?_); refine w_end7 rfl rfl rfl rfl rfl rfl rfl ?_) | ((refine i_cons ?_); refine k_lssF rfl rfl (by omega) ?_))
    exact w_roundX ⟨rfl, es, st, _, _, _, _, rfl⟩
end Go.Proofs.YtleoalcbgpjieaaDoor
