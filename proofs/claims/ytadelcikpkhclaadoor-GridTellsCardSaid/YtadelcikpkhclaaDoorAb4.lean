/- What the changes of memory do to the relation. -/
import Derived.Test.YtadelcikpkhclaaDoorAb3
namespace Go.Ab

def upd (β : Bt) (id : Nat) (L : Loc) : Bt := fun i => if i = id then some L else β i

theorem upd_same (β : Bt) (id : Nat) (L : Loc) : upd β id L id = some L := by simp [upd]
theorem upd_other (β : Bt) {id i : Nat} (L : Loc) (h : i ≠ id) : upd β id L i = β i := by simp [upd, h]
theorem upd_le {β : Bt} {id : Nat} (L : Loc) (h : β id = none) : β.le (upd β id L) := fun i M hi => by
  by_cases e : i = id
  · subst e; rw [h] at hi; simp at hi
  · rw [upd_other _ _ e]; exact hi

theorem get_snoc (h : Heap) (b : Blk) (i : Nat) : (h ++ [b])[i]? = if i = h.length then some b else h[i]? := by
  by_cases hi : i < h.length
  · rw [List.getElem?_append_left hi, if_neg (by omega)]
  · rw [List.getElem?_append_right (by omega)]
    by_cases e : i = h.length
    · subst e; simp
    · rw [if_neg e, List.getElem?_eq_none (l := h) (by omega)]
      rw [List.getElem?_eq_none]; simp; omega

theorem BRel.mono {β β' : Bt} {w w' : World} {L cs rw esz} (hb : β.le β') (hw : w'.heap[L.b]? = w.heap[L.b]?) (h : BRel β w L cs rw esz) : BRel β' w' L cs rw esz := by
  obtain ⟨h1, ccs, e, fz, h2, h3, h4, h5, h6, h7⟩ := h
  refine ⟨h1, ccs, e, fz, hw.trans h2, h3, h4, fun i v hi => ?_, h6, h7⟩
  obtain ⟨c, hc, hr⟩ := h5 i v hi
  exact ⟨c, hc, hr.mono hb⟩

/-- A new block. -/
theorem alloc_done {β : Bt} {h : Heap} {w : World} (R : Rep β h w) (hf : β h.length = none) (ccs : Array Value) (e : TypeId) (cs : List SV) (esz : ESz)
    (ht1 : TyOk esz e) (ht2 : esz.n = 0 → cs.length = ccs.size) (hlen : cs.length ≤ ccs.size) (hrel : ∀ (i : Nat) (v : SV), cs[i]? = some v → ∃ c, ccs[i]? = some c ∧ SRel β v c) :
    Stp β h w (upd β h.length ⟨w.heap.size, 0, ccs.size, esz⟩) (h ++ [.cells cs true esz]) (w.alloc (.cells ccs e)) ∧
    Rep (upd β h.length ⟨w.heap.size, 0, ccs.size, esz⟩) (h ++ [.cells cs true esz]) (w.alloc (.cells ccs e)) := by
  have hle := upd_le (β := β) (⟨w.heap.size, 0, ccs.size, esz⟩ : Loc) hf
  have hold : ∀ i, i < h.length → upd β h.length ⟨w.heap.size, 0, ccs.size, esz⟩ i = β i := fun i hi => upd_other _ _ (by omega)
  have hsz : ∀ b, b < w.heap.size → (w.alloc (.cells ccs e)).heap[b]? = w.heap[b]? := fun b hb => Go.RowKit.Below.heap_alloc w _ b hb
  have lt : ∀ (i : Nat) (x : Blk), h[i]? = some x → i < h.length := fun i x hx => (List.getElem?_eq_some_iff.1 hx).1
  refine ⟨⟨hle, ?_, ?_, by simp, ?_, ?_, fun b hb _ => hsz b hb, by simp, rfl, rfl, rfl⟩, ⟨fun id b L hg hL => ?_, ?_, ?_⟩⟩
  · intro id L hl
    by_cases hi : id = h.length
    · exact .inr (by simp; omega)
    · exact .inl (by rwa [upd_other _ _ hi] at hl)
  · intro id h1 h2
    have : id = h.length := by simp at h2; omega
    subst this
    exact ⟨_, upd_same _ _ _⟩
  · rintro b ⟨id, L, cs', esz', hg, hL, rfl⟩
    rw [get_snoc] at hg
    split at hg
    · rename_i hi; subst hi; rw [upd_same] at hL; simp at hL; subst hL; exact .inl (Nat.le_refl _)
    · rw [hold id (lt _ _ hg)] at hL
      exact .inr ⟨id, L, cs', esz', hg, hL, rfl⟩
  · intro id L h1 h2
    by_cases hi : id = h.length
    · subst hi; rw [upd_same] at h1; simp at h1; subst h1; exact .inl (Nat.le_refl _)
    · rw [upd_other _ _ hi, h2] at h1; simp at h1
  · rw [get_snoc] at hg
    split at hg
    · rename_i hi; subst hi; rw [upd_same] at hL; simp at hL hg; subst hL hg; rfl
    · rw [hold id (lt _ _ hg)] at hL
      exact R.sz id b L hg hL
  · intro id L cs' rw' esz' hg hL
    rw [get_snoc] at hg
    split at hg
    · rename_i hi; subst hi; rw [upd_same] at hL; simp at hL hg
      obtain ⟨rfl, rfl, rfl⟩ := hg
      subst hL
      refine ⟨rfl, ccs, e, (0, 0), Go.heap_alloc_new w _, rfl, by simpa using hlen, fun i v hi => ?_, fun _ => rfl, ht1, fun t ht => ⟨rfl, ht2⟩⟩
      obtain ⟨c, h1, h2⟩ := hrel i v hi
      exact ⟨c, by simpa using h1, h2.mono hle⟩
    · rw [hold id (lt _ _ hg)] at hL
      have hb := R.blk id L cs' rw' esz' hg hL
      exact hb.mono hle (hsz _ hb.lt)
  · intro i j L M cs1 e1 cs2 rw2 e2 hi hj hne hL hM
    rw [get_snoc] at hi hj
    split at hi
    · rename_i hii; subst hii
      rw [upd_same] at hL; simp at hL; subst hL
      rw [if_neg (Ne.symm hne)] at hj
      rw [hold j (lt _ _ hj)] at hM
      have := (R.blk j M cs2 rw2 e2 hj hM).lt
      show w.heap.size ≠ M.b
      omega
    · rw [hold i (lt _ _ hi)] at hL
      split at hj
      · rename_i hjj; subst hjj
        rw [upd_same] at hM; simp at hM; subst hM
        have := (R.blk i L cs1 _ e1 hi hL).lt
        show L.b ≠ w.heap.size
        omega
      · rw [hold j (lt _ _ hj)] at hM
        exact R.exc i j L M cs1 e1 cs2 rw2 e2 hi hj hne hL hM

theorem get_set (h : Heap) (id : Nat) (b : Blk) (i : Nat) (hid : id < h.length) : (h.set id b)[i]? = if i = id then some b else h[i]? := by
  rw [List.getElem?_set]
  by_cases e : id = i
  · subst e; simp [hid]
  · simp [e, Ne.symm e]

theorem setRow_other (w : World) (g : Nat) (cs : Array Value) (k : Nat) (h : k ≠ g) : (w.setRow g cs).heap[k]? = w.heap[k]? := by
  simp only [World.setRow, Array.getElem?_modify]
  rw [if_neg (by omega)]

/-- A block of the call's own is written. -/
theorem write_done {β : Bt} {h : Heap} {w : World} (R : Rep β h w) {id : Nat} {L : Loc} {cs : List SV} {esz : ESz} (hg : h[id]? = some (.cells cs true esz)) (hL : β id = some L)
    (ccs' : Array Value) (cs' : List SV) (hsl : cs'.length = cs.length) (hsz : ccs'.size = L.sz) (hlen : L.base + cs'.length ≤ L.sz)
    (hrel : ∀ (i : Nat) (v : SV), cs'[i]? = some v → ∃ c, ccs'[L.base + i]? = some c ∧ SRel β v c) :
    Stp β h w β (h.set id (.cells cs' true esz)) (w.setRow L.b ccs') ∧ Rep β (h.set id (.cells cs' true esz)) (w.setRow L.b ccs') := by
  have hid : id < h.length := (List.getElem?_eq_some_iff.1 hg).1
  have hB := R.blk id L cs true esz hg hL
  refine ⟨⟨fun _ _ h => h, fun _ _ h => .inl h, fun i h1 h2 => by simp at h2; omega, by simp, ?_, fun id L h1 h2 => by rw [h1] at h2; simp at h2, ?_, by simp [World.setRow], rfl, rfl, rfl⟩, ⟨fun i b M hi hM => ?_, ?_, ?_⟩⟩
  · rintro b ⟨i, M, cs1, e1, hi, hM, rfl⟩
    rw [get_set _ _ _ _ hid] at hi
    split at hi
    · rename_i e; subst e; simp at hi; obtain ⟨rfl, rfl⟩ := hi
      exact .inr ⟨i, M, cs, esz, hg, hM, rfl⟩
    · exact .inr ⟨i, M, cs1, e1, hi, hM, rfl⟩
  · intro b hb hn
    exact setRow_other _ _ _ _ fun e => hn ⟨id, L, cs, esz, hg, hL, e.symm⟩
  · rw [get_set _ _ _ _ hid] at hi
    split at hi
    · rename_i e; subst e; simp at hi; subst hi
      exact (R.sz i _ M hg hM : M.esz = esz)
    · exact R.sz i b M hi hM
  · intro i M cs1 rw1 e1 hi hM
    rw [get_set _ _ _ _ hid] at hi
    split at hi
    · rename_i e; subst e; simp at hi; obtain ⟨rfl, rfl, rfl⟩ := hi
      rw [hL] at hM; simp at hM; subst hM
      obtain ⟨h1, ccs, e, fz, h2, h3, h4, h5, h6, h7, h8⟩ := hB
      have := h6 rfl
      subst this
      exact ⟨h1, ccs', e, (0, 0), setRow_heap w _ _ _ _ _ h2, hsz, hlen, hrel, fun _ => rfl, h7, fun t ht => ⟨(h8 t ht).1, fun h0 => hsl.trans ((h8 t ht).2 h0)⟩⟩
    · rename_i e
      have hB' := R.blk i M cs1 rw1 e1 hi hM
      have hne : L.b ≠ M.b := R.exc id i L M cs esz cs1 rw1 e1 hg hi (Ne.symm e) hL hM
      exact hB'.mono (fun _ _ h => h) (setRow_other _ _ _ _ (Ne.symm hne))
  · intro i j M N cs1 e1 cs2 rw2 e2 hi hj hne hM hN
    rw [get_set _ _ _ _ hid] at hi hj
    split at hi
    · rename_i e; subst e
      rw [if_neg (Ne.symm hne)] at hj
      exact R.exc i j M N cs esz cs2 rw2 e2 hg hj hne hM hN
    · split at hj
      · rename_i e; subst e
        exact R.exc i j M N cs1 e1 cs true esz hi hg hne hM hN
      · exact R.exc i j M N cs1 e1 cs2 rw2 e2 hi hj hne hM hN

/-- A block is given up. -/
theorem kill_done {β : Bt} {h : Heap} {w : World} (R : Rep β h w) {id : Nat} {cs0 : List SV} {rw0 : Bool} {esz : ESz} (hg0 : h[id]? = some (.cells cs0 rw0 esz)) : Stp β h w β (h.set id (.dead esz)) w ∧ Rep β (h.set id (.dead esz)) w := by
  have hid : id < h.length := (List.getElem?_eq_some_iff.1 hg0).1
  have key : ∀ (i : Nat) (cs : List SV) (rw : Bool) (e1 : ESz), (h.set id (Blk.dead esz))[i]? = some (.cells cs rw e1) → h[i]? = some (.cells cs rw e1) := by
    intro i cs rw e1 hi
    rw [get_set _ _ _ _ hid] at hi
    split at hi
    · simp at hi
    · exact hi
  refine ⟨⟨fun _ _ h => h, fun _ _ h => .inl h, fun i h1 h2 => by simp at h2; omega, by simp, ?_, fun id L h1 h2 => by rw [h1] at h2; simp at h2, fun _ _ _ => rfl, Nat.le_refl _, rfl, rfl, rfl⟩, ⟨fun i b M hi hM => ?_, ?_, ?_⟩⟩
  · rintro b ⟨i, M, cs1, e1, hi, hM, rfl⟩
    exact .inr ⟨i, M, cs1, e1, key _ _ _ _ hi, hM, rfl⟩
  · rw [get_set _ _ _ _ hid] at hi
    split at hi
    · rename_i e; subst e; simp at hi; subst hi
      exact (R.sz i _ M hg0 hM : M.esz = esz)
    · exact R.sz i b M hi hM
  · intro i M cs1 rw1 e1 hi hM
    exact R.blk i M cs1 rw1 e1 (key _ _ _ _ hi) hM
  · intro i j M N cs1 e1 cs2 rw2 e2 hi hj hne hM hN
    exact R.exc i j M N cs1 e1 cs2 rw2 e2 (key _ _ _ _ hi) (key _ _ _ _ hj) hne hM hN

/-- A block is given up, and its memory is that of a new one. -/
theorem adopt_done {β : Bt} {h : Heap} {w : World} (R : Rep β h w) (hf : β h.length = none) {id : Nat} {L : Loc} {cs : List SV} {esz : ESz} (hg : h[id]? = some (.cells cs true esz)) (hL : β id = some L)
    (ccs' : Array Value) (base' : Nat) (hnt : esz.n ≠ 0) (hnb : esz.ty = none ∨ base' = 0) (cs' : List SV) (hsz : ccs'.size = L.sz) (hlen : base' + cs'.length ≤ L.sz)
    (hrel : ∀ (i : Nat) (v : SV), cs'[i]? = some v → ∃ c, ccs'[base' + i]? = some c ∧ SRel β v c) :
    Stp β h w (upd β h.length ⟨L.b, base', L.sz, esz⟩) (h.set id (.dead esz) ++ [.cells cs' true esz]) (w.setRow L.b ccs') ∧
    Rep (upd β h.length ⟨L.b, base', L.sz, esz⟩) (h.set id (.dead esz) ++ [.cells cs' true esz]) (w.setRow L.b ccs') := by
  have hid : id < h.length := (List.getElem?_eq_some_iff.1 hg).1
  have hB := R.blk id L cs true esz hg hL
  have hle := upd_le (β := β) (⟨L.b, base', L.sz, esz⟩ : Loc) hf
  have hold : ∀ i, i < h.length → upd β h.length ⟨L.b, base', L.sz, esz⟩ i = β i := fun i hi => upd_other _ _ (by omega)
  have lt : ∀ (i : Nat) (x : Blk), h[i]? = some x → i < h.length := fun i x hx => (List.getElem?_eq_some_iff.1 hx).1
  have key : ∀ (i : Nat) (cs1 : List SV) (rw1 : Bool) (e1 : ESz), (h.set id (Blk.dead esz) ++ [Blk.cells cs' true esz])[i]? = some (.cells cs1 rw1 e1) →
      (i = h.length ∧ cs1 = cs' ∧ rw1 = true ∧ e1 = esz) ∨ (i ≠ id ∧ i ≠ h.length ∧ h[i]? = some (.cells cs1 rw1 e1)) := by
    intro i cs1 rw1 e1 hi
    rw [get_snoc] at hi
    simp only [List.length_set] at hi
    split at hi
    · simp at hi; obtain ⟨rfl, rfl, rfl⟩ := hi
      exact .inl ⟨by assumption, rfl, rfl, rfl⟩
    · rw [get_set _ _ _ _ hid] at hi
      split at hi
      · simp at hi
      · exact .inr ⟨by assumption, by assumption, hi⟩
  refine ⟨⟨hle, ?_, ?_, by simp, ?_, ?_, ?_, by simp [World.setRow], rfl, rfl, rfl⟩, ⟨fun i b M hi hM => ?_, ?_, ?_⟩⟩
  · intro i M hM
    by_cases hi : i = h.length
    · exact .inr (by simp; omega)
    · exact .inl (by rwa [upd_other _ _ hi] at hM)
  · intro i h1 h2
    have : i = h.length := by simp at h2; omega
    subst this
    exact ⟨_, upd_same _ _ _⟩
  · rintro b ⟨i, M, cs1, e1, hi, hM, rfl⟩
    rcases key _ _ _ _ hi with ⟨rfl, -, -, -⟩ | ⟨h1, h2, h3⟩
    · rw [upd_same] at hM; simp at hM; subst hM
      exact .inr ⟨id, L, cs, esz, hg, hL, rfl⟩
    · rw [hold i (lt _ _ h3)] at hM
      exact .inr ⟨i, M, cs1, e1, h3, hM, rfl⟩
  · intro i M h1 h2
    by_cases hi : i = h.length
    · subst hi; rw [upd_same] at h1; simp at h1; subst h1; exact .inr ⟨id, L, cs, esz, hg, hL, rfl⟩
    · rw [upd_other _ _ hi, h2] at h1; simp at h1
  · intro b hb hn
    exact setRow_other _ _ _ _ fun e => hn ⟨id, L, cs, esz, hg, hL, e.symm⟩
  · rw [get_snoc] at hi
    simp only [List.length_set] at hi
    split at hi
    · rename_i e; subst e
      rw [upd_same] at hM; simp at hM hi; subst hM hi; rfl
    · rename_i e
      rw [upd_other _ _ e] at hM
      rw [get_set _ _ _ _ hid] at hi
      split at hi
      · rename_i e; subst e; simp at hi; subst hi
        exact (R.sz i _ M hg hM : M.esz = esz)
      · exact R.sz i b M hi hM
  · intro i M cs1 rw1 e1 hi hM
    rcases key _ _ _ _ hi with ⟨rfl, rfl, rfl, rfl⟩ | ⟨h1, h2, h3⟩
    · rw [upd_same] at hM; simp at hM; subst hM
      obtain ⟨-, ccs, e, fz, h2, h3, h4, h5, h6, h7, -⟩ := hB
      have := h6 rfl
      subst this
      refine ⟨rfl, ccs', e, (0, 0), setRow_heap w _ _ _ _ _ h2, hsz, hlen, fun i v hi => ?_, fun _ => rfl, h7, fun t ht => ⟨hnb.resolve_left (fun e => by rw [e] at ht; cases ht), fun h0 => absurd h0 hnt⟩⟩
      obtain ⟨c, q1, q2⟩ := hrel i v hi
      exact ⟨c, q1, q2.mono hle⟩
    · rw [hold i (lt _ _ h3)] at hM
      have hB' := R.blk i M cs1 rw1 e1 h3 hM
      have hne : L.b ≠ M.b := R.exc id i L M cs esz cs1 rw1 e1 hg h3 (Ne.symm h1) hL hM
      exact hB'.mono hle (setRow_other _ _ _ _ (Ne.symm hne))
  · intro i j M N cs1 e1 cs2 rw2 e2 hi hj hne hM hN
    rcases key _ _ _ _ hi with ⟨rfl, -, -, -⟩ | ⟨h1, h2, h3⟩
    · rcases key _ _ _ _ hj with ⟨rfl, -, -, -⟩ | ⟨k1, k2, k3⟩
      · exact absurd rfl hne
      · rw [upd_same] at hM; simp at hM; subst hM
        rw [hold j (lt _ _ k3)] at hN
        exact R.exc id j L N cs esz cs2 rw2 e2 hg k3 (Ne.symm k1) hL hN
    · rw [hold i (lt _ _ h3)] at hM
      rcases key _ _ _ _ hj with ⟨rfl, -, -, -⟩ | ⟨k1, k2, k3⟩
      · rw [upd_same] at hN; simp at hN; subst hN
        exact (R.exc i id M L cs1 e1 cs true esz h3 hg h1 hM hL)
      · rw [hold j (lt _ _ k3)] at hN
        exact R.exc i j M N cs1 e1 cs2 rw2 e2 h3 k3 hne hM hN

/-- Reading. -/
theorem cut_some {cs vs : List SV} {off n : Nat} (h : cut cs off n = some vs) : off + n ≤ cs.length ∧ vs.length = n ∧ ∀ (i : Nat) (v : SV), vs[i]? = some v → i < n ∧ cs[off + i]? = some v := by
  unfold cut at h
  split at h
  · simp at h; subst h
    refine ⟨by assumption, by simp; omega, fun i v hi => ?_⟩
    rw [List.getElem?_take] at hi
    split at hi
    · simp at hi; exact ⟨by assumption, hi⟩
    · simp at hi
  · simp at h

theorem readN_some {h : Heap} {id off n : Nat} {vs : List SV} (hr : readN h id off n = some vs) : ∃ cs rw esz, h[id]? = some (.cells cs rw esz) ∧ cut cs off n = some vs := by
  unfold readN at hr
  split at hr
  · exact ⟨_, _, _, by assumption, hr⟩
  · simp at hr

/-- The concrete cells behind a reading. -/
theorem read_cells {β : Bt} {h : Heap} {w : World} (R : Rep β h w) {id off n : Nat} {vs : List SV} {L : Loc} (hL : β id = some L) (hr : readN h id off n = some vs) :
    ∃ ws : List Value, F2 (SRel β) vs ws ∧ ws.length = n ∧ ∀ (j : Nat) (v : Value), ws[j]? = some v → w.cell? ⟨L.b, L.base + off + j, none⟩ = some v := by
  obtain ⟨cs, rw, esz, hg, hc⟩ := readN_some hr
  obtain ⟨h1, h2, h3⟩ := cut_some hc
  obtain ⟨_, ccs, e, fz, k1, k2, k3, k4, _⟩ := R.blk id L cs rw esz hg hL
  have hlen : (((ccs.toList.drop (L.base + off)).take n)).length = n := by simp; omega
  refine ⟨(ccs.toList.drop (L.base + off)).take n, ?_, hlen, ?_⟩
  · refine F2.of_get (by rw [h2, hlen]) fun i a b ha hb => ?_
    obtain ⟨hi, ha'⟩ := h3 i a ha
    obtain ⟨c, q1, q2⟩ := k4 _ _ ha'
    rw [List.getElem?_take, if_pos hi, List.getElem?_drop] at hb
    simp only [Array.getElem?_toList] at hb
    rw [show L.base + off + i = L.base + (off + i) by omega, q1] at hb
    simp at hb; subst hb; exact q2
  · intro j v hj
    rw [List.getElem?_take] at hj
    split at hj
    · rw [List.getElem?_drop, Array.getElem?_toList] at hj
      rw [cell_of_row w L.b _ ccs e fz k1]; exact hj
    · simp at hj

theorem Addr.add_off (b o j : Nat) : (⟨b, o, none⟩ : Addr).add j = ⟨b, o + j, none⟩ := by
  unfold Addr.add; split <;> simp_all

end Go.Ab
