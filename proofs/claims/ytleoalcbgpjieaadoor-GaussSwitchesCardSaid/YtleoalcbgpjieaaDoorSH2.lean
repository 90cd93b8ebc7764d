/- The law GaussShuffles: its loops. -/
import Derived.Test.YtleoalcbgpjieaaDoorRN2
import Derived.Test.YtleoalcbgpjieaaDoorAb38
namespace Go.Proofs.YtleoalcbgpjieaaDoor
open Go.Ab
set_option linter.unusedVariables false
set_option linter.unusedSimpArgs false
set_option maxRecDepth 20000
set_option maxHeartbeats 4000000
attribute [local irreducible] wOps wA wSeq wBlk wRound wRoundI wOpsD wOpsS

/-! ### The numbers -/
def I8a (hb : Heap) (o t : SV) (p5 p7 : Nat) (n : Nat) (os : List Int) (E : Env) (h : Heap) : Prop := ∃ i : Nat, i ≤ n ∧ Ext hb h ∧ Own hb h t (ints (numT 0 n os i)) ∧
  E = [(5, some (.sc (.ptr p5 0))), (7, some (.sc (.ptr p7 0))), (8, some (.sc (.int .i64 0))), (9, some (.sc t)), (57, some (.sc o)), (58, some (.sc (.int .i64 (n : Nat)))), (59, some (.sc (.int .i64 (i : Nat))))]
def R8a (hb : Heap) (t : SV) (p5 p7 : Nat) (n : Nat) (os : List Int) (ex : Ex) (E : Env) (h : Heap) : Prop := ex = .ex 0 ∧ Ext hb h ∧ Own hb h t (ints (numT 0 n os n)) ∧ ∃ a b c d,
  E = [(5, some (.sc (.ptr p5 0))), (7, some (.sc (.ptr p7 0))), (8, some (.sc (.int .i64 0))), (9, some (.sc t)), (57, a), (58, b), (59, c), (60, d)]
/-! ### The signs -/
def sgT (n : Nat) (os xs : List Int) : Nat → List Int
  | 0 => List.replicate n 0
  | k + 1 => (sgT n os xs k).set (nuO n os k) (xs.getD k 0)
theorem sgT_len (n : Nat) (os xs : List Int) : ∀ k, (sgT n os xs k).length = n
  | 0 => by simp [sgT]
  | k + 1 => by simp [sgT, sgT_len n os xs k]
theorem sgT_at {n : Nat} {os xs : List Int} (hp : PermO os n) {j : Nat} (hj : j < n) : ∀ {k}, k ≤ n → (sgT n os xs k).getD j 0 = if muO os j < k then xs.getD (muO os j) 0 else 0
  | 0, _ => by simp [sgT, List.getD, hj]
  | k + 1, hk => by
    obtain ⟨h1, h2, h3⟩ := hp.num (z := 0) (c := k) (by omega)
    rw [sgT, getD_set (by rw [sgT_len]; exact h2), sgT_at hp hj (by omega)]
    by_cases he : j = nuO n os k
    · rw [if_pos he, he, h3, if_pos (by omega)]
    · rw [if_neg he]
      have : muO os j ≠ k := fun e => he (by rw [← e, hp.back hj])
      by_cases h4 : muO os j < k
      · rw [if_pos h4, if_pos (by omega)]
      · rw [if_neg h4, if_neg (by omega)]
theorem sgT_all {n : Nat} {os xs : List Int} (hp : PermO os n) : sgT n os xs n = rnX os xs := by
  refine List.ext_getElem? fun j => ?_
  by_cases hj : j < n
  · have h1 := sgT_at (xs := xs) hp hj (Nat.le_refl n)
    obtain ⟨h2, h3⟩ := hp.mu hj
    rw [if_pos h3] at h1
    have hl : j < (sgT n os xs n).length := by rw [sgT_len]; exact hj
    rw [List.getElem?_eq_getElem hl]
    simp only [List.getD_eq_getElem?_getD, List.getElem?_eq_getElem hl, Option.getD_some] at h1
    rw [h1]
    simp [rnX, h2, List.getD]
  · rw [List.getElem?_eq_none (by rw [sgT_len]; omega), List.getElem?_eq_none (by simp [rnX, hp.1]; omega)]
structure St8s (hb h : Heap) (q : Nat) (Sg : SV) (l : Int) (X : List Int) : Prop where
  e : Ext hb h
  c : Cel3 h q .nilS Sg (.int .i64 l)
  x : Own hb h Sg (ints X)
  nx : NotAt Sg q
theorem St8s.set {hb h : Heap} {q : Nat} {Sg : SV} {l : Int} {X : List Int} (s : St8s hb h q Sg l X) {i : Nat} (hi : i < X.length) (v : Int) : ∃ id cap h', Sg = .slc id 0 X.length cap ∧ writeN h id (0 + i * 1) [.int .i64 v] = some h' ∧ St8s hb h' q Sg l (X.set i v) := by
  obtain ⟨id, cap, h2, es, w2, o2, e2, f2, l2⟩ := Own.wr s.e s.x (i := i) (by simpa [ints] using hi) (.int .i64 v)
  refine ⟨id, cap, h2, by rw [es]; simp [ints], w2, e2, (f2 _ _ s.c s.nx).1, ?_, s.nx⟩
  simpa [ints, List.map_set] using o2
def I8s (hb : Heap) (t S Sg : SV) (l : Int) (p5 p7 q : Nat) (xs os : List Int) (E : Env) (h : Heap) : Prop := ∃ i : Nat, i ≤ xs.length ∧ St8s hb h q Sg l (sgT xs.length os xs i) ∧
  E = [(5, some (.sc (.ptr p5 0))), (7, some (.sc (.ptr p7 0))), (8, some (.sc (.int .i64 0))), (9, some (.sc t)), (12, some (.sc (.ptr q 0))), (77, some (.sc S)), (78, some (.sc (.int .i64 (xs.length : Nat)))), (79, some (.sc (.int .i64 (i : Nat))))]
def R8s (hb : Heap) (t Sg : SV) (l : Int) (p5 p7 q : Nat) (xs os : List Int) (ex : Ex) (E : Env) (h : Heap) : Prop := ex = .ex 2 ∧ St8s hb h q Sg l (rnX os xs) ∧ ∃ a b c d,
  E = [(5, some (.sc (.ptr p5 0))), (7, some (.sc (.ptr p7 0))), (8, some (.sc (.int .i64 0))), (9, some (.sc t)), (12, some (.sc (.ptr q 0))), (77, a), (78, b), (79, c), (80, d)]
/-! ### The visits -/
section
variable {FT : FuncId → Option AFun} {HK : FuncId → Option Hook} {E : Env} {h h0 : Heap} {K : Env → Heap → Prop} {d : Option Nat} {r : List AOp} {xo so yo : AO}
theorem k_bsl2 {a b z0 z1 : SV} (hx : ev E xo = some (.agg [a, b])) (hw : wOps FT HK r (bindE d (some (.sc (.slc h.length 0 1 (some 1)))) E) (h ++ [.cells [a, b] true 2]) K) : wOps FT HK (⟨d, .bsl 2 [z0, z1] 1 [(0, xo)], none⟩ :: r) E h K := by
  refine op_ok (v := some (.sc (.slc h.length 0 1 (some 1)))) (h' := h ++ [.cells [a, b] true 2]) rfl rfl ?_ hw
  simp [step1, evParts, hx, AV.cells, fillA, rep, splice, ez2]
theorem k_app2 {n bytes : Nat} {s a b : SV} {cs z2 : List SV} (he : Ext h0 h) (ho : Own2 h0 h s n cs) (hs : evS E so = some s) (ht : evS E yo = some (.slc h.length 0 1 (some 1))) (hb : (n + 1) * (bytes + 1) ≤ bigN)
    (hw : ∀ s' h', Own2 h0 h' s' (n + 1) (cs ++ [a, b]) → Ext h0 h' → wOps FT HK r (bindE d (some (.sc s')) E) h' K) : wOps FT HK (⟨d, .app 2 bytes z2 so yo, none⟩ :: r) E (h ++ [.cells [a, b] true 2]) K := by
  obtain ⟨s', h', h1, h2, h3⟩ := push2 (bytes := bytes) he ho hb a b
  refine op_ok (v := some (.sc s')) (h' := h') rfl rfl ?_ (hw s' h' h2 h3)
  have e2 : srcCells (h ++ [Blk.cells [a, b] true 2]) 2 (.slc h.length 0 1 (some 1)) = some (1, [a, b]) := by simp [srcCells, readN, cut]
  simp only [step1, hs, ht, Option.bind_some, ez2, e2, h1, Option.map_some]
end
/-- A visit, its crossing renumbered. -/
def mvV (n : Nat) (os : List Int) (v : Vis) : Vis := (((nuO n os v.1.toNat : Nat) : Int), v.2)
def I8v (hb : Heap) (p5 q n m i : Nat) (os : List Int) (X t tt : SV) (vs : List Vis) (E : Env) (h : Heap) : Prop := ∃ (k : Nat) (u : SV), k ≤ vs.length ∧ Ext hb h ∧ Own2 hb h u k (vcs ((vs.map (mvV n os)).take k)) ∧
  E = [(5, some (.sc (.ptr p5 0))), (8, some (.sc (.int .i64 0))), (9, some (.sc t)), (12, some (.sc (.ptr q 0))), (17, some (.sc u)), (94, some (.sc X)), (95, some (.sc (.int .i64 (m : Nat)))), (96, some (.sc (.int .i64 (i : Nat)))), (100, some (.sc tt)), (101, some (.sc (.int .i64 (vs.length : Nat)))), (102, some (.sc (.int .i64 (k : Nat))))]
def R8v (hb : Heap) (p5 q n m i : Nat) (os : List Int) (X t : SV) (vs : List Vis) (ex : Ex) (E : Env) (h : Heap) : Prop := ex = .ex 6 ∧ Ext hb h ∧ ∃ u a b c d, Own2 hb h u vs.length (vcs (vs.map (mvV n os))) ∧
  E = [(5, some (.sc (.ptr p5 0))), (8, some (.sc (.int .i64 0))), (9, some (.sc t)), (12, some (.sc (.ptr q 0))), (17, some (.sc u)), (94, some (.sc X)), (95, some (.sc (.int .i64 (m : Nat)))), (96, some (.sc (.int .i64 (i : Nat)))), (100, a), (101, b), (102, c), (103, d)]
end Go.Proofs.YtleoalcbgpjieaaDoor


/- The law GaussShuffles: the sequences, moved. -/
namespace Go.Proofs.YtleoalcbgpjieaaDoor
open Go.Ab
set_option linter.unusedVariables false
set_option linter.unusedSimpArgs false
set_option maxRecDepth 20000
set_option maxHeartbeats 4000000
attribute [local irreducible] wOps wA wSeq wBlk wRound wRoundI wOpsD wOpsS

section
variable {FT : FuncId → Option AFun} {HK : FuncId → Option Hook} {E : Env} {h h0 : Heap} {K : Env → Heap → Prop} {d : Option Nat} {r : List AOp} {x y so yo : AO}
/-- v[1:] of pairs. -/
theorem k_sl2 {id n : Nat} {cs : List SV} (hx : evS E x = some (.slc id 0 n none)) (hg : h[id]? = some (.cells cs true 2)) (hn : 1 ≤ n) (hw : wOps FT HK r (bindE d (some (.sc (.slc id 2 (n - 1) none))) E) h K) :
    wOps FT HK (⟨d, .sl 2 x (some (.k (.sc (.int .i64 1)))) none, none⟩ :: r) E h K := by
  refine op_ok (v := some (.sc (.slc id 2 (n - 1) none))) (h' := h) rfl rfl ?_ hw
  have hb : Blk.esz (.cells cs true 2) = 2 := rfl
  have h1 : bnd E 0 (some (.k (.sc (.int .i64 1)))) = some 1 := rfl
  have h2 : bnd E ((n : Int)).toNat none = some n := by simp [bnd]
  have h3 : lenS false (SV.slc id 0 n none) = some (n : Int) := rfl
  simp only [step1, hx, Option.bind_some, h3, h1, h2, sliceS, hg]
  rw [if_pos ⟨hb, hn, Nat.le_refl _⟩]
  simp [ez2]
/-- append(v[1:], v[0]). -/
theorem k_rot2 {id n bytes : Nat} {a b a' b' : SV} {cs z2 : List SV} (hs : evS E so = some (.slc id 2 (n - 1) none)) (ht : evS E yo = some (.slc h.length 0 1 (some 1))) (hg : h[id]? = some (.cells (a' :: b' :: cs) true 2)) (hn : 1 ≤ n) (hc : cs.length = (n - 1) * 2) (hb : (n - 1 + 1) * (bytes + 1) ≤ bigN)
    (hw : wOps FT HK r (bindE d (some (.sc (.slc (h.length + 1) 0 n none))) E) ((h ++ [Blk.cells [a, b] true 2]).set id (Blk.dead 2) ++ [Blk.cells (cs ++ [a, b]) true 2]) K) :
    wOps FT HK (⟨d, .app 2 bytes z2 so yo, none⟩ :: r) E (h ++ [.cells [a, b] true 2]) K := by
  refine op_ok (v := some (.sc (.slc (h.length + 1) 0 n none))) (h' := (h ++ [Blk.cells [a, b] true 2]).set id (Blk.dead 2) ++ [Blk.cells (cs ++ [a, b]) true 2]) rfl rfl ?_ hw
  have hid := (List.getElem?_eq_some_iff.1 hg).1
  have hg' : (h ++ [Blk.cells [a, b] true 2])[id]? = some (.cells (a' :: b' :: cs) true 2) := by rw [List.getElem?_append_left hid]; exact hg
  have e2 : srcCells (h ++ [Blk.cells [a, b] true 2]) 2 (.slc h.length 0 1 (some 1)) = some (1, [a, b]) := by simp [srcCells, readN, cut]
  have hcut : cut (a' :: b' :: cs) 2 ((n - 1) * 2) = some cs := by
    unfold cut
    rw [if_pos (by simp [hc]; omega)]
    simp only [List.drop_succ_cons, List.drop_zero]
    rw [List.take_of_length_le (by omega)]
  simp only [step1, hs, ht, Option.bind_some, ez2, e2, appS, hg', hcut]
  rw [if_neg (by omega), if_pos hb]
  simp only [if_true]
  rw [if_pos ⟨trivial, .inl rfl⟩]
  simp [show n - 1 + 1 = n by omega]
theorem k_bsl1 {a z0 : SV} (hx : ev E x = some (.sc a)) (hw : wOps FT HK r (bindE d (some (.sc (.slc h.length 0 1 (some 1)))) E) (h ++ [.cells [a] true 1]) K) : wOps FT HK (⟨d, .bsl 1 [z0] 1 [(0, x)], none⟩ :: r) E h K := by
  refine op_ok (v := some (.sc (.slc h.length 0 1 (some 1)))) (h' := h ++ [.cells [a] true 1]) rfl rfl ?_ hw
  simp [step1, evParts, hx, AV.cells, fillA, rep, splice]
end

/-- Sequences that lie elsewhere than in block q. -/
def CompsN (h : Heap) (q : Nat) (Y : SV) (C : List (List Vis)) : Prop := ∃ ss : List SV, ss.length = C.length ∧ IsSl h Y 1 ss.length ss ∧ NotAt Y q ∧ ∀ (i : Nat) (t : SV) (vs : List Vis), ss[i]? = some t → C[i]? = some vs → IsVis h t vs ∧ NotAt t q
theorem CompsN.go {h h' : Heap} {q : Nat} {Y : SV} {C : List (List Vis)} (s : CompsN h q Y C) (kp : ∀ (j : Nat) (b : Blk), h[j]? = some b → j ≠ q → h'[j]? = some b) : CompsN h' q Y C := by
  obtain ⟨ss, h1, h2, h3, h4⟩ := s
  have g : ∀ {t : SV} {e : ESz} {n : Nat} {ws : List SV}, IsSl h t e n ws → NotAt t q → IsSl h' t e n ws := fun i hn => IsSl.keep i fun j b hj ht => kp j b hj fun e => by subst e; exact ht hn
  exact ⟨ss, h1, g h2 h3, h3, fun i t vs a b => ⟨g (h4 i t vs a b).1 (h4 i t vs a b).2, (h4 i t vs a b).2⟩⟩
theorem CompsN.is {h : Heap} {q : Nat} {Y : SV} {C : List (List Vis)} (s : CompsN h q Y C) : IsComps h Y C := by
  obtain ⟨ss, h1, h2, h3, h4⟩ := s
  exact ⟨ss, h1, h2, fun i t vs a b => (h4 i t vs a b).1⟩
/-- One more in front. -/
theorem CompsN.cons {h : Heap} {q : Nat} {Y t : SV} {C : List (List Vis)} {vs : List Vis} {ss : List SV} (h1 : ss.length = C.length) (h2 : IsSl h Y 1 (t :: ss).length (t :: ss)) (h3 : NotAt Y q) (ht : IsVis h t vs) (hn : NotAt t q)
    (h4 : ∀ (i : Nat) (t : SV) (vs : List Vis), ss[i]? = some t → C[i]? = some vs → IsVis h t vs ∧ NotAt t q) : CompsN h q Y (vs :: C) := by
  refine ⟨t :: ss, by simp [h1], h2, h3, fun i u ws a b => ?_⟩
  cases i with
  | zero =>
    simp at a b
    subst a b
    exact ⟨ht, hn⟩
  | succ i => exact h4 i u ws (by simpa using a) (by simpa using b)
/-- The sequences, as the law moves them. -/
def mvC (n : Nat) (os : List Int) (C : List (List Vis)) : List (List Vis) := (C.map fun vs => rot1 (vs.map (mvV n os))).reverse
theorem mvC_next {n : Nat} {os : List Int} {C : List (List Vis)} {i : Nat} {vs : List Vis} (h : C[i]? = some vs) : mvC n os (C.take (i + 1)) = rot1 (vs.map (mvV n os)) :: mvC n os (C.take i) := by
  unfold mvC
  rw [take_snoc h]; simp
structure StM (H h : Heap) (q : Nat) (Y Sg : SV) (l : Int) (C : List (List Vis)) : Prop where
  le : H.length ≤ h.length
  q1 : q < H.length
  kp : ∀ (j : Nat) (b : Blk), H[j]? = some b → j ≠ q → h[j]? = some b
  c : Cel3 h q Y Sg (.int .i64 l)
  x : CompsN h q Y C
def I8c (H : Heap) (p5 q : Nat) (n : Nat) (os : List Int) (X t Sg : SV) (l : Int) (C : List (List Vis)) (E : Env) (h : Heap) : Prop := ∃ (i : Nat) (Y : SV), i ≤ C.length ∧ StM H h q Y Sg l (mvC n os (C.take i)) ∧
  E = [(5, some (.sc (.ptr p5 0))), (8, some (.sc (.int .i64 0))), (9, some (.sc t)), (12, some (.sc (.ptr q 0))), (94, some (.sc X)), (95, some (.sc (.int .i64 (C.length : Nat)))), (96, some (.sc (.int .i64 (i : Nat))))]
def R8c (H : Heap) (p5 q : Nat) (n : Nat) (os : List Int) (Sg : SV) (l : Int) (C : List (List Vis)) (ex : Ex) (E : Env) (h : Heap) : Prop := ex = .ex 4 ∧ ∃ Y a b c d e, StM H h q Y Sg l (mvC n os C) ∧
  E = [(5, some (.sc (.ptr p5 0))), (8, some (.sc (.int .i64 0))), (9, a), (12, some (.sc (.ptr q 0))), (94, b), (95, c), (96, d), (97, e)]
end Go.Proofs.YtleoalcbgpjieaaDoor

