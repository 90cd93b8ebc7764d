/- The law GaussShuffles: its loops. -/
import Derived.Test.YtleoalcbgpjieaaDoorRN2
import Derived.Test.YtleoalcbgpjieaaDoorAb38
namespace Go.Proofs.YtleoalcbgpjieaaDoor
open Go.Ab
set_option linter.unusedVariables false
set_option linter.unusedSimpArgs false
set_option maxRecDepth 20000
set_option maxHeartbeats 4000000
attribute [local irreducible] wOps wA wSeq wBlk wRound wRoundI wOpsD wOpsS

/-! ### The numbers -/
def I8a (hb : Heap) (o t : SV) (p5 p7 : Nat) (n : Nat) (os : List Int) (E : Env) (h : Heap) : Prop := ∃ i : Nat, i ≤ n ∧ Ext hb h ∧ Own hb h t (ints (numT 0 n os i)) ∧
  E = [(5, some (.sc (.ptr p5 0))), (7, some (.sc (.ptr p7 0))), (8, some (.sc (.int .i64 0))), (9, some (.sc t)), (57, some (.sc o)), (58, some (.sc (.int .i64 (n : Nat)))), (59, some (.sc (.int .i64 (i : Nat))))]
def R8a (hb : Heap) (t : SV) (p5 p7 : Nat) (n : Nat) (os : List Int) (ex : Ex) (E : Env) (h : Heap) : Prop := ex = .ex 0 ∧ Ext hb h ∧ Own hb h t (ints (numT 0 n os n)) ∧ ∃ a b c d,
  E = [(5, some (.sc (.ptr p5 0))), (7, some (.sc (.ptr p7 0))), (8, some (.sc (.int .i64 0))), (9, some (.sc t)), (57, a), (58, b), (59, c), (60, d)]
theorem round8a (hb : Heap) (o t : SV) (p5 p7 : Nat) (n : Nat) (os : List Int) (hn : n ≤ 1000) (ho : IsInts hb o os) (hp : PermO os n) (E : Env) (h : Heap) (hI : I8a hb o t p5 p7 n os E h) :
    wA FT HKt b8L0 (E.keep [5, 7, 8, 9, 57, 58, 59]) h (wRound (I8a hb o t p5 p7 n os) (cnt n 59) (cnt n 59 E h) (R8a hb t p5 p7 n os)) := by
  obtain ⟨i, hi, e, ow, rfl⟩ := hI
  by_cases hlt : i < n
  · obtain ⟨hmu, hml⟩ := hp.mu hlt
    have hg : os.getD i 0 = ((muO os i : Nat) : Int) := by simp [List.getD, hmu]
    have en : numT 0 n os (i + 1) = (numT 0 n os i).set (muO os i) (i : Int) := by rw [numT, hg]; rfl
    have hpl := hp.1
    generalize muO os i = cc at *
    obtain ⟨id, off, cap, rfl, hr⟩ := IsInts.at (IsSl.ext ho e) hmu
    have hl : (ints (numT 0 n os i)).length = n := by simp [ints, numT_len]
    obtain ⟨id2, cap2, h2, rfl, w2, o2, e2, f2, l2⟩ := Own.wr e ow (i := cc) (by omega) (.int .i64 (i : Nat))
    rw [hl] at *
    have i1 : ((cc : Int)).toNat = cc := by omega
    rw [← i1] at w2
    repeat' (first | refine w_seq ?_ | refine w_seqN ?_ | refine w_blk ?_ | refine w_blkN ?_ | refine w_skip ?_ | refine w_ops ?_ | ((refine i_cond ?_); refine w_condT rfl ?_) | ((refine i_nil ?_); first | refine w_end7 rfl rfl rfl rfl rfl rfl rfl ?_ | refine w_end8 rfl rfl rfl rfl rfl rfl rfl rfl ?_ | refine w_end9 rfl rfl rfl rfl rfl rfl rfl rfl rfl ?_) | ((refine i_cons ?_); first | refine k_idxA (esz := 1) rfl rfl (by omega) ?_ | refine k_ld rfl hr ?_ | refine k_st rfl rfl w2 ?_ | refine k_mv rfl ?_ | refine k_add rfl rfl (by omega) ?_ | refine k_lssT rfl rfl (by omega) ?_))
    refine w_roundN ⟨i + 1, by omega, e2, ?_, rfl⟩ (by simp [cnt, Env.get]; omega)
    rw [en]
    simpa [ints, List.map_set] using o2
  · have : i = n := by omega
    subst this
    repeat' (first | refine w_seq ?_ | refine w_seqN ?_ | refine w_seqX ?_ | refine w_exit ?_ | refine w_ops ?_ | ((refine i_cond ?_); refine w_condF rfl ?_) | ((refine i_nil ?_); refine w_end8 rfl rfl rfl rfl rfl rfl rfl rfl ?_) | ((refine i_cons ?_); refine k_lssF rfl rfl (by omega) ?_))
    exact w_roundX ⟨rfl, e, ow, _, _, _, _, rfl⟩

/-! ### The signs -/
def sgT (n : Nat) (os xs : List Int) : Nat → List Int
  | 0 => List.replicate n 0
  | k + 1 => (sgT n os xs k).set (nuO n os k) (xs.getD k 0)
theorem sgT_len (n : Nat) (os xs : List Int) : ∀ k, (sgT n os xs k).length = n
  | 0 => by simp [sgT]
  | k + 1 => by simp [sgT, sgT_len n os xs k]
theorem sgT_at {n : Nat} {os xs : List Int} (hp : PermO os n) {j : Nat} (hj : j < n) : ∀ {k}, k ≤ n → (sgT n os xs k).getD j 0 = if muO os j < k then xs.getD (muO os j) 0 else 0
  | 0, _ => by simp [sgT, List.getD, hj]
  | k + 1, hk => by
    obtain ⟨h1, h2, h3⟩ := hp.num (z := 0) (c := k) (by omega)
    rw [sgT, getD_set (by rw [sgT_len]; exact h2), sgT_at hp hj (by omega)]
    by_cases he : j = nuO n os k
    · rw [if_pos he, he, h3, if_pos (by omega)]
    · rw [if_neg he]
      have : muO os j ≠ k := fun e => he (by rw [← e, hp.back hj])
      by_cases h4 : muO os j < k
      · rw [if_pos h4, if_pos (by omega)]
      · rw [if_neg h4, if_neg (by omega)]
theorem sgT_all {n : Nat} {os xs : List Int} (hp : PermO os n) : sgT n os xs n = rnX os xs := by
  refine List.ext_getElem? fun j => ?_
  by_cases hj : j < n
  · have h1 := sgT_at (xs := xs) hp hj (Nat.le_refl n)
    obtain ⟨h2, h3⟩ := hp.mu hj
    rw [if_pos h3] at h1
    have hl : j < (sgT n os xs n).length := by rw [sgT_len]; exact hj
    rw [List.getElem?_eq_getElem hl]
    simp only [List.getD_eq_getElem?_getD, List.getElem?_eq_getElem hl, Option.getD_some] at h1
    rw [h1]
    simp [rnX, h2, List.getD]
  · rw [List.getElem?_eq_none (by rw [sgT_len]; omega), List.getElem?_eq_none (by simp [rnX, hp.1]; omega)]
structure St8s (hb h : Heap) (q : Nat) (Sg : SV) (l : Int) (X : List Int) : Prop where
  e : Ext hb h
  c : Cel3 h q .nilS Sg (.int .i64 l)
  x : Own hb h Sg (ints X)
  nx : NotAt Sg q
theorem St8s.set {hb h : Heap} {q : Nat} {Sg : SV} {l : Int} {X : List Int} (s : St8s hb h q Sg l X) {i : Nat} (hi : i < X.length) (v : Int) : ∃ id cap h', Sg = .slc id 0 X.length cap ∧ writeN h id (0 + i * 1) [.int .i64 v] = some h' ∧ St8s hb h' q Sg l (X.set i v) := by
  obtain ⟨id, cap, h2, es, w2, o2, e2, f2, l2⟩ := Own.wr s.e s.x (i := i) (by simpa [ints] using hi) (.int .i64 v)
  refine ⟨id, cap, h2, by rw [es]; simp [ints], w2, e2, (f2 _ _ s.c s.nx).1, ?_, s.nx⟩
  simpa [ints, List.map_set] using o2
def I8s (hb : Heap) (t S Sg : SV) (l : Int) (p5 p7 q : Nat) (xs os : List Int) (E : Env) (h : Heap) : Prop := ∃ i : Nat, i ≤ xs.length ∧ St8s hb h q Sg l (sgT xs.length os xs i) ∧
  E = [(5, some (.sc (.ptr p5 0))), (7, some (.sc (.ptr p7 0))), (8, some (.sc (.int .i64 0))), (9, some (.sc t)), (12, some (.sc (.ptr q 0))), (77, some (.sc S)), (78, some (.sc (.int .i64 (xs.length : Nat)))), (79, some (.sc (.int .i64 (i : Nat))))]
def R8s (hb : Heap) (t Sg : SV) (l : Int) (p5 p7 q : Nat) (xs os : List Int) (ex : Ex) (E : Env) (h : Heap) : Prop := ex = .ex 2 ∧ St8s hb h q Sg l (rnX os xs) ∧ ∃ a b c d,
  E = [(5, some (.sc (.ptr p5 0))), (7, some (.sc (.ptr p7 0))), (8, some (.sc (.int .i64 0))), (9, some (.sc t)), (12, some (.sc (.ptr q 0))), (77, a), (78, b), (79, c), (80, d)]
theorem round8s (hb : Heap) (t S Sg : SV) (l : Int) (p5 p7 q : Nat) (xs os : List Int) (hn : xs.length ≤ 1000) (hS : IsInts hb S xs) (ht : IsInts hb t (numT 0 xs.length os xs.length)) (hp : PermO os xs.length) (E : Env) (h : Heap) (hI : I8s hb t S Sg l p5 p7 q xs os E h) :
    wA FT HKt b8L1 (E.keep [5, 7, 8, 9, 12, 77, 78, 79]) h (wRound (I8s hb t S Sg l p5 p7 q xs os) (cnt xs.length 79) (cnt xs.length 79 E h) (R8s hb t Sg l p5 p7 q xs os)) := by
  obtain ⟨i, hi, st, rfl⟩ := hI
  by_cases hlt : i < xs.length
  · obtain ⟨x, hx⟩ : ∃ x, xs[i]? = some x := ⟨_, List.getElem?_eq_getElem hlt⟩
    have hg : xs.getD i 0 = x := by simp [List.getD, hx]
    obtain ⟨n1, n2, n3⟩ := hp.num (z := 0) hlt
    have en : sgT xs.length os xs (i + 1) = (sgT xs.length os xs i).set (nuO xs.length os i) x := by rw [sgT, hg]
    generalize nuO xs.length os i = nn at *
    obtain ⟨id, off, cap, rfl, hr⟩ := IsInts.at (IsSl.ext hS st.e) hx
    obtain ⟨id2, off2, cap2, rfl, hr2⟩ := IsInts.at (IsSl.ext ht st.e) n1
    obtain ⟨id3, cap3, h3, rfl, w3, s3⟩ := st.set (i := nn) (by rw [sgT_len]; exact n2) x
    have b1 := st.c.at
    rw [numT_len] at *
    rw [sgT_len] at *
    rw [← en] at s3
    have i1 : ((nn : Int)).toNat = nn := by omega
    rw [← i1] at w3
    repeat' (first | refine w_seq ?_ | refine w_seqN ?_ | refine w_blk ?_ | refine w_blkN ?_ | refine w_skip ?_ | refine w_ops ?_ | refine w_opsD ?_ | refine d_one ?_ | refine d_nil ?_ | ((refine i_cond ?_); refine w_condT rfl ?_) | ((refine i_nil ?_); first | refine d_same ?_ | refine d_ord ?_ | refine w_end8 rfl rfl rfl rfl rfl rfl rfl rfl ?_ | refine w_end9 rfl rfl rfl rfl rfl rfl rfl rfl rfl ?_ | refine w_end10 rfl rfl rfl rfl rfl rfl rfl rfl rfl rfl ?_) | ((refine i_cons ?_); first | refine k_fldA rfl ?_ | refine k_ldb rfl b1 rfl ?_ | refine k_idxA (esz := 1) rfl rfl (by omega) ?_ | refine k_ld rfl hr ?_ | refine k_ld rfl hr2 ?_ | refine k_st rfl rfl w3 ?_ | refine k_mv rfl ?_ | refine k_add rfl rfl (by omega) ?_ | refine k_lssT rfl rfl (by omega) ?_))
    exact w_roundN ⟨i + 1, by omega, s3, rfl⟩ (by simp [cnt, Env.get]; omega)
  · have : i = xs.length := by omega
    subst this
    rw [sgT_all hp] at st
    repeat' (first | refine w_seq ?_ | refine w_seqN ?_ | refine w_seqX ?_ | refine w_exit ?_ | refine w_ops ?_ | ((refine i_cond ?_); refine w_condF rfl ?_) | ((refine i_nil ?_); refine w_end9 rfl rfl rfl rfl rfl rfl rfl rfl rfl ?_) | ((refine i_cons ?_); refine k_lssF rfl rfl (by omega) ?_))
    exact w_roundX ⟨rfl, st, _, _, _, _, rfl⟩

/-! ### The visits -/
section
variable {FT : FuncId → Option AFun} {HK : FuncId → Option Hook} {E : Env} {h h0 : Heap} {K : Env → Heap → Prop} {d : Option Nat} {r : List AOp} {xo so yo : AO}
theorem k_bsl2 {a b z0 z1 : SV} (hx : ev E xo = some (.agg [a, b])) (hw : wOps FT HK r (bindE d (some (.sc (.slc h.length 0 1 (some 1)))) E) (h ++ [.cells [a, b] true 2]) K) : wOps FT HK (⟨d, .bsl 2 [z0, z1] 1 [(0, xo)], none⟩ :: r) E h K := by
  refine op_ok (v := some (.sc (.slc h.length 0 1 (some 1)))) (h' := h ++ [.cells [a, b] true 2]) rfl rfl ?_ hw
  simp [step1, evParts, hx, AV.cells, fillA, rep, splice, ez2]
theorem k_app2 {n bytes : Nat} {s a b : SV} {cs z2 : List SV} (he : Ext h0 h) (ho : Own2 h0 h s n cs) (hs : evS E so = some s) (ht : evS E yo = some (.slc h.length 0 1 (some 1))) (hb : (n + 1) * (bytes + 1) ≤ bigN)
    (hw : ∀ s' h', Own2 h0 h' s' (n + 1) (cs ++ [a, b]) → Ext h0 h' → wOps FT HK r (bindE d (some (.sc s')) E) h' K) : wOps FT HK (⟨d, .app 2 bytes z2 so yo, none⟩ :: r) E (h ++ [.cells [a, b] true 2]) K := by
  obtain ⟨s', h', h1, h2, h3⟩ := push2 (bytes := bytes) he ho hb a b
  refine op_ok (v := some (.sc s')) (h' := h') rfl rfl ?_ (hw s' h' h2 h3)
  have e2 : srcCells (h ++ [Blk.cells [a, b] true 2]) 2 (.slc h.length 0 1 (some 1)) = some (1, [a, b]) := by simp [srcCells, readN, cut]
  simp only [step1, hs, ht, Option.bind_some, ez2, e2, h1, Option.map_some]
end
/-- A visit, its crossing renumbered. -/
def mvV (n : Nat) (os : List Int) (v : Vis) : Vis := (((nuO n os v.1.toNat : Nat) : Int), v.2)
def I8v (hb : Heap) (p5 q n m i : Nat) (os : List Int) (X t tt : SV) (vs : List Vis) (E : Env) (h : Heap) : Prop := ∃ (k : Nat) (u : SV), k ≤ vs.length ∧ Ext hb h ∧ Own2 hb h u k (vcs ((vs.map (mvV n os)).take k)) ∧
  E = [(5, some (.sc (.ptr p5 0))), (8, some (.sc (.int .i64 0))), (9, some (.sc t)), (12, some (.sc (.ptr q 0))), (17, some (.sc u)), (94, some (.sc X)), (95, some (.sc (.int .i64 (m : Nat)))), (96, some (.sc (.int .i64 (i : Nat)))), (100, some (.sc tt)), (101, some (.sc (.int .i64 (vs.length : Nat)))), (102, some (.sc (.int .i64 (k : Nat))))]
def R8v (hb : Heap) (p5 q n m i : Nat) (os : List Int) (X t : SV) (vs : List Vis) (ex : Ex) (E : Env) (h : Heap) : Prop := ex = .ex 6 ∧ Ext hb h ∧ ∃ u a b c d, Own2 hb h u vs.length (vcs (vs.map (mvV n os))) ∧
  E = [(5, some (.sc (.ptr p5 0))), (8, some (.sc (.int .i64 0))), (9, some (.sc t)), (12, some (.sc (.ptr q 0))), (17, some (.sc u)), (94, some (.sc X)), (95, some (.sc (.int .i64 (m : Nat)))), (96, some (.sc (.int .i64 (i : Nat)))), (100, a), (101, b), (102, c), (103, d)]
theorem round8v (hb : Heap) (p5 q n m i : Nat) (os : List Int) (X t tt : SV) (vs : List Vis) (hvl : vs.length ≤ 1000) (ht : IsInts hb t (numT 0 n os n)) (hp : PermO os n) (hT : IsVis hb tt vs) (hv : ∀ v ∈ vs, 0 ≤ v.1 ∧ v.1 < (n : Int)) (E : Env) (h : Heap) (hI : I8v hb p5 q n m i os X t tt vs E h) :
    wA FT HKt b8L3 (E.keep [5, 8, 9, 12, 17, 94, 95, 96, 100, 101, 102]) h (wRound (I8v hb p5 q n m i os X t tt vs) (cnt vs.length 102) (cnt vs.length 102 E h) (R8v hb p5 q n m i os X t vs)) := by
  obtain ⟨k, u, hk, e, ow, rfl⟩ := hI
  by_cases hlt : k < vs.length
  · obtain ⟨v, hx⟩ : ∃ v, vs[k]? = some v := ⟨_, List.getElem?_eq_getElem hlt⟩
    obtain ⟨v0, v1⟩ := hv v (List.mem_of_getElem? hx)
    obtain ⟨n1, n2, n3⟩ := hp.num (z := 0) (c := v.1.toNat) (by omega)
    have en : vcs ((vs.map (mvV n os)).take (k + 1)) = vcs ((vs.map (mvV n os)).take k) ++ [.int .i64 ((nuO n os v.1.toNat : Nat) : Int), .bool v.2] := by
      have : (vs.map (mvV n os))[k]? = some (mvV n os v) := by simp [hx]
      rw [take_snoc this, vcs_snoc]; rfl
    generalize nuO n os v.1.toNat = nn at *
    obtain ⟨id, off, cap, rfl, hr⟩ := (hT.ext e).at hx
    obtain ⟨id2, off2, cap2, rfl, hr2⟩ := IsInts.at (IsSl.ext ht e) n1
    rw [numT_len] at *
    repeat' (first | refine w_seq ?_ | refine w_seqN ?_ | refine w_blk ?_ | refine w_blkN ?_ | refine w_skip ?_ | refine w_ops ?_ | refine w_opsD ?_ | refine d_one ?_ | refine d_nil ?_ | ((refine i_cond ?_); refine w_condT rfl ?_) | ((refine i_nil ?_); first | refine d_same ?_ | refine d_ord ?_ | refine w_end11 rfl rfl rfl rfl rfl rfl rfl rfl rfl rfl rfl ?_ | refine w_end12 rfl rfl rfl rfl rfl rfl rfl rfl rfl rfl rfl rfl ?_) | ((refine i_cons ?_); first | refine k_idxA (esz := 2) rfl rfl (by omega) ?_ | refine k_idxA (esz := 1) rfl rfl (by omega) ?_ | refine op_ldA rfl rfl hr ?_ | (refine k_newst rfl ?_; intro h1 e1 c1; have e2 := e.trans e1; have o1 := ow.ext e1; have r2 := readN_ext e1 hr2) | refine k_fldA rfl ?_ | refine k_ldC0 rfl c1 ?_ | refine k_ldC1 rfl c1 ?_ | refine k_ld rfl r2 ?_ | refine k_bld rfl rfl ?_ | refine k_bsl2 rfl ?_ | (refine k_app2 e2 o1 rfl rfl (by simp only [bigN]; omega) ?_; intro u' h3 o3 e3) | refine k_mv rfl ?_ | refine k_add rfl rfl (by omega) ?_ | refine k_lssT rfl rfl (by omega) ?_))
    exact w_roundN ⟨k + 1, u', by omega, e3, by rw [en]; exact o3, rfl⟩ (by simp [cnt, Env.get]; omega)
  · have hke : k = vs.length := by omega
    subst hke
    rw [List.take_of_length_le (by simp)] at ow
    repeat' (first | refine w_seq ?_ | refine w_seqN ?_ | refine w_seqX ?_ | refine w_exit ?_ | refine w_ops ?_ | ((refine i_cond ?_); refine w_condF rfl ?_) | ((refine i_nil ?_); refine w_end12 rfl rfl rfl rfl rfl rfl rfl rfl rfl rfl rfl rfl ?_) | ((refine i_cons ?_); refine k_lssF rfl rfl (by omega) ?_))
    exact w_roundX ⟨rfl, e, u, _, _, _, _, ow, rfl⟩
end Go.Proofs.YtleoalcbgpjieaaDoor


/- The law GaussShuffles: the sequences, moved. -/
namespace Go.Proofs.YtleoalcbgpjieaaDoor
open Go.Ab
set_option linter.unusedVariables false
set_option linter.unusedSimpArgs false
set_option maxRecDepth 20000
set_option maxHeartbeats 4000000
attribute [local irreducible] wOps wA wSeq wBlk wRound wRoundI wOpsD wOpsS

section
variable {FT : FuncId → Option AFun} {HK : FuncId → Option Hook} {E : Env} {h h0 : Heap} {K : Env → Heap → Prop} {d : Option Nat} {r : List AOp} {x y so yo : AO}
/-- v[1:] of pairs. -/
theorem k_sl2 {id n : Nat} {cs : List SV} (hx : evS E x = some (.slc id 0 n none)) (hg : h[id]? = some (.cells cs true 2)) (hn : 1 ≤ n) (hw : wOps FT HK r (bindE d (some (.sc (.slc id 2 (n - 1) none))) E) h K) :
    wOps FT HK (⟨d, .sl 2 x (some (.k (.sc (.int .i64 1)))) none, none⟩ :: r) E h K := by
  refine op_ok (v := some (.sc (.slc id 2 (n - 1) none))) (h' := h) rfl rfl ?_ hw
  have hb : Blk.esz (.cells cs true 2) = 2 := rfl
  have h1 : bnd E 0 (some (.k (.sc (.int .i64 1)))) = some 1 := rfl
  have h2 : bnd E ((n : Int)).toNat none = some n := by simp [bnd]
  have h3 : lenS false (SV.slc id 0 n none) = some (n : Int) := rfl
  simp only [step1, hx, Option.bind_some, h3, h1, h2, sliceS, hg]
  rw [if_pos ⟨hb, hn, Nat.le_refl _⟩]
  simp [ez2]
/-- append(v[1:], v[0]). -/
theorem k_rot2 {id n bytes : Nat} {a b a' b' : SV} {cs z2 : List SV} (hs : evS E so = some (.slc id 2 (n - 1) none)) (ht : evS E yo = some (.slc h.length 0 1 (some 1))) (hg : h[id]? = some (.cells (a' :: b' :: cs) true 2)) (hn : 1 ≤ n) (hc : cs.length = (n - 1) * 2) (hb : (n - 1 + 1) * (bytes + 1) ≤ bigN)
    (hw : wOps FT HK r (bindE d (some (.sc (.slc (h.length + 1) 0 n none))) E) ((h ++ [Blk.cells [a, b] true 2]).set id (Blk.dead 2) ++ [Blk.cells (cs ++ [a, b]) true 2]) K) :
    wOps FT HK (⟨d, .app 2 bytes z2 so yo, none⟩ :: r) E (h ++ [.cells [a, b] true 2]) K := by
  refine op_ok (v := some (.sc (.slc (h.length + 1) 0 n none))) (h' := (h ++ [Blk.cells [a, b] true 2]).set id (Blk.dead 2) ++ [Blk.cells (cs ++ [a, b]) true 2]) rfl rfl ?_ hw
  have hid := (List.getElem?_eq_some_iff.1 hg).1
  have hg' : (h ++ [Blk.cells [a, b] true 2])[id]? = some (.cells (a' :: b' :: cs) true 2) := by rw [List.getElem?_append_left hid]; exact hg
  have e2 : srcCells (h ++ [Blk.cells [a, b] true 2]) 2 (.slc h.length 0 1 (some 1)) = some (1, [a, b]) := by simp [srcCells, readN, cut]
  have hcut : cut (a' :: b' :: cs) 2 ((n - 1) * 2) = some cs := by
    unfold cut
    rw [if_pos (by simp [hc]; omega)]
    simp only [List.drop_succ_cons, List.drop_zero]
    rw [List.take_of_length_le (by omega)]
  simp only [step1, hs, ht, Option.bind_some, ez2, e2, appS, hg', hcut]
  rw [if_neg (by omega), if_pos hb]
  simp only [if_true]
  rw [if_pos ⟨trivial, .inl rfl⟩]
  simp [show n - 1 + 1 = n by omega]
theorem k_bsl1 {a z0 : SV} (hx : ev E x = some (.sc a)) (hw : wOps FT HK r (bindE d (some (.sc (.slc h.length 0 1 (some 1)))) E) (h ++ [.cells [a] true 1]) K) : wOps FT HK (⟨d, .bsl 1 [z0] 1 [(0, x)], none⟩ :: r) E h K := by
  refine op_ok (v := some (.sc (.slc h.length 0 1 (some 1)))) (h' := h ++ [.cells [a] true 1]) rfl rfl ?_ hw
  simp [step1, evParts, hx, AV.cells, fillA, rep, splice]
end

/-- Sequences that lie elsewhere than in block q. -/
def CompsN (h : Heap) (q : Nat) (Y : SV) (C : List (List Vis)) : Prop := ∃ ss : List SV, ss.length = C.length ∧ IsSl h Y 1 ss.length ss ∧ NotAt Y q ∧ ∀ (i : Nat) (t : SV) (vs : List Vis), ss[i]? = some t → C[i]? = some vs → IsVis h t vs ∧ NotAt t q
theorem CompsN.go {h h' : Heap} {q : Nat} {Y : SV} {C : List (List Vis)} (s : CompsN h q Y C) (kp : ∀ (j : Nat) (b : Blk), h[j]? = some b → j ≠ q → h'[j]? = some b) : CompsN h' q Y C := by
  obtain ⟨ss, h1, h2, h3, h4⟩ := s
  have g : ∀ {t : SV} {e : ESz} {n : Nat} {ws : List SV}, IsSl h t e n ws → NotAt t q → IsSl h' t e n ws := fun i hn => IsSl.keep i fun j b hj ht => kp j b hj fun e => by subst e; exact ht hn
  exact ⟨ss, h1, g h2 h3, h3, fun i t vs a b => ⟨g (h4 i t vs a b).1 (h4 i t vs a b).2, (h4 i t vs a b).2⟩⟩
theorem CompsN.is {h : Heap} {q : Nat} {Y : SV} {C : List (List Vis)} (s : CompsN h q Y C) : IsComps h Y C := by
  obtain ⟨ss, h1, h2, h3, h4⟩ := s
  exact ⟨ss, h1, h2, fun i t vs a b => (h4 i t vs a b).1⟩
/-- One more in front. -/
theorem CompsN.cons {h : Heap} {q : Nat} {Y t : SV} {C : List (List Vis)} {vs : List Vis} {ss : List SV} (h1 : ss.length = C.length) (h2 : IsSl h Y 1 (t :: ss).length (t :: ss)) (h3 : NotAt Y q) (ht : IsVis h t vs) (hn : NotAt t q)
    (h4 : ∀ (i : Nat) (t : SV) (vs : List Vis), ss[i]? = some t → C[i]? = some vs → IsVis h t vs ∧ NotAt t q) : CompsN h q Y (vs :: C) := by
  refine ⟨t :: ss, by simp [h1], h2, h3, fun i u ws a b => ?_⟩
  cases i with
  | zero =>
    simp at a b
    subst a b
    exact ⟨ht, hn⟩
  | succ i => exact h4 i u ws (by simpa using a) (by simpa using b)
/-- The sequences, as the law moves them. -/
def mvC (n : Nat) (os : List Int) (C : List (List Vis)) : List (List Vis) := (C.map fun vs => rot1 (vs.map (mvV n os))).reverse
theorem mvC_next {n : Nat} {os : List Int} {C : List (List Vis)} {i : Nat} {vs : List Vis} (h : C[i]? = some vs) : mvC n os (C.take (i + 1)) = rot1 (vs.map (mvV n os)) :: mvC n os (C.take i) := by
  unfold mvC
  rw [take_snoc h]; simp
structure StM (H h : Heap) (q : Nat) (Y Sg : SV) (l : Int) (C : List (List Vis)) : Prop where
  le : H.length ≤ h.length
  q1 : q < H.length
  kp : ∀ (j : Nat) (b : Blk), H[j]? = some b → j ≠ q → h[j]? = some b
  c : Cel3 h q Y Sg (.int .i64 l)
  x : CompsN h q Y C
def I8c (H : Heap) (p5 q : Nat) (n : Nat) (os : List Int) (X t Sg : SV) (l : Int) (C : List (List Vis)) (E : Env) (h : Heap) : Prop := ∃ (i : Nat) (Y : SV), i ≤ C.length ∧ StM H h q Y Sg l (mvC n os (C.take i)) ∧
  E = [(5, some (.sc (.ptr p5 0))), (8, some (.sc (.int .i64 0))), (9, some (.sc t)), (12, some (.sc (.ptr q 0))), (94, some (.sc X)), (95, some (.sc (.int .i64 (C.length : Nat)))), (96, some (.sc (.int .i64 (i : Nat))))]
def R8c (H : Heap) (p5 q : Nat) (n : Nat) (os : List Int) (Sg : SV) (l : Int) (C : List (List Vis)) (ex : Ex) (E : Env) (h : Heap) : Prop := ex = .ex 4 ∧ ∃ Y a b c d e, StM H h q Y Sg l (mvC n os C) ∧
  E = [(5, some (.sc (.ptr p5 0))), (8, some (.sc (.int .i64 0))), (9, a), (12, some (.sc (.ptr q 0))), (94, b), (95, c), (96, d), (97, e)]
theorem round8c (H : Heap) (p5 q : Nat) (n : Nat) (os : List Int) (X t Sg : SV) (l : Int) (C : List (List Vis)) (hC : CompsN H q X C) (ht : IsInts H t (numT 0 n os n)) (tq : NotAt t q) (hp : PermO os n) (hcl : C.length ≤ 1000) (hcs : ∀ vs ∈ C, vs ≠ [] ∧ vs.length ≤ 1000 ∧ ∀ v ∈ vs, 0 ≤ v.1 ∧ v.1 < (n : Int)) (E : Env) (h : Heap) (hI : I8c H p5 q n os X t Sg l C E h) :
    wA FT HKt b8L2 (E.keep [5, 8, 9, 12, 94, 95, 96]) h (wRound (I8c H p5 q n os X t Sg l C) (cnt C.length 96) (cnt C.length 96 E h) (R8c H p5 q n os Sg l C)) := by
  obtain ⟨i, Y, hi, st, rfl⟩ := hI
  by_cases hlt : i < C.length
  · obtain ⟨vs, hx⟩ : ∃ vs, C[i]? = some vs := ⟨_, List.getElem?_eq_getElem hlt⟩
    obtain ⟨c1, c2, c3⟩ := hcs vs (List.mem_of_getElem? hx)
    obtain ⟨id, off, cap, tt, rfl, hr, hT⟩ := (hC.go st.kp).is.at hx
    have lt := hT.len
    have ht' : IsInts h t (numT 0 n os n) := IsSl.keep ht fun j b hj hn => st.kp j b hj fun e => by subst e; exact hn tq
    repeat' (first | refine w_seq ?_ | refine w_seqN ?_ | refine w_blk ?_ | refine w_skip ?_ | refine w_ops ?_ | ((refine i_cond ?_); refine w_condT rfl ?_) | ((refine i_nil ?_); first | refine w_end8 rfl rfl rfl rfl rfl rfl rfl rfl ?_ | refine w_end9 rfl rfl rfl rfl rfl rfl rfl rfl rfl ?_ | refine w_end11 rfl rfl rfl rfl rfl rfl rfl rfl rfl rfl rfl ?_) | ((refine i_cons ?_); first | refine k_idxA (esz := 1) rfl rfl (by omega) ?_ | refine k_ld rfl hr ?_ | refine k_len rfl lt ?_ | refine k_mv rfl ?_ | refine k_lssT rfl rfl (by omega) ?_))
    refine w_loop (I8v h p5 q n C.length i os (.slc id off C.length cap) t tt vs) (cnt vs.length 102) (R8v h p5 q n C.length i os (.slc id off C.length cap) t vs) ⟨0, .nilS, Nat.zero_le _, Ext.refl _, .inl ⟨rfl, rfl, rfl⟩, rfl⟩ (round8v h p5 q n C.length i os _ t tt vs c2 ht' hp hT c3) ?_
    rintro ex E' h2 ⟨rfl, e2, u, a, b, c, d, o2, rfl⟩
    obtain ⟨w0, ws, hvs⟩ : ∃ w0 ws, vs = w0 :: ws := by
      cases vs with
      | nil => exact absurd rfl c1
      | cons w0 ws => exact ⟨w0, ws, rfl⟩
    have hpos : 1 ≤ vs.length := by rw [hvs]; simp
    have hcs2 : vcs (vs.map (mvV n os)) = SV.int .i64 (mvV n os w0).1 :: SV.bool (mvV n os w0).2 :: vcs (ws.map (mvV n os)) := by rw [hvs]; rfl
    have hwl : (vcs (ws.map (mvV n os))).length = (vs.length - 1) * 2 := by rw [vcs_len, hvs]; simp
    have hrot : vcs (rot1 (vs.map (mvV n os))) = vcs (ws.map (mvV n os)) ++ [SV.int .i64 (mvV n os w0).1, SV.bool (mvV n os w0).2] := by
      rw [hvs, rot1, List.map_cons, List.drop_one, List.tail_cons, vcs_app]; rfl
    have hrl : (rot1 (vs.map (mvV n os))).length = vs.length := by rw [(rot1_perm _).length_eq]; simp
    have en := mvC_next (n := n) (os := os) hx
    have q2 : q < h2.length := by have := e2.len; have := st.le; have := st.q1; omega
    rcases o2 with ⟨-, o3, -⟩ | ⟨idv, rfl, o3, o4, o5, o6⟩
    · omega
    · rw [hcs2] at o4
      have hvl : idv < h2.length := (List.getElem?_eq_some_iff.1 o4).1
      have hqn : idv ≠ q := by have := st.le; have := st.q1; omega
      have r0 : readN h2 idv (0 + ((0 : Int)).toNat * 2) 2 = some [SV.int .i64 (mvV n os w0).1, SV.bool (mvV n os w0).2] := by simp [readN, o4, cut]
      have b2 : Blk.At h2 q [Y, Sg, .int .i64 l] := st.c.at.ext e2
      have hl1 : ((1 : Int)).toNat = 1 := rfl
      repeat (first | refine w_seqN ?_ | refine w_blkX ?_ | refine w_blkN ?_ | refine w_seq ?_)
      generalize SV.int .i64 (mvV n os w0).1 = sa at *
      generalize SV.bool (mvV n os w0).2 = sb at *
      generalize vcs (ws.map (mvV n os)) = cs at *
      have no : ∀ {ord : Bool} {k : AK} (E : Env) (id : Nat), ldX E ord k = some id → ldX E ord k = none → id ∈ [q] := fun E id h1 h2 => by rw [h2] at h1; cases h1
      refine w_opsS [q] ?_
      refine s_one (fun id h => no _ id h rfl) (k_mv rfl (s_same ?_))
      refine s_one (fun id h => no _ id h rfl) (k_sl2 rfl o4 hpos (s_same ?_))
      refine s_one (fun id h => no _ id h rfl) (k_mv rfl (s_same ?_))
      refine s_one (fun id h => no _ id h rfl) (k_idxA (esz := 2) rfl rfl (by omega) (s_same ?_))
      refine s_one (fun id h => no _ id h rfl) (op_ldA rfl rfl r0 (s_same ?_))
      refine s_one (fun id h => no _ id h rfl) (k_bsl2 rfl (s_grow ⟨_, rfl⟩ (fun id h => by rw [List.mem_singleton] at h; omega) ?_))
      refine s_one (fun id h => no _ id h rfl) (k_rot2 rfl rfl o4 hpos hwl (by simp only [bigN]; omega) (s_ord ?_ ?_))
      · intro id hid
        rw [List.mem_singleton] at hid
        subst hid
        rw [List.getElem?_append_left (by simp; omega), List.getElem?_set_ne hqn]
      generalize hB : (h2 ++ [Blk.cells [sa, sb] true 2]).set idv (Blk.dead 2) ++ [Blk.cells (cs ++ [sa, sb]) true 2] = hBv
      have lB : hBv.length = h2.length + 2 := by rw [← hB]; simp
      have eB : Ext h hBv := by rw [← hB]; exact ((e2.app _).set o3 _).app _
      have gB : hBv[h2.length + 1]? = some (Blk.cells (cs ++ [sa, sb]) true 2) := by
        rw [← hB, List.getElem?_append_right (by simp)]; simp
      have qB : hBv[q]? = h2[q]? := by
        rw [← hB, List.getElem?_append_left (by simp; omega), List.getElem?_set_ne hqn, List.getElem?_append_left q2]
      have bB : Blk.At hBv q [Y, Sg, .int .i64 l] := by
        obtain ⟨rw', z, g⟩ := b2
        exact ⟨rw', z, by rw [qB]; exact g⟩
      refine s_one (fun id h => no _ id h rfl) (k_bsl1 rfl (s_grow ⟨_, rfl⟩ (fun id h => by rw [List.mem_singleton] at h; omega) ?_))
      have eC : Ext hBv (hBv ++ [Blk.cells [SV.slc (h2.length + 1) 0 vs.length none] true 1]) := ⟨_, rfl⟩
      have bC := bB.ext eC
      refine s_one (fun id h => no _ id h rfl) (k_fldA rfl (s_same ?_))
      refine s_one (fun id h => by cases h; exact List.mem_singleton.2 rfl) (k_ldb rfl bC rfl (s_same ?_))
      have eC0 := eB.trans eC
      have qh : q < h.length := by have := st.le; have := st.q1; omega
      obtain ⟨ss, x1, y2, x3, y4⟩ := st.x
      have x2 : IsSl (hBv ++ [Blk.cells [SV.slc (h2.length + 1) 0 vs.length none] true 1]) Y 1 ss.length ss := IsSl.ext y2 eC0
      have oL : Own h (hBv ++ [Blk.cells [SV.slc (h2.length + 1) 0 vs.length none] true 1]) (.slc hBv.length 0 1 (some 1)) [SV.slc (h2.length + 1) 0 vs.length none] := .inr ⟨hBv.length, some 1, [SV.slc (h2.length + 1) 0 vs.length none], rfl, eB.len, by simp, rfl, rfl, Nat.le_refl _⟩
      have hml : ss.length ≤ 1000 := by rw [x1]; simp [mvC]; omega
      refine s_one (fun id h => no _ id h rfl) (k_app eC0 oL rfl rfl (IsSl.src x2 rfl) (by simp only [bigN, List.length_cons, List.length_nil]; omega) ?_)
      intro Y' h3 o7 e7 l7 f7
      have nL : ∀ j, j ≠ hBv.length → NotAt (SV.slc hBv.length 0 1 (some 1)) j := fun j hj o n c e => by cases e; exact hj rfl
      have c3 : Cel3 h3 q Y Sg (.int .i64 l) := by
        have h1 : (hBv ++ [Blk.cells [SV.slc (h2.length + 1) 0 vs.length none] true 1])[q]? = some (.cells [Y, Sg, .int .i64 l] true 0) := eC0.get _ _ st.c
        exact (f7 _ _ h1 (nL _ (by omega))).1
      have t3 : h3[h2.length + 1]? = some (Blk.cells (cs ++ [sa, sb]) true 2) := (f7 _ _ (eC.get _ _ gB) (nL _ (by omega))).1
      refine s_free rfl ?_
      refine s_one (fun id h => no _ id h rfl) (k_fldA rfl (s_same ?_))
      have w3 := c3.wr.1 Y'
      refine s_one (fun id h => no _ id h rfl) (k_st rfl rfl w3 (s_free rfl ?_))
      refine s_nil ?_
      have qn' : NotAt Y' q := own_fsh o7 _ qh
      have tn : NotAt (SV.slc (h2.length + 1) 0 vs.length none) q := fun o n c e => by cases e; omega
      have st' : StM H (h3.set q (.cells [Y', Sg, .int .i64 l] true 0)) q Y' Sg l (mvC n os (C.take (i + 1))) := by
        refine ⟨?_, st.q1, fun j b hj hn => ?_, c3.wr.2.2.2 _ _ _, ?_⟩
        · have := st.le; have := e7.len; rw [List.length_set]; omega
        · rw [List.getElem?_set_ne (fun e => hn e.symm)]
          exact e7.get _ _ (st.kp j b hj hn)
        · rw [en]
          have g : ∀ {t : SV} {e : ESz} {m : Nat} {zs : List SV}, IsSl h3 t e m zs → NotAt t q → IsSl (h3.set q (.cells [Y', Sg, .int .i64 l] true 0)) t e m zs := fun i hn => IsSl.keep i fun j b hj ht => by rw [List.getElem?_set_ne (fun e => by subst e; exact ht hn)]; exact hj
          refine CompsN.cons (ss := ss) x1 (g o7.sl qn') qn' (g ?_ tn) tn fun k u us a b => ?_
          · refine .inr ⟨h2.length + 1, 0, none, _, by rw [hrl], t3, rfl, fun h0 => by omega, fun _ => ⟨_, true, rfl, ?_⟩⟩
            rw [hrot]
            unfold cut
            simp only [ez2]
            rw [if_pos (by simp [hwl, hrl]; omega), List.drop_zero, List.take_of_length_le (by simp [hwl, hrl]; omega)]
          · obtain ⟨m1, m2⟩ := y4 k u us a b
            exact ⟨g (m1.ext e7) m2, m2⟩
      generalize hF : h3.set q (.cells [Y', Sg, .int .i64 l] true 0) = h4 at *
      repeat' (first | refine w_seqN ?_ | refine w_blkN ?_ | refine w_ops ?_ | ((refine i_nil ?_); refine w_end7 rfl rfl rfl rfl rfl rfl rfl ?_) | ((refine i_cons ?_); first | refine k_mv rfl ?_ | refine k_add rfl rfl (by omega) ?_))
      exact w_roundN ⟨i + 1, Y', by omega, st', rfl⟩ (by simp [cnt, Env.get]; omega)
  · have hie : i = C.length := by omega
    subst hie
    rw [List.take_length] at st
    repeat' (first | refine w_seq ?_ | refine w_seqN ?_ | refine w_seqX ?_ | refine w_exit ?_ | refine w_ops ?_ | ((refine i_cond ?_); refine w_condF rfl ?_) | ((refine i_nil ?_); refine w_end8 rfl rfl rfl rfl rfl rfl rfl rfl ?_) | ((refine i_cons ?_); refine k_lssF rfl rfl (by omega) ?_))
    exact w_roundX ⟨rfl, Y, _, _, _, _, _, st, rfl⟩
end Go.Proofs.YtleoalcbgpjieaaDoor

