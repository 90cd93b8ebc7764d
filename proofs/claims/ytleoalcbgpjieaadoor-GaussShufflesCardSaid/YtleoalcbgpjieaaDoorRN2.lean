/- diagram.Renumber. -/
import Derived.Test.YtleoalcbgpjieaaDoorC3
import Derived.Test.YtleoalcbgpjieaaDoorGC
namespace Go.Proofs.YtleoalcbgpjieaaDoor
open Go.Ab
set_option linter.unusedVariables false
set_option linter.unusedSimpArgs false
set_option maxRecDepth 20000
set_option maxHeartbeats 4000000
attribute [local irreducible] wOps wA wSeq wBlk wRound wRoundI wOpsD

/-! ### A list that is filled -/
def fillP (L : List Int) (k : Nat) : List Int := L.take k ++ List.replicate (L.length - k) 0
theorem fillP_len {L : List Int} {k : Nat} (hk : k ≤ L.length) : (fillP L k).length = L.length := by simp [fillP]; omega
theorem fillP_zero (L : List Int) : fillP L 0 = List.replicate L.length 0 := by simp [fillP]
theorem fillP_all (L : List Int) : fillP L L.length = L := by simp [fillP]
theorem fillP_set {L : List Int} {k : Nat} {x : Int} (hx : L[k]? = some x) : (fillP L k).set k x = fillP L (k + 1) := by
  have hk := (List.getElem?_eq_some_iff.1 hx).1
  unfold fillP
  have hl : (L.take k).length = k := by simp; omega
  rw [take_snoc hx, show L.length - k = (L.length - (k + 1)) + 1 by omega, List.replicate_succ, List.set_append_right _ _ (by omega), hl, Nat.sub_self, List.set_cons_zero, List.append_assoc]
  rfl

/-! ### The numbers: none yet -/
def I26a (hb : Heap) (o t : SV) (d q n : Nat) (E : Env) (h : Heap) : Prop := ∃ i : Nat, i ≤ n ∧ Ext hb h ∧ Own hb h t (ints (List.replicate i (-1) ++ List.replicate (n - i) 0)) ∧
  E = [(1, some (.sc o)), (2, some (.sc (.ptr d 0))), (4, some (.sc (.ptr q 0))), (6, some (.sc (.int .i64 (n : Nat)))), (7, some (.sc t)), (31, some (.sc (.int .i64 (n : Nat)))), (32, some (.sc (.int .i64 (i : Nat))))]
def R26a (hb : Heap) (o t : SV) (d q n : Nat) (ex : Ex) (E : Env) (h : Heap) : Prop := ex = .ex 0 ∧ Ext hb h ∧ Own hb h t (ints (List.replicate n (-1))) ∧ ∃ a b c,
  E = [(1, some (.sc o)), (2, some (.sc (.ptr d 0))), (4, some (.sc (.ptr q 0))), (6, some (.sc (.int .i64 (n : Nat)))), (7, some (.sc t)), (31, a), (32, b), (33, c)]
theorem rep_next {n i : Nat} (hi : i < n) : (List.replicate i (-1 : Int) ++ List.replicate (n - i) 0).set i (-1) = List.replicate (i + 1) (-1) ++ List.replicate (n - (i + 1)) 0 := by
  have hl : (List.replicate i (-1 : Int)).length = i := by simp
  rw [show n - i = (n - (i + 1)) + 1 by omega, List.replicate_succ, List.set_append_right _ _ (by omega), hl, Nat.sub_self, List.set_cons_zero, List.replicate_succ' (n := i), List.append_assoc]
  rfl
theorem round26a (hb : Heap) (o t : SV) (d q n : Nat) (hn : n ≤ 1000) (E : Env) (h : Heap) (hI : I26a hb o t d q n E h) :
    wA FT HKt b26L0 (E.keep [1, 2, 4, 6, 7, 31, 32]) h (wRound (I26a hb o t d q n) (cnt n 32) (cnt n 32 E h) (R26a hb o t d q n)) := by
  obtain ⟨i, hi, e, ow, rfl⟩ := hI
  by_cases hlt : i < n
  · have hl : (ints (List.replicate i (-1 : Int) ++ List.replicate (n - i) 0)).length = n := by simp [ints]; omega
    obtain ⟨id, cap, h2, rfl, w2, o2, e2, f2, l2⟩ := Own.wr e ow (i := i) (by rw [hl]; exact hlt) (.int .i64 (-1))
    rw [hl] at *
    repeat' (first | refine w_seq ?_ | refine w_seqN ?_ | refine w_blk ?_ | refine w_blkN ?_ | refine w_skip ?_ | refine w_ops ?_ | ((refine i_cond ?_); refine w_condT rfl ?_) | ((refine i_nil ?_); first | refine w_end7 rfl rfl rfl rfl rfl rfl rfl ?_ | refine w_end8 rfl rfl rfl rfl rfl rfl rfl rfl ?_) | ((refine i_cons ?_); first | refine k_idxA (esz := 1) rfl rfl (by omega) ?_ | refine k_st rfl rfl w2 ?_ | refine k_mv rfl ?_ | refine k_add rfl rfl (by omega) ?_ | refine k_lssT rfl rfl (by omega) ?_))
    refine w_roundN ⟨i + 1, by omega, e2, ?_, rfl⟩ (by simp [cnt, Env.get]; omega)
    rw [← rep_next hlt]
    simpa [ints, List.map_set] using o2
  · have : i = n := by omega
    subst this
    repeat' (first | refine w_seq ?_ | refine w_seqN ?_ | refine w_seqX ?_ | refine w_exit ?_ | refine w_ops ?_ | ((refine i_cond ?_); refine w_condF rfl ?_) | ((refine i_nil ?_); refine w_end8 rfl rfl rfl rfl rfl rfl rfl rfl ?_) | ((refine i_cons ?_); refine k_lssF rfl rfl (by omega) ?_))
    exact w_roundX ⟨rfl, e, by simpa using ow, _, _, _, rfl⟩

/-! ### The numbers of the order -/
def I26b (hb : Heap) (o t : SV) (d q n : Nat) (os : List Int) (E : Env) (h : Heap) : Prop := ∃ i : Nat, i ≤ os.length ∧ Ext hb h ∧ Own hb h t (ints (numT (-1) n os i)) ∧ OrdT os n i ∧
  E = [(1, some (.sc o)), (2, some (.sc (.ptr d 0))), (4, some (.sc (.ptr q 0))), (6, some (.sc (.int .i64 (n : Nat)))), (7, some (.sc t)), (39, some (.sc o)), (40, some (.sc (.int .i64 (os.length : Nat)))), (41, some (.sc (.int .i64 (i : Nat))))]
def R26b (h0 hb : Heap) (o t : SV) (d q n : Nat) (os : List Int) (ex : Ex) (E : Env) (h : Heap) : Prop := match ex with
  | .rt => E = [(4, some (.sc (.ptr q 0))), (5, some (.sc (.int .i64 2)))] ∧ Ext h0 h ∧ Cel3 h q .nilS .nilS (.int .i64 0)
  | .ex z => z = 2 ∧ Ext hb h ∧ Own hb h t (ints (numT (-1) n os os.length)) ∧ OrdT os n os.length ∧ ∃ a b c e,
      E = [(1, some (.sc o)), (2, some (.sc (.ptr d 0))), (4, some (.sc (.ptr q 0))), (6, some (.sc (.int .i64 (n : Nat)))), (7, some (.sc t)), (39, a), (40, b), (41, c), (42, e)]
  | .nm => False
theorem ord_next {os : List Int} {n i : Nat} {x : Int} (h : OrdT os n i) (hx : os[i]? = some x) (hr : 0 ≤ x ∧ x < (n : Int)) (hn : ∀ j, j < i → os[j]? ≠ some x) : OrdT os n (i + 1) := by
  refine ⟨fun j y hj hy => ?_, fun j k y hj hk e1 e2 => ?_⟩
  · by_cases he : j = i
    · subst he
      rw [hx] at hy
      obtain rfl := Option.some.inj hy
      exact hr
    · exact h.1 j y (by omega) hy
  · by_cases he : j = i
    · by_cases he2 : k = i
      · omega
      · subst he
        rw [hx] at e1
        obtain rfl := Option.some.inj e1
        exact absurd e2 (hn k (by omega))
    · by_cases he2 : k = i
      · subst he2
        rw [hx] at e2
        obtain rfl := Option.some.inj e2
        exact absurd e1 (hn j (by omega))
      · exact h.2 j k y (by omega) (by omega) e1 e2
theorem round26b (h0 hb : Heap) (o t : SV) (d q n : Nat) (os : List Int) (hn : n ≤ 1000) (hol : os.length ≤ 1000) (ho : IsInts hb o os) (e0 : Ext h0 hb) (hq : h0.length ≤ q) (u v w : SV) (hc : Cel3 hb q u v w) (E : Env) (h : Heap) (hI : I26b hb o t d q n os E h) :
    wA FT HKt b26L1 (E.keep [1, 2, 4, 6, 7, 39, 40, 41]) h (wRound (I26b hb o t d q n os) (cnt os.length 41) (cnt os.length 41 E h) (R26b h0 hb o t d q n os)) := by
  obtain ⟨i, hi, e, ow, hod, rfl⟩ := hI
  by_cases hlt : i < os.length
  · obtain ⟨x, hx⟩ : ∃ x, os[i]? = some x := ⟨_, List.getElem?_eq_getElem hlt⟩
    obtain ⟨id, off, cap, rfl, hr⟩ := IsInts.at (IsSl.ext ho e) hx
    have c1 := hc.ext e
    have e01 := e0.trans e
    by_cases hneg : x < 0
    · repeat' (first | refine w_seq ?_ | refine w_seqN ?_ | refine w_seqR ?_ | refine w_blk ?_ | refine w_blkR ?_ | refine w_skip ?_ | refine w_ret ?_ | refine w_ops ?_ | ((refine i_cond ?_); refine w_condT rfl ?_) | ((refine i_nil ?_); first | refine w_end2 rfl rfl ?_ | refine w_end9 rfl rfl rfl rfl rfl rfl rfl rfl rfl ?_ | refine w_end10 rfl rfl rfl rfl rfl rfl rfl rfl rfl rfl ?_ | refine w_end11 rfl rfl rfl rfl rfl rfl rfl rfl rfl rfl rfl ?_) | ((refine i_cons ?_); first | refine k_idxA (esz := 1) rfl rfl (by omega) ?_ | refine k_ld rfl hr ?_ | refine k_bld rfl rfl ?_ | (refine k_st3e rfl rfl c1 e01 hq ?_; intro h2 e2 c2) | refine k_skip rfl ?_ | refine k_mv rfl ?_ | refine k_pickT rfl rfl ?_ | refine k_lssT rfl rfl (by omega) ?_))
      exact w_roundR ⟨rfl, e2, c2⟩
    · by_cases hbig : (n : Int) ≤ x
      · repeat' (first | refine w_seq ?_ | refine w_seqN ?_ | refine w_seqR ?_ | refine w_blk ?_ | refine w_blkR ?_ | refine w_skip ?_ | refine w_ret ?_ | refine w_ops ?_ | ((refine i_cond ?_); refine w_condT rfl ?_) | ((refine i_nil ?_); first | refine w_end2 rfl rfl ?_ | refine w_end9 rfl rfl rfl rfl rfl rfl rfl rfl rfl ?_ | refine w_end10 rfl rfl rfl rfl rfl rfl rfl rfl rfl rfl ?_ | refine w_end11 rfl rfl rfl rfl rfl rfl rfl rfl rfl rfl rfl ?_) | ((refine i_cons ?_); first | refine k_idxA (esz := 1) rfl rfl (by omega) ?_ | refine k_ld rfl hr ?_ | refine k_bld rfl rfl ?_ | (refine k_st3e rfl rfl c1 e01 hq ?_; intro h2 e2 c2) | refine k_skip rfl ?_ | refine k_want rfl ?_ | refine k_mv rfl ?_ | refine k_pickT rfl rfl ?_ | refine k_pickF rfl rfl ?_ | refine k_lssT rfl rfl (by omega) ?_ | refine k_lssF rfl rfl (by omega) ?_ | refine k_geqT rfl rfl (by omega) ?_))
        exact w_roundR ⟨rfl, e2, c2⟩
      · have hxn : ((x.toNat : Nat) : Int) = x := by omega
        have hl : (ints (numT (-1) n os i)).length = n := by simp [ints, numT_len]
        rcases numT_at (z := -1) (c := x.toNat) (by omega) hi hod with ⟨j, j1, j2, j3⟩ | ⟨j1, j2⟩
        · have hv : (ints (numT (-1) n os i))[x.toNat]? = some (.int .i64 (j : Int)) := by simp [ints, j3]
          obtain ⟨id2, cap2, rfl, hr2⟩ := Own.rd ow hv
          rw [hl] at *
          repeat' (first | refine w_seq ?_ | refine w_seqN ?_ | refine w_seqR ?_ | refine w_blk ?_ | refine w_blkR ?_ | refine w_skip ?_ | refine w_ret ?_ | refine w_ops ?_ | ((refine i_cond ?_); refine w_condT rfl ?_) | ((refine i_nil ?_); first | refine w_end2 rfl rfl ?_ | refine w_end9 rfl rfl rfl rfl rfl rfl rfl rfl rfl ?_ | refine w_end10 rfl rfl rfl rfl rfl rfl rfl rfl rfl rfl ?_ | refine w_end11 rfl rfl rfl rfl rfl rfl rfl rfl rfl rfl rfl ?_) | ((refine i_cons ?_); first | refine k_idxA (esz := 1) rfl rfl (by omega) ?_ | refine k_ld rfl hr ?_ | refine k_ld rfl hr2 ?_ | refine k_bld rfl rfl ?_ | (refine k_st3e rfl rfl c1 e01 hq ?_; intro h2 e2 c2) | refine k_want rfl ?_ | refine k_mv rfl ?_ | refine k_pickF rfl rfl ?_ | refine k_lssT rfl rfl (by omega) ?_ | refine k_lssF rfl rfl (by omega) ?_ | refine k_geqT rfl rfl (by omega) ?_ | refine k_geqF rfl rfl (by omega) ?_))
          exact w_roundR ⟨rfl, e2, c2⟩
        · have hv : (ints (numT (-1) n os i))[x.toNat]? = some (.int .i64 (-1)) := by simp [ints, j2]
          obtain ⟨id2, cap2, rfl, hr2⟩ := Own.rd ow hv
          obtain ⟨id3, cap3, h3, et, w3, o3, e3, f3, l3⟩ := Own.wr e ow (i := x.toNat) (by rw [hl]; omega) (.int .i64 (i : Nat))
          cases et
          rw [hl] at *
          repeat' (first | refine w_seq ?_ | refine w_seqN ?_ | refine w_blk ?_ | refine w_blkN ?_ | refine w_skip ?_ | refine w_ops ?_ | ((refine i_cond ?_); first | refine w_condT rfl ?_ | refine w_condF rfl ?_) | ((refine i_nil ?_); first | refine w_end8 rfl rfl rfl rfl rfl rfl rfl rfl ?_ | refine w_end9 rfl rfl rfl rfl rfl rfl rfl rfl rfl ?_ | refine w_end10 rfl rfl rfl rfl rfl rfl rfl rfl rfl rfl ?_ | refine w_end11 rfl rfl rfl rfl rfl rfl rfl rfl rfl rfl rfl ?_) | ((refine i_cons ?_); first | refine k_idxA (esz := 1) rfl rfl (by omega) ?_ | refine k_ld rfl hr ?_ | refine k_ld rfl hr2 ?_ | refine k_st rfl rfl w3 ?_ | refine k_want rfl ?_ | refine k_mv rfl ?_ | refine k_pickF rfl rfl ?_ | refine k_add rfl rfl (by omega) ?_ | refine k_lssT rfl rfl (by omega) ?_ | refine k_lssF rfl rfl (by omega) ?_ | refine k_geqF rfl rfl (by omega) ?_))
          refine w_roundN ⟨i + 1, by omega, e3, ?_, ord_next hod hx (by omega) (fun j hj => by have := j1 j hj; rwa [hxn] at this), rfl⟩ (by simp [cnt, Env.get]; omega)
          have hg : os.getD i 0 = x := by simp [List.getD, hx]
          rw [numT, hg]
          simpa [ints, List.map_set] using o3
  · have : i = os.length := by omega
    subst this
    repeat' (first | refine w_seq ?_ | refine w_seqN ?_ | refine w_seqX ?_ | refine w_exit ?_ | refine w_ops ?_ | ((refine i_cond ?_); refine w_condF rfl ?_) | ((refine i_nil ?_); refine w_end9 rfl rfl rfl rfl rfl rfl rfl rfl rfl ?_) | ((refine i_cons ?_); refine k_lssF rfl rfl (by omega) ?_))
    exact w_roundX ⟨rfl, e, ow, hod, _, _, _, _, rfl⟩

/-! ### The diagram in the order -/
structure St26 (hb h : Heap) (q : Nat) (S M : SV) (l : Int) (X Y : List Int) : Prop where
  e : Ext hb h
  c : Cel3 h q S M (.int .i64 l)
  x : Own hb h S (ints X)
  y : Own hb h M (ints Y)
  ap : Ab.Apart S M
  nx : NotAt S q
  ny : NotAt M q
section
variable {hb h : Heap} {q : Nat} {S M : SV} {l : Int} {X Y : List Int}
theorem St26.setX (s : St26 hb h q S M l X Y) {i : Nat} (hi : i < X.length) (v : Int) : ∃ id cap h', S = .slc id 0 X.length cap ∧ writeN h id (0 + i * 1) [.int .i64 v] = some h' ∧ St26 hb h' q S M l (X.set i v) Y := by
  obtain ⟨id, cap, h2, es, w2, o2, e2, f2, l2⟩ := Own.wr s.e s.x (i := i) (by simpa [ints] using hi) (.int .i64 v)
  refine ⟨id, cap, h2, by rw [es]; simp [ints], w2, e2, (f2 _ _ s.c s.nx).1, ?_, Own.away s.y f2 s.ap, s.ap, s.nx, s.ny⟩
  simpa [ints, List.map_set] using o2
theorem St26.setY (s : St26 hb h q S M l X Y) {i : Nat} (hi : i < Y.length) (v : Int) : ∃ id cap h', M = .slc id 0 Y.length cap ∧ writeN h id (0 + i * 1) [.int .i64 v] = some h' ∧ St26 hb h' q S M l X (Y.set i v) := by
  obtain ⟨id, cap, h2, es, w2, o2, e2, f2, l2⟩ := Own.wr s.e s.y (i := i) (by simpa [ints] using hi) (.int .i64 v)
  refine ⟨id, cap, h2, by rw [es]; simp [ints], w2, e2, (f2 _ _ s.c s.ny).1, Own.away s.x f2 s.ap.symm, ?_, s.ap, s.nx, s.ny⟩
  simpa [ints, List.map_set] using o2
end
/-- What is read. -/
structure Rd26 (hb : Heap) (d : Nat) (s m t : SV) (l : Int) (xs ms os : List Int) : Prop where
  b : Blk.At hb d [s, m, .int .i64 l]
  s : IsInts hb s xs
  m : IsInts hb m ms
  t : IsInts hb t (numT (-1) xs.length os xs.length)
  F : Front xs ms l
  p : PermO os xs.length
def I26d (hb : Heap) (o t S M : SV) (l : Int) (d q q2 i : Nat) (c : Int) (xs ms os : List Int) (E : Env) (h : Heap) : Prop := ∃ k : Nat, k ≤ 4 ∧ St26 hb h q2 S M l (fillP (rnX os xs) (i + 1)) (fillP (rnMs os ms xs.length) (4 * i + k)) ∧
  E = [(2, some (.sc (.ptr d 0))), (4, some (.sc (.ptr q 0))), (7, some (.sc t)), (11, some (.sc (.ptr q2 0))), (12, some (.sc (.int .i64 (i : Nat)))), (13, some (.sc (.int .i64 c))), (74, some (.sc o)), (75, some (.sc (.int .i64 (xs.length : Nat)))), (76, some (.sc (.int .i64 (i : Nat)))), (90, some (.sc (.int .i64 (k : Nat))))]
def R26d (hb : Heap) (o t S M : SV) (l : Int) (d q q2 i : Nat) (xs ms os : List Int) (ex : Ex) (E : Env) (h : Heap) : Prop := ex = .ex 6 ∧ St26 hb h q2 S M l (fillP (rnX os xs) (i + 1)) (fillP (rnMs os ms xs.length) (4 * (i + 1))) ∧ ∃ a b c e,
  E = [(2, some (.sc (.ptr d 0))), (4, some (.sc (.ptr q 0))), (7, some (.sc t)), (11, some (.sc (.ptr q2 0))), (12, a), (13, b), (74, some (.sc o)), (75, some (.sc (.int .i64 (xs.length : Nat)))), (76, some (.sc (.int .i64 (i : Nat)))), (90, c), (91, e)]
theorem round26d (hb : Heap) (o s m t S M : SV) (l : Int) (d q q2 i : Nat) (xs ms os : List Int) (rd : Rd26 hb d s m t l xs ms os) (hi : i < xs.length) (E : Env) (h : Heap) (hI : I26d hb o t S M l d q q2 i ((muO os i : Nat) : Int) xs ms os E h) :
    wA FT HKt b26L3 (E.keep [2, 4, 7, 11, 12, 13, 74, 75, 76, 90]) h (wRound (I26d hb o t S M l d q q2 i ((muO os i : Nat) : Int) xs ms os) (cnt 4 90) (cnt 4 90 E h) (R26d hb o t S M l d q q2 i xs ms os)) := by
  obtain ⟨k, hk, st, rfl⟩ := hI
  by_cases hlt : k < 4
  · have h4 := rd.F.four
    have h64 := rd.F.n64
    obtain ⟨hmu, hmul⟩ := rd.p.mu hi
    have hj : 4 * muO os i + k < ms.length := by omega
    obtain ⟨g1, g2, g3⟩ := mate_get rd.F hj
    obtain ⟨n1, n2, n3⟩ := rd.p.num (z := -1) (c := mateN ms (4 * muO os i + k) / 4) (by omega)
    have hval : (rnMs os ms xs.length)[4 * i + k]? = some ((4 * nuO xs.length os (mateN ms (4 * muO os i + k) / 4) + mateN ms (4 * muO os i + k) % 4 : Nat) : Int) := by
      rw [rnMs, List.getElem?_map, List.getElem?_range (by omega)]
      have : rnum (muO os) (4 * i + k) = 4 * muO os i + k := by
        unfold rnum
        rw [show (4 * i + k) / 4 = i by omega]; omega
      simp only [Option.map_some, rnM, this]
      rfl
    generalize mateN ms (4 * muO os i + k) = mm at *
    generalize hnu : nuO xs.length os (mm / 4) = nn at *
    generalize hmc : muO os i = cc at *
    obtain ⟨id, off, cap, rfl, hr⟩ := IsInts.at (IsSl.ext rd.m st.e) g1
    obtain ⟨id2, off2, cap2, rfl, hr2⟩ := IsInts.at (IsSl.ext rd.t st.e) n1
    rw [numT_len] at *
    have hYl : (fillP (rnMs os ms xs.length) (4 * i + k)).length = 4 * xs.length := by rw [fillP_len (by simp [rnMs]; omega)]; simp [rnMs]
    obtain ⟨id3, cap3, h3, rfl, w3, s3⟩ := st.setY (i := 4 * i + k) (by omega) ((4 * nn + mm % 4 : Nat) : Int)
    rw [fillP_set hval] at s3
    rw [hYl] at *
    have b1 := rd.b.ext st.e
    have c1 := st.c.at
    have e1 : ((4 * nn + mm % 4 : Nat) : Int) = 4 * (nn : Int) + (mm : Int) % 4 := by omega
    rw [e1] at w3
    have i1 : (4 * (cc : Int) + (k : Int)).toNat = 4 * cc + k := by omega
    have i2 : ((mm : Int) / 4).toNat = mm / 4 := by omega
    have i3 : (4 * (i : Int) + (k : Int)).toNat = 4 * i + k := by omega
    rw [← i1] at hr
    rw [← i2] at hr2
    rw [← i3] at w3
    repeat' (first | refine w_seq ?_ | refine w_seqN ?_ | refine w_blk ?_ | refine w_blkN ?_ | refine w_skip ?_ | refine w_ops ?_ | refine w_opsD ?_ | refine d_one ?_ | refine d_nil ?_ | ((refine i_cond ?_); refine w_condT rfl ?_) | ((refine i_nil ?_); first | refine d_same ?_ | refine d_ord ?_ | refine w_end10 rfl rfl rfl rfl rfl rfl rfl rfl rfl rfl ?_ | refine w_end11 rfl rfl rfl rfl rfl rfl rfl rfl rfl rfl rfl ?_ | refine w_end12 rfl rfl rfl rfl rfl rfl rfl rfl rfl rfl rfl rfl ?_) | ((refine i_cons ?_); first | refine k_fldA rfl ?_ | refine k_ldb rfl b1 rfl ?_ | refine k_ldb rfl c1 rfl ?_ | refine k_idxA (esz := 1) rfl rfl (by omega) ?_ | refine k_ld rfl hr ?_ | refine k_ld rfl hr2 ?_ | refine k_st rfl rfl w3 ?_ | refine k_mv rfl ?_ | refine k_add rfl rfl (by omega) ?_ | refine k_mul rfl rfl (by omega) ?_ | refine k_quo rfl rfl (by omega) ?_ | refine k_rem rfl rfl (by omega) ?_ | refine k_lssT rfl rfl (by omega) ?_))
    exact w_roundN ⟨k + 1, by omega, s3, rfl⟩ (by simp [cnt, Env.get]; omega)
  · have : k = 4 := by omega
    subst this
    repeat' (first | refine w_seq ?_ | refine w_seqN ?_ | refine w_seqX ?_ | refine w_exit ?_ | refine w_ops ?_ | ((refine i_cond ?_); refine w_condF rfl ?_) | ((refine i_nil ?_); refine w_end11 rfl rfl rfl rfl rfl rfl rfl rfl rfl rfl rfl ?_) | ((refine i_cons ?_); refine k_lssF rfl rfl (by omega) ?_))
    exact w_roundX ⟨rfl, st, _, _, _, _, rfl⟩
end Go.Proofs.YtleoalcbgpjieaaDoor


/- diagram.Renumber: its answer. -/
namespace Go.Proofs.YtleoalcbgpjieaaDoor
open Go.Ab
set_option linter.unusedVariables false
set_option linter.unusedSimpArgs false
set_option maxRecDepth 20000
set_option maxHeartbeats 4000000
attribute [local irreducible] wOps wA wSeq wBlk wRound wRoundI wOpsD

def I26c (hb : Heap) (o t S M : SV) (l : Int) (d q q2 : Nat) (xs ms os : List Int) (E : Env) (h : Heap) : Prop := ∃ i : Nat, i ≤ xs.length ∧ St26 hb h q2 S M l (fillP (rnX os xs) i) (fillP (rnMs os ms xs.length) (4 * i)) ∧
  E = [(2, some (.sc (.ptr d 0))), (4, some (.sc (.ptr q 0))), (7, some (.sc t)), (11, some (.sc (.ptr q2 0))), (74, some (.sc o)), (75, some (.sc (.int .i64 (xs.length : Nat)))), (76, some (.sc (.int .i64 (i : Nat))))]
def R26c (hb : Heap) (S M : SV) (l : Int) (d q q2 : Nat) (xs ms os : List Int) (ex : Ex) (E : Env) (h : Heap) : Prop := ex = .ex 4 ∧ St26 hb h q2 S M l (rnX os xs) (rnMs os ms xs.length) ∧ ∃ a b c e f,
  E = [(2, some (.sc (.ptr d 0))), (4, some (.sc (.ptr q 0))), (7, a), (11, some (.sc (.ptr q2 0))), (74, b), (75, c), (76, e), (77, f)]
theorem round26c (hb : Heap) (o s m t S M : SV) (l : Int) (d q q2 : Nat) (xs ms os : List Int) (rd : Rd26 hb d s m t l xs ms os) (ho : IsInts hb o os) (E : Env) (h : Heap) (hI : I26c hb o t S M l d q q2 xs ms os E h) :
    wA FT HKt b26L2 (E.keep [2, 4, 7, 11, 74, 75, 76]) h (wRound (I26c hb o t S M l d q q2 xs ms os) (cnt xs.length 76) (cnt xs.length 76 E h) (R26c hb S M l d q q2 xs ms os)) := by
  obtain ⟨i, hi, st, rfl⟩ := hI
  have h4 := rd.F.four
  have h64 := rd.F.n64
  have hlX : (rnX os xs).length = xs.length := by simp [rnX, rd.p.1]
  have hlY : (rnMs os ms xs.length).length = 4 * xs.length := by simp [rnMs]
  by_cases hlt : i < xs.length
  · obtain ⟨hmu, hmul⟩ := rd.p.mu hlt
    obtain ⟨id, off, cap, eo, hr⟩ := IsInts.at (IsSl.ext ho st.e) hmu
    have hx : xs[muO os i]? = some (xs.getD (muO os i) 0) := by simp [List.getD, hmul]
    obtain ⟨id2, off2, cap2, es, hr2⟩ := IsInts.at (IsSl.ext rd.s st.e) hx
    have hval : (rnX os xs)[i]? = some (xs.getD (muO os i) 0) := by simp [rnX, hmu]
    have hXl : (fillP (rnX os xs) i).length = xs.length := by rw [fillP_len (by omega)]; omega
    obtain ⟨id3, cap3, h3, eS, w3, s3⟩ := st.setX (i := i) (by omega) (xs.getD (muO os i) 0)
    rw [fillP_set hval] at s3
    rw [hXl] at eS
    have hpl := rd.p.1
    have b1 := rd.b.ext st.e
    have c1 := st.c.at
    have rd0 := rd
    subst eo
    subst es
    subst eS
    generalize hmc : muO os i = cc at *
    have i1 : ((cc : Int)).toNat = cc := by omega
    repeat' (first | refine w_seq ?_ | refine w_seqN ?_ | refine w_blk ?_ | refine w_skip ?_ | refine w_ops ?_ | refine w_opsD ?_ | refine d_one ?_ | refine d_nil ?_ | ((refine i_cond ?_); refine w_condT rfl ?_) | ((refine i_nil ?_); first | refine d_same ?_ | refine d_ord ?_ | refine w_end8 rfl rfl rfl rfl rfl rfl rfl rfl ?_ | refine w_end9 rfl rfl rfl rfl rfl rfl rfl rfl rfl ?_ | refine w_end10 rfl rfl rfl rfl rfl rfl rfl rfl rfl rfl ?_) | ((refine i_cons ?_); first | refine k_fldA rfl ?_ | refine k_ldb rfl b1 rfl ?_ | refine k_ldb rfl c1 rfl ?_ | refine k_idxA (esz := 1) rfl rfl (by omega) ?_ | refine k_ld rfl hr ?_ | refine k_ld rfl hr2 ?_ | refine k_st rfl rfl w3 ?_ | refine k_mv rfl ?_ | refine k_lssT rfl rfl (by omega) ?_))
    subst hmc
    refine w_loop (I26d hb (.slc id off os.length cap) t (.slc id3 0 xs.length cap3) M l d q q2 i ((muO os i : Nat) : Int) xs ms os) (cnt 4 90) (R26d hb (.slc id off os.length cap) t (.slc id3 0 xs.length cap3) M l d q q2 i xs ms os) ⟨0, by omega, s3, rfl⟩ (round26d hb _ _ m t _ M l d q q2 i xs ms os rd0 hlt) ?_
    rintro ex E' h' ⟨rfl, s4, a, b, c, e, rfl⟩
    repeat' (first | refine w_seqN ?_ | refine w_blkN ?_ | refine w_blkX ?_ | refine w_ops ?_ | ((refine i_nil ?_); refine w_end7 rfl rfl rfl rfl rfl rfl rfl ?_) | ((refine i_cons ?_); first | refine k_mv rfl ?_ | refine k_add rfl rfl (by omega) ?_))
    exact w_roundN ⟨i + 1, by omega, s4, rfl⟩ (by simp [cnt, Env.get]; omega)
  · have : i = xs.length := by omega
    subst this
    have e1 : fillP (rnX os xs) xs.length = rnX os xs := by rw [← hlX]; exact fillP_all _
    have e2 : fillP (rnMs os ms xs.length) (4 * xs.length) = rnMs os ms xs.length := by rw [← hlY]; exact fillP_all _
    rw [e1, e2] at st
    repeat' (first | refine w_seq ?_ | refine w_seqN ?_ | refine w_seqX ?_ | refine w_exit ?_ | refine w_ops ?_ | ((refine i_cond ?_); refine w_condF rfl ?_) | ((refine i_nil ?_); refine w_end8 rfl rfl rfl rfl rfl rfl rfl rfl ?_) | ((refine i_cons ?_); refine k_lssF rfl rfl (by omega) ?_))
    exact w_roundX ⟨rfl, st, _, _, _, _, _, rfl⟩
/-- What Renumber answers to a valid diagram. -/
def RnR (os xs ms : List Int) (l : Int) (h0 : Heap) (v : AV) (h' : Heap) : Prop := Ext h0 h' ∧ ((PermO os xs.length ∧ ∃ S M, v = .tup [.agg [S, M, .int .i64 l], .sc (.int .i64 0)] ∧ IsInts h' S (rnX os xs) ∧ IsInts h' M (rnMs os ms xs.length)) ∨ v = .tup [.agg [.nilS, .nilS, .int .i64 0], .sc (.int .i64 2)])
theorem call26 (h0 : Heap) (s m o : SV) (l : Int) (xs ms os : List Int) (hx : IsInts h0 s xs) (hs : IsInts h0 m ms) (ho : IsInts h0 o os) (hol : os.length ≤ 1000) (hV : PV xs ms l) :
    ∃ v h', Cal FT HKt 26 [.agg [s, m, .int .i64 l], .sc o] h0 v h' ∧ RnR os xs ms l h0 v h' := by
  refine Cal.of (F := a26) rfl rfl rfl ?_
  have hF := hV.1
  have h64 := hF.n64
  have h4 := hF.four
  have lx := IsSl.len hx
  have lo := IsSl.len ho
  have k1 := fun H (e : Ext h0 H) => call18 (HK := HKt) rfl rfl rfl rfl rfl H s m l xs ms (IsSl.ext hx e) (IsSl.ext hs e)
  by_cases hl : os.length = xs.length
  · repeat' (first | refine w_seq ?_ | refine w_seqN ?_ | refine w_blk ?_ | refine w_skip ?_ | refine w_ops ?_ | ((refine i_cond ?_); refine w_condF rfl ?_) | ((refine i_nil ?_); first | refine w_end3 rfl rfl rfl ?_ | refine w_end4 rfl rfl rfl rfl ?_ | refine w_end5 rfl rfl rfl rfl rfl ?_ | refine w_end7 rfl rfl rfl rfl rfl rfl rfl ?_) | ((refine i_cons ?_); first | (refine k_box rfl rfl ?_; intro h1 e1 l1 b1) | (refine k_new3 ?_; intro h2 e2 l2 c2; have b2 := b1.ext e2) | refine k_ldA rfl b2 rfl ?_ | (refine k_call rfl (k1 h2 (e1.trans e2)) ?_; rintro v h3 ⟨e3, bb, rfl, qq⟩; obtain rfl := qq.2 hV; have b3 := b2.ext e3; have c3 := c2.ext e3; have e03 := e1.trans (e2.trans e3)) | refine k_fldA rfl ?_ | refine k_ldb rfl b3 rfl ?_ | refine k_len rfl lx ?_ | refine k_len rfl lo ?_ | (have z := c3; refine k_mkO (h0 := h3) (Ext.refl _) rfl rfl (by simp only [bigN]; omega) ?_; intro t h4' o4 e4 e4' l4; have lt := Own.len o4) | refine k_len rfl lt ?_ | refine k_mv rfl ?_ | refine k_notT rfl ?_ | refine k_neqF rfl rfl (by omega) ?_))
    have ez : ((xs.length : Int)).toNat = xs.length := by omega
    rw [List.length_replicate, ez]
    rw [ez] at o4
    have oz : Own h3 h4' t (ints (List.replicate 0 (-1) ++ List.replicate (xs.length - 0) 0)) := by simpa [ints] using o4
    have nq : h0.length ≤ h1.length := e1.len
    refine w_loop (I26a h3 o t h0.length h1.length xs.length) (cnt xs.length 32) (R26a h3 o t h0.length h1.length xs.length) ⟨0, by omega, e4, oz, rfl⟩ (round26a h3 o t h0.length h1.length xs.length (by omega)) ?_
    rintro ex E' h5 ⟨rfl, e5, o5, a, b, c, rfl⟩
    have lo5 := lo
    repeat' (first | refine w_seq ?_ | refine w_seqN ?_ | refine w_blk ?_ | refine w_blkX ?_ | refine w_ops ?_ | ((refine i_nil ?_); refine w_end8 rfl rfl rfl rfl rfl rfl rfl rfl ?_) | ((refine i_cons ?_); first | refine k_len rfl lo5 ?_ | refine k_mv rfl ?_))
    refine w_loop (I26b h3 o t h0.length h1.length xs.length os) (cnt os.length 41) (R26b h0 h3 o t h0.length h1.length xs.length os) ⟨0, by omega, e5, o5, ⟨fun j x hj => absurd hj (by omega), fun j k x hj => absurd hj (by omega)⟩, rfl⟩ (round26b h0 h3 o t h0.length h1.length xs.length os (by omega) (by omega) (IsSl.ext ho e03) e03 nq _ _ _ c3) ?_
    rintro ex E' h6 hR
    cases ex with
    | nm => exact hR.elim
    | rt =>
      obtain ⟨rfl, e6, c6⟩ := hR
      repeat' (first | refine w_seqR ?_ | refine w_blkR ?_)
      exact ⟨.inr rfl, oK_cellt rfl c6.read rfl ⟨e6, .inr rfl⟩⟩
    | ex z =>
      obtain ⟨rfl, e6, o6, hod, a, b, c, e, rfl⟩ := hR
      have b6 := b3.ext e6
      have hp : PermO os xs.length := ⟨hl, by rw [hl] at hod; exact hod⟩
      rw [hl] at o6
      have e06 := e03.trans e6
      have rd6 : Rd26 h6 h0.length s m t l xs ms os := ⟨b6, IsSl.ext hx e06, IsSl.ext hs e06, Ab.Own.ids (xs := numT (-1) xs.length os xs.length) o6, hF, hp⟩
      repeat' (first | refine w_seq ?_ | refine w_seqN ?_ | refine w_blk ?_ | refine w_blkX ?_ | refine w_ops ?_ | refine w_opsD ?_ | refine d_one ?_ | refine d_nil ?_ | ((refine i_nil ?_); first | refine d_same ?_ | refine d_ord ?_ | refine d_ext (by assumption) ?_ | refine w_end5 rfl rfl rfl rfl rfl ?_ | refine w_end7 rfl rfl rfl rfl rfl rfl rfl ?_) | ((refine i_cons ?_); first | refine k_len rfl lo5 ?_ | (have z := o7; refine k_mkO (h0 := h6) e7 rfl rfl (by simp only [bigN]; omega) ?_; intro M h8 o8 e8 e8' l8; have b8 := b7.ext e8) | (refine k_mkO (h0 := h6) (Ext.refl _) rfl rfl (by simp only [bigN]; omega) ?_; intro S h7 o7 e7 e7' l7; have b7 := b6.ext e7) | refine k_fldA rfl ?_ | refine k_ldb rfl b8 rfl ?_ | refine k_bld rfl rfl ?_ | (refine k_new3 ?_; intro h9 e9 l9 c9) | (refine k_st3e rfl rfl c9 (hx := h8) e9 (Nat.le_refl _) ?_; intro h10 e10 c10) | refine k_mv rfl ?_ | refine k_mul rfl rfl (by omega) ?_))
      have ez4 : (4 * (xs.length : Int)).toNat = 4 * xs.length := by omega
      rw [ez] at o7
      rw [ez4] at o8
      have n6 := e6.len
      have n7 := e7.len
      have n8 := e8.len
      have sX : NotAt S h8.length := isSl_not (o7.ext e8).sl (Nat.le_refl _)
      have sY : NotAt M h8.length := isSl_not o8.sl (Nat.le_refl _)
      have ap : Ab.Apart S M := apart_new o7 (own_fsh o8)
      have hlX : (rnX os xs).length = xs.length := by simp [rnX, hl]
      have hlY : (rnMs os ms xs.length).length = 4 * xs.length := by simp [rnMs]
      have st : St26 h6 h10 h8.length S M l (fillP (rnX os xs) 0) (fillP (rnMs os ms xs.length) (4 * 0)) := by
        refine ⟨e8'.trans e10, c10, ?_, ?_, ap, sX, sY⟩
        · rw [fillP_zero, hlX]
          simpa [ints] using o7.ext (e8.trans e10)
        · rw [Nat.mul_zero, fillP_zero, hlY]
          have := (o8.ext e10).weaken (h0 := h6) (by omega)
          simpa [ints] using this
      rw [hl]
      refine w_loop (I26c h6 o t S M l h0.length h1.length h8.length xs ms os) (cnt xs.length 76) (R26c h6 S M l h0.length h1.length h8.length xs ms os) ⟨0, by omega, st, rfl⟩ (round26c h6 o s m t S M l h0.length h1.length h8.length xs ms os rd6 (IsSl.ext ho e06)) ?_
      rintro ex E' h11 ⟨rfl, s11, a, b, c, e, f, rfl⟩
      have c11 := s11.c
      have r11 := c3.ext (e6.trans s11.e)
      repeat' (first | refine w_seq ?_ | refine w_seqN ?_ | refine w_blkX ?_ | refine w_ret ?_ | refine w_ops ?_ | ((refine i_nil ?_); refine w_end2 rfl rfl ?_) | ((refine i_cons ?_); first | refine k_ld3 rfl c11 ?_ | (refine k_st3 rfl rfl r11 ?_; intro h12 q12 c12) | refine k_mv rfl ?_))
      have n3 := e3.len
      have hq6 : h1.length < h6.length := by omega
      have k12 : Ext h0 h12 := by rw [q12]; exact (e06.trans s11.e).set (by omega) _
      refine ⟨.inr rfl, oK_cellt rfl c12.read rfl ⟨k12, .inl ⟨hp, S, M, rfl, ?_, ?_⟩⟩⟩
      · rw [q12]
        exact Ab.Own.ids (xs := rnX os xs) (own_set s11.x (own_fsh s11.x _ hq6) _)
      · rw [q12]
        exact Ab.Own.ids (xs := rnMs os ms xs.length) (own_set s11.y (own_fsh s11.y _ hq6) _)
  · repeat' (first | refine w_seq ?_ | refine w_seqN ?_ | refine w_seqR ?_ | refine w_skip ?_ | refine w_ret ?_ | refine w_ops ?_ | ((refine i_cond ?_); first | refine w_condT rfl ?_ | refine w_condF rfl ?_) | ((refine i_nil ?_); first | refine w_end2 rfl rfl ?_ | refine w_end3 rfl rfl rfl ?_ | refine w_end4 rfl rfl rfl rfl ?_ | refine w_end5 rfl rfl rfl rfl rfl ?_) | ((refine i_cons ?_); first | (refine k_box rfl rfl ?_; intro h1 e1 l1 b1) | (refine k_new3 ?_; intro h2 e2 l2 c2; have b2 := b1.ext e2) | refine k_ldA rfl b2 rfl ?_ | (refine k_call rfl (k1 h2 (e1.trans e2)) ?_; rintro v h3 ⟨e3, bb, rfl, qq⟩; obtain rfl := qq.2 hV; have b3 := b2.ext e3; have c3 := c2.ext e3; have e03 := e1.trans (e2.trans e3)) | refine k_fldA rfl ?_ | refine k_ldb rfl b3 rfl ?_ | refine k_len rfl lx ?_ | refine k_len rfl lo ?_ | refine k_bld rfl rfl ?_ | (refine k_st3e rfl rfl c3 e03 e1.len ?_; intro h4' e4 c4) | refine k_mv rfl ?_ | refine k_notT rfl ?_ | refine k_neqT rfl rfl (by omega) ?_))
    exact ⟨.inr rfl, oK_cellt rfl c4.read rfl ⟨e4, .inr rfl⟩⟩
end Go.Proofs.YtleoalcbgpjieaaDoor

