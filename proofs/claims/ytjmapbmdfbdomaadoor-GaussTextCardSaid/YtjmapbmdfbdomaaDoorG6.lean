/- gauss.sequence: the outer loop; its contract. -/
import Derived.Test.YtjmapbmdfbdomaaDoorG5
namespace Go.Proofs.YtjmapbmdfbdomaaDoor
open Go.Ab
set_option linter.unusedVariables false
set_option linter.unusedSimpArgs false
set_option maxRecDepth 20000
attribute [local irreducible] wOps wA wSeq wBlk wRound wOpsD

section
variable {FT : FuncId → Option AFun} {HK : FuncId → Option Hook} {E : Env} {h : Heap} {K : Env → Heap → Prop} {d : Option Nat} {r : List AOp} {x y : AO}
theorem k_ssubE {a w : List UInt8} {lo hi : AO} {l u : Int} {k1 k2 : IntKind} (hx : evS E x = some (tb a)) (hl : evS E lo = some (.int k1 l)) (hh : evS E hi = some (.int k2 u)) (hb : 0 ≤ l ∧ l ≤ u ∧ u ≤ a.length) (he : (a.drop l.toNat).take (u.toNat - l.toNat) = w)
    (hw : wOps FT HK r (bindE d (some (.sc (tb w))) E) h K) : wOps FT HK (⟨d, .slS x (some lo) (some hi), none⟩ :: r) E h K := k_ssub hx hl hh hb (by rw [he]; exact hw)
end
theorem Own2.away2 {h0 h h' : Heap} {s t : SV} {n : Nat} {cs : List SV} (ho : Own2 h0 h t n cs) (hf : Fram h h' s s) (ha : Apart s t) : Own2 h0 h' t n cs := by
  rcases ho with ho | ⟨id, rfl, h2, h3, h4, h5⟩
  · exact .inl ho
  · refine .inr ⟨id, rfl, h2, (hf id _ h3 ?_).1, h4, h5⟩
    rcases ha id with h | h
    · exact h
    · exact absurd rfl (h _ _ _)
structure Sq (h0 hs h : Heap) (sg t : SV) (A : List Int) (acc : List Vis) : Prop where
  e : Ext h0 h
  o : Own h0 h sg (ints A)
  w : Own2 h0 h t acc.length (vcs acc)
  fr : Fr hs h sg
  ap : Apart sg t
  fs : Fsh hs t
theorem Sq.push {h0 hs h h' : Heap} {sg t t' : SV} {A : List Int} {acc : List Vis} {v : Vis} (s : Sq h0 hs h sg t A acc) (ho : Own2 h0 h' t' (acc.length + 1) (vcs acc ++ [.int .i64 v.1, .bool v.2])) (he : Ext h0 h') (hf : Fram h h' t t') (hl : h.length ≤ h'.length) (hs' : Fsh h t') :
    Sq h0 hs h' sg t' A (acc ++ [v]) := by
  have ap' := Fram.apart hf s.o.sl s.ap.symm
  refine ⟨he, Own.away s.o hf s.ap.symm, ?_, ⟨Nat.le_trans s.fr.len hl, fun j b hj hn => ?_⟩, ap'.symm, fun j hj => hs' j (Nat.lt_of_lt_of_le hj s.fr.len)⟩
  · rw [List.length_append, vcs_app]
    exact ho
  · exact (hf j b (s.fr.kp j b hj hn) (s.fs j (List.getElem?_eq_some_iff.1 hj).1)).1
theorem Sq.write {h0 hs h : Heap} {sg t : SV} {A : List Int} {acc : List Vis} (s : Sq h0 hs h sg t A acc) {n : Int} (h1 : 1 ≤ n) (h2 : n ≤ A.length) (y : Int) :
    ∃ id cap h3, sg = .slc id 0 A.length cap ∧ readN h id (0 + (n - 1).toNat * 1) 1 = some [.int .i64 (A.getD (n - 1).toNat 0)] ∧ writeN h id (0 + (n - 1).toNat * 1) [.int .i64 y] = some h3 ∧ Sq h0 hs h3 sg t (A.set (n - 1).toNat y) acc := by
  have hlt : (n - 1).toNat < A.length := by omega
  have hb : (ints A)[(n - 1).toNat]? = some (.int .i64 (A.getD (n - 1).toNat 0)) := by
    rw [List.getElem?_map, List.getD_eq_getElem?_getD, List.getElem?_eq_getElem hlt]; rfl
  obtain ⟨id, cap, h3, e, r, w3, o3, x3, f3⟩ := own_same s.e s.o hb (.int .i64 y)
  have hln := writeN_len w3
  refine ⟨id, cap, h3, by rw [e]; simp, r, w3, x3, by simpa [ints, List.map_set] using o3, Own2.away2 s.w f3 s.ap, ⟨by rw [hln]; exact s.fr.len, fun j b hj hn => (f3 j b (s.fr.kp j b hj hn) hn).1⟩, s.ap, s.fs⟩

def AOk (A : List Int) : Prop := A.length ≤ 1000 ∧ ∀ x ∈ A, -1 ≤ x ∧ x ≤ 1
theorem AOk.get {A : List Int} (h : AOk A) (i : Nat) : -1 ≤ A.getD i 0 ∧ A.getD i 0 ≤ 1 := by
  by_cases hi : i < A.length
  · have : A.getD i 0 ∈ A := by
      rw [List.getD_eq_getElem?_getD, List.getElem?_eq_getElem hi]
      exact List.getElem_mem _
    exact h.2 _ this
  · rw [List.getD_eq_getElem?_getD, List.getElem?_eq_none (by omega)]; simp
theorem AOk.set {A : List Int} (h : AOk A) (i : Nat) {y : Int} (hy : -1 ≤ y ∧ y ≤ 1) : AOk (A.set i y) := by
  refine ⟨by simpa using h.1, fun x hx => ?_⟩
  rcases List.mem_or_eq_of_mem_set hx with hx | rfl
  · exact h.2 x hx
  · exact hy
def I25 (h0 hs : Heap) (s : List UInt8) (sg : SV) (a0 : Nat) (R : Option (List Vis × List Int)) (E : Env) (h : Heap) : Prop := ∃ (i f : Nat) (t : SV) (A : List Int) (acc : List Vis), i ≤ s.length ∧ Sq h0 hs h sg t A acc ∧ AOk A ∧ A.length = a0 ∧ (s.drop i).length ≤ f ∧ seqL f (s.drop i) A acc = R ∧ acc.length ≤ i ∧
  E = [(0, some (.sc (tb s))), (1, some (.sc sg)), (6, some (.sc t)), (7, some (.sc (.int .i64 (i : Int))))]
def R25 (h0 hs : Heap) (s : List UInt8) (sg : SV) (a0 : Nat) (R : Option (List Vis × List Int)) (ex : Ex) (E : Env) (h : Heap) : Prop := match ex with
  | .rt => E = [(4, some (.sc .nilS)), (5, some (.sc (.bool false)))] ∧ R = none ∧ ∃ t A acc, Sq h0 hs h sg t A acc ∧ AOk A ∧ A.length = a0
  | .ex z => z = 0 ∧ ∃ t A acc a b c d, R = some (acc, A) ∧ Sq h0 hs h sg t A acc ∧ AOk A ∧ A.length = a0 ∧ acc.length ≤ s.length ∧ E = [(0, a), (1, b), (6, some (.sc t)), (7, c), (16, d)]
  | .nm => False
theorem evn {n : Int} {k : UInt8} : (n - 1, decide (k = 79)) = ((n - 1, decide (k = 79)) : Vis) := rfl

set_option maxHeartbeats 16000000 in
theorem round25 (h0 hs : Heap) (s : List UInt8) (sg : SV) (a0 : Nat) (R : Option (List Vis × List Int)) (hl : s.length ≤ 100000) (E : Env) (h : Heap) (hI : I25 h0 hs s sg a0 R E h) :
    wA FT HKt b25L0 (E.keep [0, 1, 6, 7]) h (wRound (I25 h0 hs s sg a0 R) (cnt s.length 7) (cnt s.length 7 E h) (R25 h0 hs s sg a0 R)) := by
  obtain ⟨i, f, t, A, acc, hi, q, hA, ha0, hf, hr, hac, rfl⟩ := hI
  by_cases hlt : i < s.length
  · obtain ⟨k, hx⟩ : ∃ k, s[i]? = some k := ⟨_, List.getElem?_eq_getElem hlt⟩
    have hxI : s[((i : Nat) : Int).toNat]? = some k := by rw [Int.toNat_natCast]; exact hx
    have hd := drop_get hx
    rw [hd] at hf hr
    obtain ⟨f, rfl⟩ : ∃ g, f = g + 1 := ⟨f - 1, by rw [List.length_cons] at hf; omega⟩
    have hkl : k.toNat < 256 := k.toNat_lt
    generalize htw : (s.drop (i + 1)).takeWhile dig = tw
    have htl : i + 1 + tw.length ≤ s.length := by
      have h1 := congrArg List.length (drop_tw dig (s.drop (i + 1)))
      have h2 := (List.takeWhile_sublist (p := dig) (l := s.drop (i + 1))).length_le
      rw [htw, List.length_drop] at h2
      omega
    have hdw : (s.drop (i + 1)).dropWhile dig = s.drop (i + 1 + tw.length) := by
      rw [← drop_tw, htw, List.drop_drop]
    have hsub : (s.drop (((i + 1 : Nat) : Int)).toNat).take ((((i + 1 + tw.length : Nat) : Int)).toNat - (((i + 1 : Nat) : Int)).toNat) = tw := by
      rw [Int.toNat_natCast, Int.toNat_natCast, show i + 1 + tw.length - (i + 1) = tw.length by omega, ← htw, take_tw]
    repeat' (first | refine w_seq ?_ | refine w_seqN ?_ | refine w_blk ?_ | refine w_skip ?_ | refine w_ops ?_ | ((refine i_cond ?_); refine w_condT rfl ?_) | ((refine i_nil ?_); first | refine w_end5 rfl rfl rfl rfl rfl ?_ | refine w_end6 rfl rfl rfl rfl rfl rfl ?_) | ((refine i_cons ?_); first | refine k_slen rfl ?_ | refine k_sidx rfl rfl (by omega) hxI ?_ | refine k_mv rfl ?_ | refine k_add rfl rfl (by omega) ?_ | refine k_lssT rfl rfl (by omega) ?_))
    refine w_loop (I25d h s sg t (.int .u8 (k.toNat : Int)) (i + 1)) (cnt s.length 7) (R25d h s sg t (.int .u8 (k.toNat : Int)) (i + 1)) ⟨0, rfl, by omega, by simp, rfl⟩ (round25d h s sg t _ (i + 1) (by omega)) ?_
    rintro ex E' h' ⟨rfl, rfl, a, rfl⟩
    rw [htw]
    have k1 := atoi_call (h := h') tw (by omega)
    have hlA := Own.len q.o
    rw [List.length_map] at hlA
    have hal := hA.1
    by_cases hkind : k = 79 ∨ k = 85
    · have hk2 : k.toNat = 79 ∨ (k.toNat ≠ 79 ∧ k.toNat = 85) := by
        rcases hkind with rfl | rfl
        · exact .inl rfl
        · exact .inr ⟨by decide, rfl⟩
      unfold atoiV at k1
      rcases numEnds (Lib.atoiAll tw) with ⟨n, hn⟩ | hn | hn
      · have hn' : Lib.atoiAll ((s.drop (i + 1)).takeWhile dig) = .ok n := by rw [htw]; exact hn
        have hnb := Lib.atoiAll_bounds hn
        rw [hn] at k1
        by_cases hn1 : n < 1
        · rw [seq_num hn' (.inl hn1)] at hr
          rcases hk2 with hk | ⟨hk', hk⟩
          · repeat' (first | refine w_seq ?_ | refine w_seqN ?_ | refine w_seqR ?_ | refine w_blkX ?_ | refine w_blkR ?_ | refine w_ret ?_ | refine w_ops ?_ | ((refine i_cond ?_); refine w_condT rfl ?_) | ((refine i_nil ?_); first | refine w_end2 rfl rfl ?_ | refine w_end7 rfl rfl rfl rfl rfl rfl rfl ?_) | ((refine i_cons ?_); first | refine k_ssubE rfl rfl rfl (by omega) hsub ?_ | (refine k_call rfl k1 ?_; rintro v h1 ⟨rfl, rfl⟩) | refine k_skip rfl ?_ | refine k_want rfl ?_ | refine k_mv rfl ?_ | refine k_pickT rfl rfl ?_ | refine k_pickF rfl rfl ?_ | refine k_lssT rfl rfl (by omega) ?_ | refine k_neqF rfl rfl (by omega) ?_ | refine k_ok rfl rfl ?_))
            exact w_roundR ⟨rfl, hr.symm, t, A, acc, q, hA, ha0⟩
          · repeat' (first | refine w_seq ?_ | refine w_seqN ?_ | refine w_seqR ?_ | refine w_blkX ?_ | refine w_blkR ?_ | refine w_ret ?_ | refine w_ops ?_ | ((refine i_cond ?_); refine w_condT rfl ?_) | ((refine i_nil ?_); first | refine w_end2 rfl rfl ?_ | refine w_end7 rfl rfl rfl rfl rfl rfl rfl ?_) | ((refine i_cons ?_); first | refine k_ssubE rfl rfl rfl (by omega) hsub ?_ | (refine k_call rfl k1 ?_; rintro v h1 ⟨rfl, rfl⟩) | refine k_skip rfl ?_ | refine k_want rfl ?_ | refine k_mv rfl ?_ | refine k_pickT rfl rfl ?_ | refine k_pickF rfl rfl ?_ | refine k_lssT rfl rfl (by omega) ?_ | refine k_neqT rfl rfl (by omega) ?_ | refine k_neqF rfl rfl (by omega) ?_ | refine k_ok rfl rfl ?_))
            exact w_roundR ⟨rfl, hr.symm, t, A, acc, q, hA, ha0⟩
        by_cases hn2 : (A.length : Int) < n
        · rw [seq_num hn' (.inr hn2)] at hr
          rcases hk2 with hk | ⟨hk', hk⟩
          · repeat' (first | refine w_seq ?_ | refine w_seqN ?_ | refine w_seqR ?_ | refine w_blkX ?_ | refine w_blkR ?_ | refine w_ret ?_ | refine w_ops ?_ | ((refine i_cond ?_); refine w_condT rfl ?_) | ((refine i_nil ?_); first | refine w_end2 rfl rfl ?_ | refine w_end7 rfl rfl rfl rfl rfl rfl rfl ?_) | ((refine i_cons ?_); first | refine k_ssubE rfl rfl rfl (by omega) hsub ?_ | (refine k_call rfl k1 ?_; rintro v h1 ⟨rfl, rfl⟩) | refine k_len rfl hlA ?_ | refine k_skip rfl ?_ | refine k_want rfl ?_ | refine k_mv rfl ?_ | refine k_pickT rfl rfl ?_ | refine k_pickF rfl rfl ?_ | refine k_lssF rfl rfl (by omega) ?_ | refine k_gtrT rfl rfl (by omega) ?_ | refine k_neqF rfl rfl (by omega) ?_ | refine k_ok rfl rfl ?_))
            exact w_roundR ⟨rfl, hr.symm, t, A, acc, q, hA, ha0⟩
          · repeat' (first | refine w_seq ?_ | refine w_seqN ?_ | refine w_seqR ?_ | refine w_blkX ?_ | refine w_blkR ?_ | refine w_ret ?_ | refine w_ops ?_ | ((refine i_cond ?_); refine w_condT rfl ?_) | ((refine i_nil ?_); first | refine w_end2 rfl rfl ?_ | refine w_end7 rfl rfl rfl rfl rfl rfl rfl ?_) | ((refine i_cons ?_); first | refine k_ssubE rfl rfl rfl (by omega) hsub ?_ | (refine k_call rfl k1 ?_; rintro v h1 ⟨rfl, rfl⟩) | refine k_len rfl hlA ?_ | refine k_skip rfl ?_ | refine k_want rfl ?_ | refine k_mv rfl ?_ | refine k_pickT rfl rfl ?_ | refine k_pickF rfl rfl ?_ | refine k_lssF rfl rfl (by omega) ?_ | refine k_gtrT rfl rfl (by omega) ?_ | refine k_neqT rfl rfl (by omega) ?_ | refine k_neqF rfl rfl (by omega) ?_ | refine k_ok rfl rfl ?_))
            exact w_roundR ⟨rfl, hr.symm, t, A, acc, q, hA, ha0⟩
        by_cases he : i + 1 + tw.length = s.length
        · have hde : (s.drop (i + 1)).dropWhile dig = [] := by rw [hdw]; exact List.drop_of_length_le (by omega)
          rw [seq_end hde] at hr
          rcases hk2 with hk | ⟨hk', hk⟩
          · repeat' (first | refine w_seq ?_ | refine w_seqN ?_ | refine w_seqR ?_ | refine w_blkX ?_ | refine w_blkR ?_ | refine w_ret ?_ | refine w_ops ?_ | ((refine i_cond ?_); refine w_condT rfl ?_) | ((refine i_nil ?_); first | refine w_end2 rfl rfl ?_ | refine w_end7 rfl rfl rfl rfl rfl rfl rfl ?_) | ((refine i_cons ?_); first | refine k_slen rfl ?_ | refine k_ssubE rfl rfl rfl (by omega) hsub ?_ | (refine k_call rfl k1 ?_; rintro v h1 ⟨rfl, rfl⟩) | refine k_len rfl hlA ?_ | refine k_skip rfl ?_ | refine k_want rfl ?_ | refine k_mv rfl ?_ | refine k_pickF rfl rfl ?_ | refine k_lssF rfl rfl (by omega) ?_ | refine k_gtrF rfl rfl (by omega) ?_ | refine k_eqlT rfl rfl (by omega) ?_ | refine k_neqF rfl rfl (by omega) ?_ | refine k_ok rfl rfl ?_))
            exact w_roundR ⟨rfl, hr.symm, t, A, acc, q, hA, ha0⟩
          · repeat' (first | refine w_seq ?_ | refine w_seqN ?_ | refine w_seqR ?_ | refine w_blkX ?_ | refine w_blkR ?_ | refine w_ret ?_ | refine w_ops ?_ | ((refine i_cond ?_); refine w_condT rfl ?_) | ((refine i_nil ?_); first | refine w_end2 rfl rfl ?_ | refine w_end7 rfl rfl rfl rfl rfl rfl rfl ?_) | ((refine i_cons ?_); first | refine k_slen rfl ?_ | refine k_ssubE rfl rfl rfl (by omega) hsub ?_ | (refine k_call rfl k1 ?_; rintro v h1 ⟨rfl, rfl⟩) | refine k_len rfl hlA ?_ | refine k_want rfl ?_ | refine k_mv rfl ?_ | refine k_pickT rfl rfl ?_ | refine k_pickF rfl rfl ?_ | refine k_lssF rfl rfl (by omega) ?_ | refine k_gtrF rfl rfl (by omega) ?_ | refine k_eqlT rfl rfl (by omega) ?_ | refine k_neqT rfl rfl (by omega) ?_ | refine k_neqF rfl rfl (by omega) ?_ | refine k_ok rfl rfl ?_))
            exact w_roundR ⟨rfl, hr.symm, t, A, acc, q, hA, ha0⟩
        obtain ⟨c, hc⟩ : ∃ c, s[i + 1 + tw.length]? = some c := ⟨_, List.getElem?_eq_getElem (by omega)⟩
        have hcI : s[(((i + 1 + tw.length : Nat) : Int)).toNat]? = some c := by rw [Int.toNat_natCast]; exact hc
        have hdc : (s.drop (i + 1)).dropWhile dig = c :: s.drop (i + 1 + tw.length + 1) := by rw [hdw]; exact drop_get hc
        have hcl : c.toNat < 256 := c.toNat_lt
        have hgb := hA.get (n - 1).toNat
        by_cases hs1 : c = 43
        · obtain ⟨id, cap, h3, eq, r3, w3, q3⟩ := q.write (by omega) (by omega : n ≤ A.length) 1
          have hsg : sg = sg := rfl
          have hcn : c.toNat = 43 := by rw [hs1]; rfl
          have hsc : Go.Proofs.YtjmapbmdfbdomaaDoor.sg c = 1 := by rw [hs1]; rfl
          by_cases hcf : A.getD (n - 1).toNat 0 = -1
          · rw [seq_conf hn' hdc (by rw [hsc, hcf])] at hr
            subst eq
            rcases hk2 with hk | ⟨hk', hk⟩
            · repeat' (first | refine w_seq ?_ | refine w_seqN ?_ | refine w_seqR ?_ | refine w_blk ?_ | refine w_blkN ?_ | refine w_blkX ?_ | refine w_blkR ?_ | refine w_skip ?_ | refine w_ret ?_ | refine w_ops ?_ | ((refine i_cond ?_); first | refine w_condT rfl ?_ | refine w_condF rfl ?_) | ((refine i_nil ?_); first | refine w_end2 rfl rfl ?_ | refine w_end7 rfl rfl rfl rfl rfl rfl rfl ?_ | refine w_end8 rfl rfl rfl rfl rfl rfl rfl rfl ?_ | refine w_end9 rfl rfl rfl rfl rfl rfl rfl rfl rfl ?_) | ((refine i_cons ?_); first | refine k_slen rfl ?_ | refine k_ssubE rfl rfl rfl (by omega) hsub ?_ | (refine k_call rfl k1 ?_; rintro v h1 ⟨rfl, rfl⟩) | refine k_sidx rfl rfl (by omega) hcI ?_ | refine k_idxA rfl rfl (by omega) ?_ | refine k_ld rfl r3 ?_ | refine k_skip rfl ?_ | refine k_want rfl ?_ | refine k_mv rfl ?_ | refine k_pickF rfl rfl ?_ | refine k_add rfl rfl (by omega) ?_ | refine k_sub rfl rfl (by omega) ?_ | refine k_neg rfl (by omega) ?_ | refine k_lssF rfl rfl (by omega) ?_ | refine k_gtrF rfl rfl (by omega) ?_ | refine k_eqlT rfl rfl (by omega) ?_ | refine k_eqlF rfl rfl (by omega) ?_ | refine k_neqF rfl rfl (by omega) ?_ | refine k_len rfl rfl ?_ | refine k_ok rfl rfl ?_))
              exact w_roundR ⟨rfl, hr.symm, t, A, acc, q, hA, ha0⟩
            · repeat' (first | refine w_seq ?_ | refine w_seqN ?_ | refine w_seqR ?_ | refine w_blk ?_ | refine w_blkN ?_ | refine w_blkX ?_ | refine w_blkR ?_ | refine w_skip ?_ | refine w_ret ?_ | refine w_ops ?_ | ((refine i_cond ?_); first | refine w_condT rfl ?_ | refine w_condF rfl ?_) | ((refine i_nil ?_); first | refine w_end2 rfl rfl ?_ | refine w_end7 rfl rfl rfl rfl rfl rfl rfl ?_ | refine w_end8 rfl rfl rfl rfl rfl rfl rfl rfl ?_ | refine w_end9 rfl rfl rfl rfl rfl rfl rfl rfl rfl ?_) | ((refine i_cons ?_); first | refine k_slen rfl ?_ | refine k_ssubE rfl rfl rfl (by omega) hsub ?_ | (refine k_call rfl k1 ?_; rintro v h1 ⟨rfl, rfl⟩) | refine k_sidx rfl rfl (by omega) hcI ?_ | refine k_idxA rfl rfl (by omega) ?_ | refine k_ld rfl r3 ?_ | refine k_want rfl ?_ | refine k_mv rfl ?_ | refine k_pickT rfl rfl ?_ | refine k_pickF rfl rfl ?_ | refine k_add rfl rfl (by omega) ?_ | refine k_sub rfl rfl (by omega) ?_ | refine k_neg rfl (by omega) ?_ | refine k_lssF rfl rfl (by omega) ?_ | refine k_gtrF rfl rfl (by omega) ?_ | refine k_eqlT rfl rfl (by omega) ?_ | refine k_eqlF rfl rfl (by omega) ?_ | refine k_neqT rfl rfl (by omega) ?_ | refine k_neqF rfl rfl (by omega) ?_ | refine k_len rfl rfl ?_ | refine k_ok rfl rfl ?_))
              exact w_roundR ⟨rfl, hr.symm, t, A, acc, q, hA, ha0⟩
          · rw [seq_go hn' hdc hkind (by omega) (by omega) (.inl hs1) (by rw [hsc]; exact hcf), hsc] at hr
            subst eq
            rcases hk2 with hk | ⟨hk', hk⟩
            · have hkt : decide (k = 79) = true := decide_eq_true (UInt8.toNat_inj.1 hk)
              rw [hkt] at hr
              repeat' (first | refine w_seq ?_ | refine w_seqN ?_ | refine w_blk ?_ | refine w_blkN ?_ | refine w_blkX ?_ | refine w_skip ?_ | refine w_ops ?_ | ((refine i_cond ?_); first | refine w_condT rfl ?_ | refine w_condF rfl ?_) | ((refine i_nil ?_); first | refine w_end4 rfl rfl rfl rfl ?_ | refine w_end6 rfl rfl rfl rfl rfl rfl ?_ | refine w_end7 rfl rfl rfl rfl rfl rfl rfl ?_ | refine w_end8 rfl rfl rfl rfl rfl rfl rfl rfl ?_ | refine w_end9 rfl rfl rfl rfl rfl rfl rfl rfl rfl ?_) | ((refine i_cons ?_); first | refine k_slen rfl ?_ | refine k_ssubE rfl rfl rfl (by omega) hsub ?_ | (refine k_call rfl k1 ?_; rintro v h1 ⟨rfl, rfl⟩) | refine k_sidx rfl rfl (by omega) hcI ?_ | refine k_idxA rfl rfl (by omega) ?_ | refine k_ld rfl r3 ?_ | refine k_st2 rfl rfl w3 ?_ | refine k_bld rfl rfl ?_ | (refine k_push2f q3.e q3.w rfl rfl (by simp only [bigN]; omega) ?_; intro t' h4 o4 x4 f4 l4 g4; have q4 := q3.push (v := (n - 1, true)) o4 x4 f4 l4 g4) | refine k_skip rfl ?_ | refine k_want rfl ?_ | refine k_mv rfl ?_ | refine k_pickF rfl rfl ?_ | refine k_add rfl rfl (by omega) ?_ | refine k_sub rfl rfl (by omega) ?_ | refine k_neg rfl (by omega) ?_ | refine k_lssF rfl rfl (by omega) ?_ | refine k_gtrF rfl rfl (by omega) ?_ | refine k_eqlT rfl rfl (by omega) ?_ | refine k_eqlF rfl rfl (by omega) ?_ | refine k_neqF rfl rfl (by omega) ?_ | refine k_len rfl rfl ?_ | refine k_ok rfl rfl ?_))
              exact w_roundN ⟨i + 1 + tw.length + 1, f, t', _, _, by omega, q4, hA.set _ (by omega), by simpa using ha0, by rw [List.length_drop]; rw [List.length_cons, List.length_drop] at hf; omega, hr, by rw [List.length_append, List.length_singleton]; omega, rfl⟩ (by simp [cnt, Env.get]; omega)
            · have hkt : decide (k = 79) = false := decide_eq_false (fun e => hk' (by rw [e]; rfl))
              rw [hkt] at hr
              repeat' (first | refine w_seq ?_ | refine w_seqN ?_ | refine w_blk ?_ | refine w_blkN ?_ | refine w_blkX ?_ | refine w_skip ?_ | refine w_ops ?_ | ((refine i_cond ?_); first | refine w_condT rfl ?_ | refine w_condF rfl ?_) | ((refine i_nil ?_); first | refine w_end4 rfl rfl rfl rfl ?_ | refine w_end6 rfl rfl rfl rfl rfl rfl ?_ | refine w_end7 rfl rfl rfl rfl rfl rfl rfl ?_ | refine w_end8 rfl rfl rfl rfl rfl rfl rfl rfl ?_ | refine w_end9 rfl rfl rfl rfl rfl rfl rfl rfl rfl ?_) | ((refine i_cons ?_); first | refine k_slen rfl ?_ | refine k_ssubE rfl rfl rfl (by omega) hsub ?_ | (refine k_call rfl k1 ?_; rintro v h1 ⟨rfl, rfl⟩) | refine k_sidx rfl rfl (by omega) hcI ?_ | refine k_idxA rfl rfl (by omega) ?_ | refine k_ld rfl r3 ?_ | refine k_st2 rfl rfl w3 ?_ | refine k_bld rfl rfl ?_ | (refine k_push2f q3.e q3.w rfl rfl (by simp only [bigN]; omega) ?_; intro t' h4 o4 x4 f4 l4 g4; have q4 := q3.push (v := (n - 1, false)) o4 x4 f4 l4 g4) | refine k_want rfl ?_ | refine k_mv rfl ?_ | refine k_pickT rfl rfl ?_ | refine k_pickF rfl rfl ?_ | refine k_add rfl rfl (by omega) ?_ | refine k_sub rfl rfl (by omega) ?_ | refine k_neg rfl (by omega) ?_ | refine k_lssF rfl rfl (by omega) ?_ | refine k_gtrF rfl rfl (by omega) ?_ | refine k_eqlT rfl rfl (by omega) ?_ | refine k_eqlF rfl rfl (by omega) ?_ | refine k_neqT rfl rfl (by omega) ?_ | refine k_neqF rfl rfl (by omega) ?_ | refine k_len rfl rfl ?_ | refine k_ok rfl rfl ?_))
              exact w_roundN ⟨i + 1 + tw.length + 1, f, t', _, _, by omega, q4, hA.set _ (by omega), by simpa using ha0, by rw [List.length_drop]; rw [List.length_cons, List.length_drop] at hf; omega, hr, by rw [List.length_append, List.length_singleton]; omega, rfl⟩ (by simp [cnt, Env.get]; omega)
        · have hcn : c.toNat ≠ 43 := u8_ne (b := 43) hs1
          by_cases hs2 : c = 45
          · obtain ⟨id, cap, h3, eq, r3, w3, q3⟩ := q.write (by omega) (by omega : n ≤ A.length) (-1)
            have hcn2 : c.toNat = 45 := by rw [hs2]; rfl
            have hsc : Go.Proofs.YtjmapbmdfbdomaaDoor.sg c = -1 := by rw [hs2]; rfl
            by_cases hcf : A.getD (n - 1).toNat 0 = 1
            · rw [seq_conf hn' hdc (by rw [hsc, hcf]; rfl)] at hr
              subst eq
              rcases hk2 with hk | ⟨hk', hk⟩
              · repeat' (first | refine w_seq ?_ | refine w_seqN ?_ | refine w_seqR ?_ | refine w_blk ?_ | refine w_blkN ?_ | refine w_blkX ?_ | refine w_blkR ?_ | refine w_skip ?_ | refine w_ret ?_ | refine w_ops ?_ | ((refine i_cond ?_); first | refine w_condT rfl ?_ | refine w_condF rfl ?_) | ((refine i_nil ?_); first | refine w_end2 rfl rfl ?_ | refine w_end7 rfl rfl rfl rfl rfl rfl rfl ?_ | refine w_end8 rfl rfl rfl rfl rfl rfl rfl rfl ?_ | refine w_end9 rfl rfl rfl rfl rfl rfl rfl rfl rfl ?_) | ((refine i_cons ?_); first | refine k_slen rfl ?_ | refine k_ssubE rfl rfl rfl (by omega) hsub ?_ | (refine k_call rfl k1 ?_; rintro v h1 ⟨rfl, rfl⟩) | refine k_sidx rfl rfl (by omega) hcI ?_ | refine k_idxA rfl rfl (by omega) ?_ | refine k_ld rfl r3 ?_ | refine k_skip rfl ?_ | refine k_want rfl ?_ | refine k_mv rfl ?_ | refine k_pickF rfl rfl ?_ | refine k_add rfl rfl (by omega) ?_ | refine k_sub rfl rfl (by omega) ?_ | refine k_neg rfl (by omega) ?_ | refine k_lssF rfl rfl (by omega) ?_ | refine k_gtrF rfl rfl (by omega) ?_ | refine k_eqlT rfl rfl (by omega) ?_ | refine k_eqlF rfl rfl (by omega) ?_ | refine k_neqF rfl rfl (by omega) ?_ | refine k_len rfl rfl ?_ | refine k_ok rfl rfl ?_))
                exact w_roundR ⟨rfl, hr.symm, t, A, acc, q, hA, ha0⟩
              · repeat' (first | refine w_seq ?_ | refine w_seqN ?_ | refine w_seqR ?_ | refine w_blk ?_ | refine w_blkN ?_ | refine w_blkX ?_ | refine w_blkR ?_ | refine w_skip ?_ | refine w_ret ?_ | refine w_ops ?_ | ((refine i_cond ?_); first | refine w_condT rfl ?_ | refine w_condF rfl ?_) | ((refine i_nil ?_); first | refine w_end2 rfl rfl ?_ | refine w_end7 rfl rfl rfl rfl rfl rfl rfl ?_ | refine w_end8 rfl rfl rfl rfl rfl rfl rfl rfl ?_ | refine w_end9 rfl rfl rfl rfl rfl rfl rfl rfl rfl ?_) | ((refine i_cons ?_); first | refine k_slen rfl ?_ | refine k_ssubE rfl rfl rfl (by omega) hsub ?_ | (refine k_call rfl k1 ?_; rintro v h1 ⟨rfl, rfl⟩) | refine k_sidx rfl rfl (by omega) hcI ?_ | refine k_idxA rfl rfl (by omega) ?_ | refine k_ld rfl r3 ?_ | refine k_want rfl ?_ | refine k_mv rfl ?_ | refine k_pickT rfl rfl ?_ | refine k_pickF rfl rfl ?_ | refine k_add rfl rfl (by omega) ?_ | refine k_sub rfl rfl (by omega) ?_ | refine k_neg rfl (by omega) ?_ | refine k_lssF rfl rfl (by omega) ?_ | refine k_gtrF rfl rfl (by omega) ?_ | refine k_eqlT rfl rfl (by omega) ?_ | refine k_eqlF rfl rfl (by omega) ?_ | refine k_neqT rfl rfl (by omega) ?_ | refine k_neqF rfl rfl (by omega) ?_ | refine k_len rfl rfl ?_ | refine k_ok rfl rfl ?_))
                exact w_roundR ⟨rfl, hr.symm, t, A, acc, q, hA, ha0⟩
            · rw [seq_go hn' hdc hkind (by omega) (by omega) (.inr hs2) (by rw [hsc]; omega), hsc] at hr
              subst eq
              rcases hk2 with hk | ⟨hk', hk⟩
              · have hkt : decide (k = 79) = true := decide_eq_true (UInt8.toNat_inj.1 hk)
                rw [hkt] at hr
                repeat' (first | refine w_seq ?_ | refine w_seqN ?_ | refine w_blk ?_ | refine w_blkN ?_ | refine w_blkX ?_ | refine w_skip ?_ | refine w_ops ?_ | ((refine i_cond ?_); first | refine w_condT rfl ?_ | refine w_condF rfl ?_) | ((refine i_nil ?_); first | refine w_end4 rfl rfl rfl rfl ?_ | refine w_end6 rfl rfl rfl rfl rfl rfl ?_ | refine w_end7 rfl rfl rfl rfl rfl rfl rfl ?_ | refine w_end8 rfl rfl rfl rfl rfl rfl rfl rfl ?_ | refine w_end9 rfl rfl rfl rfl rfl rfl rfl rfl rfl ?_) | ((refine i_cons ?_); first | refine k_slen rfl ?_ | refine k_ssubE rfl rfl rfl (by omega) hsub ?_ | (refine k_call rfl k1 ?_; rintro v h1 ⟨rfl, rfl⟩) | refine k_sidx rfl rfl (by omega) hcI ?_ | refine k_idxA rfl rfl (by omega) ?_ | refine k_ld rfl r3 ?_ | refine k_st2 rfl rfl w3 ?_ | refine k_bld rfl rfl ?_ | (refine k_push2f q3.e q3.w rfl rfl (by simp only [bigN]; omega) ?_; intro t' h4 o4 x4 f4 l4 g4; have q4 := q3.push (v := (n - 1, true)) o4 x4 f4 l4 g4) | refine k_skip rfl ?_ | refine k_want rfl ?_ | refine k_mv rfl ?_ | refine k_pickF rfl rfl ?_ | refine k_add rfl rfl (by omega) ?_ | refine k_sub rfl rfl (by omega) ?_ | refine k_neg rfl (by omega) ?_ | refine k_lssF rfl rfl (by omega) ?_ | refine k_gtrF rfl rfl (by omega) ?_ | refine k_eqlT rfl rfl (by omega) ?_ | refine k_eqlF rfl rfl (by omega) ?_ | refine k_neqF rfl rfl (by omega) ?_ | refine k_len rfl rfl ?_ | refine k_ok rfl rfl ?_))
                exact w_roundN ⟨i + 1 + tw.length + 1, f, t', _, _, by omega, q4, hA.set _ (by omega), by simpa using ha0, by rw [List.length_drop]; rw [List.length_cons, List.length_drop] at hf; omega, hr, by rw [List.length_append, List.length_singleton]; omega, rfl⟩ (by simp [cnt, Env.get]; omega)
              · have hkt : decide (k = 79) = false := decide_eq_false (fun e => hk' (by rw [e]; rfl))
                rw [hkt] at hr
                repeat' (first | refine w_seq ?_ | refine w_seqN ?_ | refine w_blk ?_ | refine w_blkN ?_ | refine w_blkX ?_ | refine w_skip ?_ | refine w_ops ?_ | ((refine i_cond ?_); first | refine w_condT rfl ?_ | refine w_condF rfl ?_) | ((refine i_nil ?_); first | refine w_end4 rfl rfl rfl rfl ?_ | refine w_end6 rfl rfl rfl rfl rfl rfl ?_ | refine w_end7 rfl rfl rfl rfl rfl rfl rfl ?_ | refine w_end8 rfl rfl rfl rfl rfl rfl rfl rfl ?_ | refine w_end9 rfl rfl rfl rfl rfl rfl rfl rfl rfl ?_) | ((refine i_cons ?_); first | refine k_slen rfl ?_ | refine k_ssubE rfl rfl rfl (by omega) hsub ?_ | (refine k_call rfl k1 ?_; rintro v h1 ⟨rfl, rfl⟩) | refine k_sidx rfl rfl (by omega) hcI ?_ | refine k_idxA rfl rfl (by omega) ?_ | refine k_ld rfl r3 ?_ | refine k_st2 rfl rfl w3 ?_ | refine k_bld rfl rfl ?_ | (refine k_push2f q3.e q3.w rfl rfl (by simp only [bigN]; omega) ?_; intro t' h4 o4 x4 f4 l4 g4; have q4 := q3.push (v := (n - 1, false)) o4 x4 f4 l4 g4) | refine k_want rfl ?_ | refine k_mv rfl ?_ | refine k_pickT rfl rfl ?_ | refine k_pickF rfl rfl ?_ | refine k_add rfl rfl (by omega) ?_ | refine k_sub rfl rfl (by omega) ?_ | refine k_neg rfl (by omega) ?_ | refine k_lssF rfl rfl (by omega) ?_ | refine k_gtrF rfl rfl (by omega) ?_ | refine k_eqlT rfl rfl (by omega) ?_ | refine k_eqlF rfl rfl (by omega) ?_ | refine k_neqT rfl rfl (by omega) ?_ | refine k_neqF rfl rfl (by omega) ?_ | refine k_len rfl rfl ?_ | refine k_ok rfl rfl ?_))
                exact w_roundN ⟨i + 1 + tw.length + 1, f, t', _, _, by omega, q4, hA.set _ (by omega), by simpa using ha0, by rw [List.length_drop]; rw [List.length_cons, List.length_drop] at hf; omega, hr, by rw [List.length_append, List.length_singleton]; omega, rfl⟩ (by simp [cnt, Env.get]; omega)
          · have hcn2 : c.toNat ≠ 45 := u8_ne (b := 45) hs2
            rw [seq_sign hdc hs1 hs2] at hr
            rcases hk2 with hk | ⟨hk', hk⟩
            · repeat' (first | refine w_seq ?_ | refine w_seqN ?_ | refine w_seqR ?_ | refine w_blk ?_ | refine w_blkN ?_ | refine w_blkX ?_ | refine w_blkR ?_ | refine w_skip ?_ | refine w_ret ?_ | refine w_ops ?_ | ((refine i_cond ?_); first | refine w_condT rfl ?_ | refine w_condF rfl ?_) | ((refine i_nil ?_); first | refine w_end2 rfl rfl ?_ | refine w_end7 rfl rfl rfl rfl rfl rfl rfl ?_ | refine w_end8 rfl rfl rfl rfl rfl rfl rfl rfl ?_ | refine w_end9 rfl rfl rfl rfl rfl rfl rfl rfl rfl ?_) | ((refine i_cons ?_); first | refine k_slen rfl ?_ | refine k_ssubE rfl rfl rfl (by omega) hsub ?_ | (refine k_call rfl k1 ?_; rintro v h1 ⟨rfl, rfl⟩) | refine k_sidx rfl rfl (by omega) hcI ?_ | refine k_len rfl hlA ?_ | refine k_skip rfl ?_ | refine k_want rfl ?_ | refine k_mv rfl ?_ | refine k_pickT rfl rfl ?_ | refine k_pickF rfl rfl ?_ | refine k_add rfl rfl (by omega) ?_ | refine k_lssF rfl rfl (by omega) ?_ | refine k_gtrF rfl rfl (by omega) ?_ | refine k_eqlT rfl rfl (by omega) ?_ | refine k_eqlF rfl rfl (by omega) ?_ | refine k_neqF rfl rfl (by omega) ?_ | refine k_ok rfl rfl ?_))
              exact w_roundR ⟨rfl, hr.symm, t, A, acc, q, hA, ha0⟩
            · repeat' (first | refine w_seq ?_ | refine w_seqN ?_ | refine w_seqR ?_ | refine w_blk ?_ | refine w_blkN ?_ | refine w_blkX ?_ | refine w_blkR ?_ | refine w_skip ?_ | refine w_ret ?_ | refine w_ops ?_ | ((refine i_cond ?_); first | refine w_condT rfl ?_ | refine w_condF rfl ?_) | ((refine i_nil ?_); first | refine w_end2 rfl rfl ?_ | refine w_end7 rfl rfl rfl rfl rfl rfl rfl ?_ | refine w_end8 rfl rfl rfl rfl rfl rfl rfl rfl ?_ | refine w_end9 rfl rfl rfl rfl rfl rfl rfl rfl rfl ?_) | ((refine i_cons ?_); first | refine k_slen rfl ?_ | refine k_ssubE rfl rfl rfl (by omega) hsub ?_ | (refine k_call rfl k1 ?_; rintro v h1 ⟨rfl, rfl⟩) | refine k_sidx rfl rfl (by omega) hcI ?_ | refine k_len rfl hlA ?_ | refine k_skip rfl ?_ | refine k_want rfl ?_ | refine k_mv rfl ?_ | refine k_pickT rfl rfl ?_ | refine k_pickF rfl rfl ?_ | refine k_add rfl rfl (by omega) ?_ | refine k_lssF rfl rfl (by omega) ?_ | refine k_gtrF rfl rfl (by omega) ?_ | refine k_eqlT rfl rfl (by omega) ?_ | refine k_eqlF rfl rfl (by omega) ?_ | refine k_neqT rfl rfl (by omega) ?_ | refine k_neqF rfl rfl (by omega) ?_ | refine k_ok rfl rfl ?_))
              exact w_roundR ⟨rfl, hr.symm, t, A, acc, q, hA, ha0⟩
      · have hn' : ∀ n, Lib.atoiAll ((s.drop (i + 1)).takeWhile dig) ≠ .ok n := fun n e => by rw [htw, hn] at e; cases e
        rw [seq_atoi hn'] at hr
        rw [hn] at k1
        rcases hk2 with hk | ⟨hk', hk⟩
        · repeat' (first | refine w_seq ?_ | refine w_seqN ?_ | refine w_seqR ?_ | refine w_blkX ?_ | refine w_blkR ?_ | refine w_ret ?_ | refine w_ops ?_ | ((refine i_cond ?_); refine w_condT rfl ?_) | ((refine i_nil ?_); first | refine w_end2 rfl rfl ?_ | refine w_end7 rfl rfl rfl rfl rfl rfl rfl ?_) | ((refine i_cons ?_); first | refine k_ssubE rfl rfl rfl (by omega) hsub ?_ | (refine k_call rfl k1 ?_; rintro v h1 ⟨rfl, rfl⟩) | refine k_skip rfl ?_ | refine k_want rfl ?_ | refine k_mv rfl ?_ | refine k_pickT rfl rfl ?_ | refine k_pickF rfl rfl ?_ | refine k_neqF rfl rfl (by omega) ?_ | refine k_ok rfl rfl ?_))
          exact w_roundR ⟨rfl, hr.symm, t, A, acc, q, hA, ha0⟩
        · repeat' (first | refine w_seq ?_ | refine w_seqN ?_ | refine w_seqR ?_ | refine w_blkX ?_ | refine w_blkR ?_ | refine w_ret ?_ | refine w_ops ?_ | ((refine i_cond ?_); refine w_condT rfl ?_) | ((refine i_nil ?_); first | refine w_end2 rfl rfl ?_ | refine w_end7 rfl rfl rfl rfl rfl rfl rfl ?_) | ((refine i_cons ?_); first | refine k_ssubE rfl rfl rfl (by omega) hsub ?_ | (refine k_call rfl k1 ?_; rintro v h1 ⟨rfl, rfl⟩) | refine k_skip rfl ?_ | refine k_want rfl ?_ | refine k_mv rfl ?_ | refine k_pickT rfl rfl ?_ | refine k_pickF rfl rfl ?_ | refine k_neqT rfl rfl (by omega) ?_ | refine k_neqF rfl rfl (by omega) ?_ | refine k_ok rfl rfl ?_))
          exact w_roundR ⟨rfl, hr.symm, t, A, acc, q, hA, ha0⟩
      · have hn' : ∀ n, Lib.atoiAll ((s.drop (i + 1)).takeWhile dig) ≠ .ok n := fun n e => by rw [htw, hn] at e; cases e
        rw [seq_atoi hn'] at hr
        rw [hn] at k1
        simp only [Lib.atoiAll] at k1
        rcases hk2 with hk | ⟨hk', hk⟩
        · repeat' (first | refine w_seq ?_ | refine w_seqN ?_ | refine w_seqR ?_ | refine w_blkX ?_ | refine w_blkR ?_ | refine w_ret ?_ | refine w_ops ?_ | ((refine i_cond ?_); refine w_condT rfl ?_) | ((refine i_nil ?_); first | refine w_end2 rfl rfl ?_ | refine w_end7 rfl rfl rfl rfl rfl rfl rfl ?_) | ((refine i_cons ?_); first | refine k_ssubE rfl rfl rfl (by omega) hsub ?_ | (refine k_call rfl k1 ?_; rintro v h1 ⟨rfl, rfl⟩) | refine k_skip rfl ?_ | refine k_want rfl ?_ | refine k_mv rfl ?_ | refine k_pickT rfl rfl ?_ | refine k_pickF rfl rfl ?_ | refine k_neqF rfl rfl (by omega) ?_ | refine k_ok rfl rfl ?_))
          exact w_roundR ⟨rfl, hr.symm, t, A, acc, q, hA, ha0⟩
        · repeat' (first | refine w_seq ?_ | refine w_seqN ?_ | refine w_seqR ?_ | refine w_blkX ?_ | refine w_blkR ?_ | refine w_ret ?_ | refine w_ops ?_ | ((refine i_cond ?_); refine w_condT rfl ?_) | ((refine i_nil ?_); first | refine w_end2 rfl rfl ?_ | refine w_end7 rfl rfl rfl rfl rfl rfl rfl ?_) | ((refine i_cons ?_); first | refine k_ssubE rfl rfl rfl (by omega) hsub ?_ | (refine k_call rfl k1 ?_; rintro v h1 ⟨rfl, rfl⟩) | refine k_skip rfl ?_ | refine k_want rfl ?_ | refine k_mv rfl ?_ | refine k_pickT rfl rfl ?_ | refine k_pickF rfl rfl ?_ | refine k_neqT rfl rfl (by omega) ?_ | refine k_neqF rfl rfl (by omega) ?_ | refine k_ok rfl rfl ?_))
          exact w_roundR ⟨rfl, hr.symm, t, A, acc, q, hA, ha0⟩
    · have hk79 : k ≠ 79 := fun e => hkind (.inl e)
      have hk85 : k ≠ 85 := fun e => hkind (.inr e)
      have hn79 : k.toNat ≠ 79 := u8_ne (b := 79) hk79
      have hn85 : k.toNat ≠ 85 := u8_ne (b := 85) hk85
      rw [seq_kind hk79 hk85] at hr
      unfold atoiV at k1
      rcases numEnds (Lib.atoiAll tw) with ⟨n, hn⟩ | hn | hn
      · rw [hn] at k1
        repeat' (first | refine w_seq ?_ | refine w_seqN ?_ | refine w_seqR ?_ | refine w_blkX ?_ | refine w_blkR ?_ | refine w_ret ?_ | refine w_ops ?_ | ((refine i_cond ?_); refine w_condT rfl ?_) | ((refine i_nil ?_); first | refine w_end2 rfl rfl ?_ | refine w_end7 rfl rfl rfl rfl rfl rfl rfl ?_) | ((refine i_cons ?_); first | refine k_ssubE rfl rfl rfl (by omega) hsub ?_ | (refine k_call rfl k1 ?_; rintro v h1 ⟨rfl, rfl⟩) | refine k_skip rfl ?_ | refine k_want rfl ?_ | refine k_mv rfl ?_ | refine k_pickT rfl rfl ?_ | refine k_neqT rfl rfl (by omega) ?_ | refine k_ok rfl rfl ?_))
        exact w_roundR ⟨rfl, hr.symm, t, A, acc, q, hA, ha0⟩
      · rw [hn] at k1
        repeat' (first | refine w_seq ?_ | refine w_seqN ?_ | refine w_seqR ?_ | refine w_blkX ?_ | refine w_blkR ?_ | refine w_ret ?_ | refine w_ops ?_ | ((refine i_cond ?_); refine w_condT rfl ?_) | ((refine i_nil ?_); first | refine w_end2 rfl rfl ?_ | refine w_end7 rfl rfl rfl rfl rfl rfl rfl ?_) | ((refine i_cons ?_); first | refine k_ssubE rfl rfl rfl (by omega) hsub ?_ | (refine k_call rfl k1 ?_; rintro v h1 ⟨rfl, rfl⟩) | refine k_skip rfl ?_ | refine k_want rfl ?_ | refine k_mv rfl ?_ | refine k_pickT rfl rfl ?_ | refine k_neqT rfl rfl (by omega) ?_ | refine k_ok rfl rfl ?_))
        exact w_roundR ⟨rfl, hr.symm, t, A, acc, q, hA, ha0⟩
      · rw [hn] at k1
        simp only [Lib.atoiAll] at k1
        repeat' (first | refine w_seq ?_ | refine w_seqN ?_ | refine w_seqR ?_ | refine w_blkX ?_ | refine w_blkR ?_ | refine w_ret ?_ | refine w_ops ?_ | ((refine i_cond ?_); refine w_condT rfl ?_) | ((refine i_nil ?_); first | refine w_end2 rfl rfl ?_ | refine w_end7 rfl rfl rfl rfl rfl rfl rfl ?_) | ((refine i_cons ?_); first | refine k_ssubE rfl rfl rfl (by omega) hsub ?_ | (refine k_call rfl k1 ?_; rintro v h1 ⟨rfl, rfl⟩) | refine k_skip rfl ?_ | refine k_want rfl ?_ | refine k_mv rfl ?_ | refine k_pickT rfl rfl ?_ | refine k_neqT rfl rfl (by omega) ?_ | refine k_ok rfl rfl ?_))
        exact w_roundR ⟨rfl, hr.symm, t, A, acc, q, hA, ha0⟩
  · have hie : i = s.length := by omega
    subst hie
    have hd : s.drop s.length = [] := List.drop_length
    rw [hd] at hr
    have hr2 : R = some (acc, A) := by
      rw [← hr]; cases f <;> rfl
    repeat' (first | refine w_seq ?_ | refine w_seqN ?_ | refine w_seqX ?_ | refine w_exit ?_ | refine w_ops ?_ | ((refine i_cond ?_); refine w_condF rfl ?_) | ((refine i_nil ?_); refine w_end5 rfl rfl rfl rfl rfl ?_) | ((refine i_cons ?_); first | refine k_slen rfl ?_ | refine k_mv rfl ?_ | refine k_lssF rfl rfl (by omega) ?_))
    exact w_roundX ⟨rfl, t, A, acc, _, _, _, _, hr2, q, hA, ha0, hac, rfl⟩
end Go.Proofs.YtjmapbmdfbdomaaDoor
