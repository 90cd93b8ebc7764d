/- Contracts for WordSubstitutes: Mul of two, the reference's Reduce and Inverse. -/
import Derived.Test.YtgmfjhmphiiifaaDoorSB7
namespace Go.Proofs.YtgmfjhmphiiifaaDoor
open Go.Ab
set_option linter.unusedVariables false
set_option maxRecDepth 20000
attribute [local irreducible] wOps wA wSeq wBlk wRound wOpsD
variable {HK : FuncId → Option Hook}

/-- A word of letters within 1000000. -/
def Mid (n : Nat) (xs : List Int) : Prop := xs.length ≤ n ∧ ∀ x ∈ xs, -1000000 ≤ x ∧ x ≤ 1000000
theorem Mid.of {xs : List Int} (h : Word xs) : Mid 60 xs := ⟨h.1, fun x hx => by have := h.2 x hx; unfold Let at this; omega⟩
theorem Mid.app {n m : Nat} {xs ys : List Int} (h : Mid n xs) (k : Mid m ys) : Mid (n + m) (xs ++ ys) :=
  ⟨by have := h.1; have := k.1; simp; omega, fun x hx => (List.mem_append.1 hx).elim (h.2 x) (k.2 x)⟩
theorem Mid.rn {n : Nat} {xs : List Int} (h : Mid n xs) : Mid n (rn xs) := ⟨by rw [rn_len]; exact h.1, fun x hx => by have := h.2 _ (mem_rn.1 hx); omega⟩
theorem mem_pushL : ∀ (ls vs : List Int) (x : Int), x ∈ pushL vs ls → x ∈ vs ∨ x ∈ ls
  | [], vs, x, h => .inl h
  | y :: ls, vs, x, h => by
    rcases mem_pushL ls (push1 vs y) x h with h | h
    · unfold push1 at h
      split at h
      · exact .inl (List.dropLast_subset _ h)
      · rcases List.mem_append.1 h with h | h
        · exact .inl h
        · simp at h; subst h; exact .inr (by simp)
    · exact .inr (by simp [h])
theorem Mid.red {n : Nat} {xs : List Int} (h : Mid n xs) : Mid n (red xs) := ⟨Nat.le_trans (red_len xs) h.1, fun x hx => by
  rcases mem_pushL xs [] x hx with h' | h'
  · simp at h'
  · exact h.2 x h'⟩
theorem Mid.big {n : Nat} {xs : List Int} (h : Mid n xs) : ∀ x ∈ xs, -4611686018427387904 ≤ x ∧ x ≤ 4611686018427387904 := fun x hx => by have := h.2 x hx; omega

theorem mulC (hk1 : HK 23 = none) (hk2 : HK 32 = none) {h h1 : Heap} {s : SV} {ts : List SV} {ws : List (List Int)} (he : Ext h h1) (hs : IsSl h1 s 1 ts.length ts) (hw : Words h1 ts ws) (hl : ws.length ≤ 1000) (hm : ∀ w ∈ ws, Mid 10000 w) {r : List Int} (hr : red ws.flatten = r) :
    ∃ v h', Cal FT HK 23 [.sc s] h1 v h' ∧ ∃ s', v = .sc s' ∧ IsInts h' s' r ∧ Ext h h' := by
  obtain ⟨v, h', k1, s', k2, k3, k4⟩ := call23 (HK := HK) hk1 hk2 h1 s ts ws hs hw hl (fun w hw' => by have := (hm w hw').1; omega) (fun w hw' => (hm w hw').big)
  rw [hr] at k3
  exact ⟨v, h', k1, s', k2, Own.ids k3, he.trans k4⟩
theorem mul2 (hk1 : HK 23 = none) (hk2 : HK 32 = none) {h : Heap} {s t : SV} {xs ys : List Int} (hs : IsInts h s xs) (ht : IsInts h t ys) (hx : Mid 10000 xs) (hy : Mid 10000 ys) {r : List Int} (hr : red (xs ++ ys) = r) :
    ∃ v h', Cal FT HK 23 [.sc (.slc h.length 0 2 (some 2))] (h ++ [.cells [s, t] true 1]) v h' ∧ ∃ s', v = .sc s' ∧ IsInts h' s' r ∧ Ext h h' := by
  have he : Ext h (h ++ [.cells [s, t] true 1]) := ⟨_, rfl⟩
  refine mulC hk1 hk2 (ts := [s, t]) (ws := [xs, ys]) he (.inr ⟨h.length, 0, some 2, _, rfl, by rw [List.getElem?_append_right (Nat.le_refl _), Nat.sub_self]; rfl, rfl, fun h' => by simp at h', fun _ => ⟨[s, t], true, rfl, rfl⟩⟩) ⟨rfl, ?_⟩ (by simp) (by simp [hx, hy]) (by simpa using hr)
  intro i u w h1 h2
  match i with
  | 0 => simp at h1 h2; subst h1 h2; exact IsSl.ext hs he
  | 1 => simp at h1 h2; subst h1 h2; exact IsSl.ext ht he
  | i + 2 => simp at h1
theorem Mid.mono {n m : Nat} {xs : List Int} (h : Mid n xs) (hnm : n ≤ m) : Mid m xs := ⟨Nat.le_trans h.1 hnm, h.2⟩
/-- No letter up to i stands before its inverse. -/
def NoAdj (st : List Int) (i : Nat) : Prop := ∀ j, j < i → ∀ p q, st[j]? = some p → st[j + 1]? = some q → p ≠ -q

theorem red_cut {st : List Int} {i : Nat} {p q : Int} (hp : st[i]? = some p) (hq : st[i + 1]? = some q) (h : p = -q) : red (st.take i ++ st.drop (i + 2)) = red st := by
  have h1 := red_insert (st.take i) (st.drop (i + 2)) p
  rw [← h1]
  congr 1
  have e1 : st = st.take i ++ st.drop i := (List.take_append_drop i st).symm
  obtain ⟨l1, k1⟩ := List.getElem?_eq_some_iff.1 hp
  obtain ⟨l2, k2⟩ := List.getElem?_eq_some_iff.1 hq
  have e2 : st.drop i = p :: q :: st.drop (i + 2) := by rw [List.drop_eq_getElem_cons l1, List.drop_eq_getElem_cons l2, k1, k2]
  have e3 : -p = q := by omega
  rw [e3]
  conv => rhs; rw [e1, e2]
  simp

theorem noAdj_red : ∀ (st : List Int), NoAdj st st.length → red st = st := by
  intro st h
  have hr : RedR st.reverse := by
    have key : ∀ u : List Int, (∀ (j : Nat) (p q : Int), u[j]? = some p → u[j + 1]? = some q → p ≠ -q) → RedR u := by
      intro u
      induction u with
      | nil => intro _; exact redR_nil
      | cons a t ih =>
        intro hu
        cases t with
        | nil => trivial
        | cons b t => exact ⟨hu 0 a b rfl rfl, ih fun j p q h1 h2 => hu (j + 1) p q h1 h2⟩
    refine key _ fun j p q h1 h2 => ?_
    have hlt := (List.getElem?_eq_some_iff.1 h2).1
    simp at hlt
    rw [List.getElem?_reverse (by omega)] at h1 h2
    have := h (st.length - 1 - (j + 1)) (by omega) q p h2 (by rw [show st.length - 1 - (j + 1) + 1 = st.length - 1 - j by omega]; exact h1)
    omega
  have := fold_self hr
  rw [List.reverse_reverse] at this
  rw [red_rev, this, List.reverse_reverse]

def lenSV : SV → Nat
  | .slc _ _ n _ => n
  | _ => 0
def mu18 (E : Env) (_ : Heap) : Nat := match E.get 3, E.get 4 with
  | some (.sc s), some (.sc (.int _ i)) => lenSV s * 100000 + (lenSV s - i.toNat)
  | _, _ => 0
theorem lenSV_own {h0 h : Heap} {s : SV} {vs : List SV} (ho : Ab.Own h0 h s vs) : lenSV s = vs.length := by
  rcases ho with ⟨rfl, rfl⟩ | ⟨id, cap, cs, rfl, _⟩ <;> rfl

def I18 (h0 : Heap) (xs : List Int) (E : Env) (h : Heap) : Prop := ∃ (st : List Int) (s : SV) (i : Nat), st.length ≤ xs.length ∧ i ≤ st.length ∧ red st = red xs ∧ NoAdj st i ∧ (∀ x ∈ st, x ∈ xs) ∧ Ab.Own h0 h s (ints st) ∧ Ext h0 h ∧
  E = [(3, some (.sc s)), (4, some (.sc (.int .i64 i)))]
def R18 (h0 : Heap) (xs : List Int) (ex : Ex) (E : Env) (h : Heap) : Prop := ex = .ex 0 ∧ ∃ s, Ab.Own h0 h s (ints (red xs)) ∧ Ext h0 h ∧ E.get 3 = some (.sc s)

theorem round18 (h0 : Heap) (xs : List Int) (hl : xs.length ≤ 5000) (hr : ∀ x ∈ xs, -1000000 ≤ x ∧ x ≤ 1000000) (E : Env) (h : Heap) (hI : I18 h0 xs E h) :
    wA FT HK b18L0 (E.keep [3, 4]) h (wRound (I18 h0 xs) mu18 (mu18 E h) (R18 h0 xs)) := by
  obtain ⟨st, s, i, hsl, hi, hrd, hna, hmem, ho, he, rfl⟩ := hI
  have hln := (Ab.Own.len ho)
  rw [List.length_map] at hln
  have hsv := lenSV_own ho
  rw [List.length_map] at hsv
  by_cases hlt : i + 1 < st.length
  · obtain ⟨p, hp⟩ : ∃ p, st[i]? = some p := ⟨_, List.getElem?_eq_getElem (by omega)⟩
    obtain ⟨q, hq⟩ : ∃ q, st[i + 1]? = some q := ⟨_, List.getElem?_eq_getElem (by omega)⟩
    have hpr := hr p (hmem p (List.mem_of_getElem? hp))
    have hqr := hr q (hmem q (List.mem_of_getElem? hq))
    obtain ⟨id, off, cap, rfl, hr1⟩ := IsInts.at (Ab.Own.ids ho) hp
    obtain ⟨id2, off2, cap2, he2, hr2⟩ := IsInts.at (Ab.Own.ids ho) hq
    obtain ⟨rfl, rfl, -, rfl⟩ := SV.slc.inj he2
    have hj : ((i : Int) + 1).toNat = i + 1 := by omega
    rw [← hj] at hr2
    by_cases hpq : p = -q
    · have e1 : Ext h0 (h ++ [Blk.cells [] true 1]) := he.app _
      have ho1 : Ab.Own h0 (h ++ [Blk.cells [] true 1]) (.slc h.length 0 0 (some 0)) [] := Ab.Own.weaken (Ab.Own.lit0 h) he.len
      have hi1 : IsInts (h ++ [Blk.cells [] true 1]) _ st := IsSl.ext (Ab.Own.ids ho) ⟨_, rfl⟩
      obtain ⟨p1, hp1, hp2, -⟩ := IsInts.part (l := 0) (u := i) hi1 (by omega) (by omega)
      have hbd : ∀ n : Nat, n ≤ 100000 → n * (8 + 1) ≤ bigN := fun n hn => by simp [bigN]; omega
      repeat' (first | refine w_seq ?_ | refine w_seqN ?_ | refine w_seqX ?_ | refine w_seqR ?_ | refine w_blk ?_ | refine w_blkN ?_ | refine w_blkX ?_ | refine w_blkR ?_ | refine w_skip ?_ | refine w_ret ?_ | refine w_exit ?_ | refine w_ops ?_ | refine w_opsD ?_ | refine d_one ?_ | refine d_nil ?_ | (refine w_blkY ?_ ?_; rfl) | ((refine i_cond ?_); first | refine w_condT rfl ?_ | refine w_condF rfl ?_) | ((refine i_nil ?_); first | refine d_same ?_ | refine d_ord ?_ | refine d_ext ⟨_, rfl⟩ ?_ | refine d_ext (extA _ _ _) ?_ | refine d_ext (by assumption) ?_ | refine w_end0 ?_ | refine w_end1 rfl ?_ | refine w_end2 rfl rfl ?_ | refine w_end3 rfl rfl rfl ?_ | refine w_end4 rfl rfl rfl rfl ?_ | refine w_end5 rfl rfl rfl rfl rfl ?_ | refine w_end6 rfl rfl rfl rfl rfl rfl ?_ | refine w_end7 rfl rfl rfl rfl rfl rfl rfl ?_ | refine w_end8 rfl rfl rfl rfl rfl rfl rfl rfl ?_ | refine w_end9 rfl rfl rfl rfl rfl rfl rfl rfl rfl ?_ | refine w_end10 rfl rfl rfl rfl rfl rfl rfl rfl rfl rfl ?_ | refine w_end11 rfl rfl rfl rfl rfl rfl rfl rfl rfl rfl rfl ?_ | refine w_end12 rfl rfl rfl rfl rfl rfl rfl rfl rfl rfl rfl rfl ?_ | refine w_end13 rfl rfl rfl rfl rfl rfl rfl rfl rfl rfl rfl rfl rfl ?_ | refine w_end14 rfl rfl rfl rfl rfl rfl rfl rfl rfl rfl rfl rfl rfl rfl ?_ | refine w_end15 rfl rfl rfl rfl rfl rfl rfl rfl rfl rfl rfl rfl rfl rfl rfl ?_ | refine w_end16 rfl rfl rfl rfl rfl rfl rfl rfl rfl rfl rfl rfl rfl rfl rfl rfl ?_) | ((refine i_cons ?_); first | refine k_len rfl hln ?_ | refine k_idxA rfl rfl (by omega) ?_ | refine k_ld rfl hr1 ?_ | refine k_ld rfl hr2 ?_ | refine k_to rfl hln rfl (by omega) hp1 ?_ | (refine k_app0 e1 ho1 rfl rfl (IsInts.src hp2) (hbd _ (by simp; omega)) ?_; intro s1 h2 q1 q2 q3) | refine k_skip rfl ?_ | refine k_skipU rfl ?_ | refine k_want rfl ?_ | refine k_mv rfl ?_ | refine k_pickT rfl rfl ?_ | refine k_pickF rfl rfl ?_ | refine k_notT rfl ?_ | refine k_notF rfl ?_ | refine k_add rfl rfl (by omega) ?_ | refine k_sub rfl rfl (by omega) ?_ | refine k_mul rfl rfl (by omega) ?_ | refine k_neg rfl (by omega) ?_ | refine k_quo rfl rfl (by omega) ?_ | refine k_rem rfl rfl (by omega) ?_ | refine k_conv rfl (by omega) ?_ | refine k_max rfl rfl ?_ | refine k_min rfl rfl ?_ | refine k_lssT rfl rfl (by omega) ?_ | refine k_lssF rfl rfl (by omega) ?_ | refine k_lss rfl rfl (fun hc => ?_) (fun hc => ?_) | refine k_leqT rfl rfl (by omega) ?_ | refine k_leqF rfl rfl (by omega) ?_ | refine k_leq rfl rfl (fun hc => ?_) (fun hc => ?_) | refine k_gtrT rfl rfl (by omega) ?_ | refine k_gtrF rfl rfl (by omega) ?_ | refine k_gtr rfl rfl (fun hc => ?_) (fun hc => ?_) | refine k_geqT rfl rfl (by omega) ?_ | refine k_geqF rfl rfl (by omega) ?_ | refine k_geq rfl rfl (fun hc => ?_) (fun hc => ?_) | refine k_eqlT rfl rfl (by omega) ?_ | refine k_eqlF rfl rfl (by omega) ?_ | refine k_eql rfl rfl (fun hc => ?_) (fun hc => ?_) | refine k_neqT rfl rfl (by omega) ?_ | refine k_neqF rfl rfl (by omega) ?_ | refine k_neq rfl rfl (fun hc => ?_) (fun hc => ?_) | refine k_len rfl rfl ?_ | refine k_ok rfl rfl ?_))
      have hs2 : IsInts h2 _ st := IsSl.ext hi1 q2
      obtain ⟨p2, hp3, hp4, -⟩ := IsInts.part (l := i + 2) (u := st.length) hs2 (by omega) (by omega)
      have hj2 : ((i : Int) + 2).toNat = i + 2 := by omega
      rw [← hj2] at hp3
      repeat' (first | refine w_seq ?_ | refine w_seqN ?_ | refine w_seqX ?_ | refine w_seqR ?_ | refine w_blk ?_ | refine w_blkN ?_ | refine w_blkX ?_ | refine w_blkR ?_ | refine w_skip ?_ | refine w_ret ?_ | refine w_exit ?_ | refine w_ops ?_ | refine w_opsD ?_ | refine d_one ?_ | refine d_nil ?_ | (refine w_blkY ?_ ?_; rfl) | ((refine i_cond ?_); first | refine w_condT rfl ?_ | refine w_condF rfl ?_) | ((refine i_nil ?_); first | refine d_same ?_ | refine d_ord ?_ | refine d_ext ⟨_, rfl⟩ ?_ | refine d_ext (extA _ _ _) ?_ | refine d_ext (by assumption) ?_ | refine w_end0 ?_ | refine w_end1 rfl ?_ | refine w_end2 rfl rfl ?_ | refine w_end3 rfl rfl rfl ?_ | refine w_end4 rfl rfl rfl rfl ?_ | refine w_end5 rfl rfl rfl rfl rfl ?_ | refine w_end6 rfl rfl rfl rfl rfl rfl ?_ | refine w_end7 rfl rfl rfl rfl rfl rfl rfl ?_ | refine w_end8 rfl rfl rfl rfl rfl rfl rfl rfl ?_ | refine w_end9 rfl rfl rfl rfl rfl rfl rfl rfl rfl ?_ | refine w_end10 rfl rfl rfl rfl rfl rfl rfl rfl rfl rfl ?_ | refine w_end11 rfl rfl rfl rfl rfl rfl rfl rfl rfl rfl rfl ?_ | refine w_end12 rfl rfl rfl rfl rfl rfl rfl rfl rfl rfl rfl rfl ?_ | refine w_end13 rfl rfl rfl rfl rfl rfl rfl rfl rfl rfl rfl rfl rfl ?_ | refine w_end14 rfl rfl rfl rfl rfl rfl rfl rfl rfl rfl rfl rfl rfl rfl ?_ | refine w_end15 rfl rfl rfl rfl rfl rfl rfl rfl rfl rfl rfl rfl rfl rfl rfl ?_ | refine w_end16 rfl rfl rfl rfl rfl rfl rfl rfl rfl rfl rfl rfl rfl rfl rfl rfl ?_) | ((refine i_cons ?_); first | refine k_from rfl hln rfl (by omega) hp3 ?_ | (refine k_app (e1.trans q2) q1 rfl rfl (IsInts.src hp4) (hbd _ (by simp; omega)) ?_; intro s3 h4 t1 t2 t3 t4) | refine k_skip rfl ?_ | refine k_skipU rfl ?_ | refine k_want rfl ?_ | refine k_mv rfl ?_ | refine k_pickT rfl rfl ?_ | refine k_pickF rfl rfl ?_ | refine k_notT rfl ?_ | refine k_notF rfl ?_ | refine k_add rfl rfl (by omega) ?_ | refine k_sub rfl rfl (by omega) ?_ | refine k_mul rfl rfl (by omega) ?_ | refine k_neg rfl (by omega) ?_ | refine k_quo rfl rfl (by omega) ?_ | refine k_rem rfl rfl (by omega) ?_ | refine k_conv rfl (by omega) ?_ | refine k_max rfl rfl ?_ | refine k_min rfl rfl ?_ | refine k_lssT rfl rfl (by omega) ?_ | refine k_lssF rfl rfl (by omega) ?_ | refine k_lss rfl rfl (fun hc => ?_) (fun hc => ?_) | refine k_leqT rfl rfl (by omega) ?_ | refine k_leqF rfl rfl (by omega) ?_ | refine k_leq rfl rfl (fun hc => ?_) (fun hc => ?_) | refine k_gtrT rfl rfl (by omega) ?_ | refine k_gtrF rfl rfl (by omega) ?_ | refine k_gtr rfl rfl (fun hc => ?_) (fun hc => ?_) | refine k_geqT rfl rfl (by omega) ?_ | refine k_geqF rfl rfl (by omega) ?_ | refine k_geq rfl rfl (fun hc => ?_) (fun hc => ?_) | refine k_eqlT rfl rfl (by omega) ?_ | refine k_eqlF rfl rfl (by omega) ?_ | refine k_eql rfl rfl (fun hc => ?_) (fun hc => ?_) | refine k_neqT rfl rfl (by omega) ?_ | refine k_neqF rfl rfl (by omega) ?_ | refine k_neq rfl rfl (fun hc => ?_) (fun hc => ?_) | refine k_len rfl rfl ?_ | refine k_ok rfl rfl ?_))
      have hnew : ints (st.take i ++ st.drop (i + 2)) = List.map (SV.int .i64) (List.take (i - 0) (List.drop 0 st)) ++ List.map (SV.int .i64) (List.take (st.length - (i + 2)) (List.drop (i + 2) st)) := by
        simp [ints, List.take_of_length_le]
      rw [← hnew] at t1
      have hlv := lenSV_own t1
      have hl2 : (st.take i ++ st.drop (i + 2)).length + 2 = st.length := by simp; omega
      rw [List.length_map] at hlv
      refine w_roundN ⟨st.take i ++ st.drop (i + 2), s3, 0, by omega, Nat.zero_le _, by rw [red_cut hp hq hpq]; exact hrd, fun j hj => by omega, fun x hx => ?_, t1, t2, rfl⟩ ?_
      · rcases List.mem_append.1 hx with hx | hx
        · exact hmem x (List.mem_of_mem_take hx)
        · exact hmem x (List.mem_of_mem_drop hx)
      · show lenSV s3 * 100000 + (lenSV s3 - (0 : Int).toNat) < lenSV (.slc id off st.length cap) * 100000 + (lenSV (.slc id off st.length cap) - (i : Int).toNat)
        rw [hlv, hsv]
        simp only [Int.toNat_zero, Int.toNat_natCast]
        omega
    · repeat' (first | refine w_seq ?_ | refine w_seqN ?_ | refine w_seqX ?_ | refine w_seqR ?_ | refine w_blk ?_ | refine w_blkN ?_ | refine w_blkX ?_ | refine w_blkR ?_ | refine w_skip ?_ | refine w_ret ?_ | refine w_exit ?_ | refine w_ops ?_ | refine w_opsD ?_ | refine d_one ?_ | refine d_nil ?_ | (refine w_blkY ?_ ?_; rfl) | ((refine i_cond ?_); first | refine w_condT rfl ?_ | refine w_condF rfl ?_) | ((refine i_nil ?_); first | refine d_same ?_ | refine d_ord ?_ | refine d_ext ⟨_, rfl⟩ ?_ | refine d_ext (extA _ _ _) ?_ | refine d_ext (by assumption) ?_ | refine w_end0 ?_ | refine w_end1 rfl ?_ | refine w_end2 rfl rfl ?_ | refine w_end3 rfl rfl rfl ?_ | refine w_end4 rfl rfl rfl rfl ?_ | refine w_end5 rfl rfl rfl rfl rfl ?_ | refine w_end6 rfl rfl rfl rfl rfl rfl ?_ | refine w_end7 rfl rfl rfl rfl rfl rfl rfl ?_ | refine w_end8 rfl rfl rfl rfl rfl rfl rfl rfl ?_ | refine w_end9 rfl rfl rfl rfl rfl rfl rfl rfl rfl ?_ | refine w_end10 rfl rfl rfl rfl rfl rfl rfl rfl rfl rfl ?_ | refine w_end11 rfl rfl rfl rfl rfl rfl rfl rfl rfl rfl rfl ?_ | refine w_end12 rfl rfl rfl rfl rfl rfl rfl rfl rfl rfl rfl rfl ?_ | refine w_end13 rfl rfl rfl rfl rfl rfl rfl rfl rfl rfl rfl rfl rfl ?_ | refine w_end14 rfl rfl rfl rfl rfl rfl rfl rfl rfl rfl rfl rfl rfl rfl ?_ | refine w_end15 rfl rfl rfl rfl rfl rfl rfl rfl rfl rfl rfl rfl rfl rfl rfl ?_ | refine w_end16 rfl rfl rfl rfl rfl rfl rfl rfl rfl rfl rfl rfl rfl rfl rfl rfl ?_) | ((refine i_cons ?_); first | refine k_len rfl hln ?_ | refine k_idxA rfl rfl (by omega) ?_ | refine k_ld rfl hr1 ?_ | refine k_ld rfl hr2 ?_ | refine k_skip rfl ?_ | refine k_skipU rfl ?_ | refine k_want rfl ?_ | refine k_mv rfl ?_ | refine k_pickT rfl rfl ?_ | refine k_pickF rfl rfl ?_ | refine k_notT rfl ?_ | refine k_notF rfl ?_ | refine k_add rfl rfl (by omega) ?_ | refine k_sub rfl rfl (by omega) ?_ | refine k_mul rfl rfl (by omega) ?_ | refine k_neg rfl (by omega) ?_ | refine k_quo rfl rfl (by omega) ?_ | refine k_rem rfl rfl (by omega) ?_ | refine k_conv rfl (by omega) ?_ | refine k_max rfl rfl ?_ | refine k_min rfl rfl ?_ | refine k_lssT rfl rfl (by omega) ?_ | refine k_lssF rfl rfl (by omega) ?_ | refine k_lss rfl rfl (fun hc => ?_) (fun hc => ?_) | refine k_leqT rfl rfl (by omega) ?_ | refine k_leqF rfl rfl (by omega) ?_ | refine k_leq rfl rfl (fun hc => ?_) (fun hc => ?_) | refine k_gtrT rfl rfl (by omega) ?_ | refine k_gtrF rfl rfl (by omega) ?_ | refine k_gtr rfl rfl (fun hc => ?_) (fun hc => ?_) | refine k_geqT rfl rfl (by omega) ?_ | refine k_geqF rfl rfl (by omega) ?_ | refine k_geq rfl rfl (fun hc => ?_) (fun hc => ?_) | refine k_eqlT rfl rfl (by omega) ?_ | refine k_eqlF rfl rfl (by omega) ?_ | refine k_eql rfl rfl (fun hc => ?_) (fun hc => ?_) | refine k_neqT rfl rfl (by omega) ?_ | refine k_neqF rfl rfl (by omega) ?_ | refine k_neq rfl rfl (fun hc => ?_) (fun hc => ?_) | refine k_len rfl rfl ?_ | refine k_ok rfl rfl ?_))
      refine w_roundN ⟨st, _, i + 1, hsl, by omega, hrd, ?_, hmem, ho, he, rfl⟩ (by simp [mu18, Env.get, lenSV]; omega)
      intro j hj a b ha hb
      by_cases hji : j = i
      · subst hji
        rw [hp] at ha
        rw [hq] at hb
        cases ha
        cases hb
        exact hpq
      · exact hna j (by omega) a b ha hb
  · repeat' (first | refine w_seq ?_ | refine w_seqN ?_ | refine w_seqX ?_ | refine w_seqR ?_ | refine w_blk ?_ | refine w_blkN ?_ | refine w_blkX ?_ | refine w_blkR ?_ | refine w_skip ?_ | refine w_ret ?_ | refine w_exit ?_ | refine w_ops ?_ | refine w_opsD ?_ | refine d_one ?_ | refine d_nil ?_ | (refine w_blkY ?_ ?_; rfl) | ((refine i_cond ?_); first | refine w_condT rfl ?_ | refine w_condF rfl ?_) | ((refine i_nil ?_); first | refine d_same ?_ | refine d_ord ?_ | refine d_ext ⟨_, rfl⟩ ?_ | refine d_ext (extA _ _ _) ?_ | refine d_ext (by assumption) ?_ | refine w_end0 ?_ | refine w_end1 rfl ?_ | refine w_end2 rfl rfl ?_ | refine w_end3 rfl rfl rfl ?_ | refine w_end4 rfl rfl rfl rfl ?_ | refine w_end5 rfl rfl rfl rfl rfl ?_ | refine w_end6 rfl rfl rfl rfl rfl rfl ?_ | refine w_end7 rfl rfl rfl rfl rfl rfl rfl ?_ | refine w_end8 rfl rfl rfl rfl rfl rfl rfl rfl ?_ | refine w_end9 rfl rfl rfl rfl rfl rfl rfl rfl rfl ?_ | refine w_end10 rfl rfl rfl rfl rfl rfl rfl rfl rfl rfl ?_ | refine w_end11 rfl rfl rfl rfl rfl rfl rfl rfl rfl rfl rfl ?_ | refine w_end12 rfl rfl rfl rfl rfl rfl rfl rfl rfl rfl rfl rfl ?_ | refine w_end13 rfl rfl rfl rfl rfl rfl rfl rfl rfl rfl rfl rfl rfl ?_ | refine w_end14 rfl rfl rfl rfl rfl rfl rfl rfl rfl rfl rfl rfl rfl rfl ?_ | refine w_end15 rfl rfl rfl rfl rfl rfl rfl rfl rfl rfl rfl rfl rfl rfl rfl ?_ | refine w_end16 rfl rfl rfl rfl rfl rfl rfl rfl rfl rfl rfl rfl rfl rfl rfl rfl ?_) | ((refine i_cons ?_); first | refine k_len rfl hln ?_ | refine k_skip rfl ?_ | refine k_skipU rfl ?_ | refine k_want rfl ?_ | refine k_mv rfl ?_ | refine k_pickT rfl rfl ?_ | refine k_pickF rfl rfl ?_ | refine k_notT rfl ?_ | refine k_notF rfl ?_ | refine k_add rfl rfl (by omega) ?_ | refine k_sub rfl rfl (by omega) ?_ | refine k_mul rfl rfl (by omega) ?_ | refine k_neg rfl (by omega) ?_ | refine k_quo rfl rfl (by omega) ?_ | refine k_rem rfl rfl (by omega) ?_ | refine k_conv rfl (by omega) ?_ | refine k_max rfl rfl ?_ | refine k_min rfl rfl ?_ | refine k_lssT rfl rfl (by omega) ?_ | refine k_lssF rfl rfl (by omega) ?_ | refine k_lss rfl rfl (fun hc => ?_) (fun hc => ?_) | refine k_leqT rfl rfl (by omega) ?_ | refine k_leqF rfl rfl (by omega) ?_ | refine k_leq rfl rfl (fun hc => ?_) (fun hc => ?_) | refine k_gtrT rfl rfl (by omega) ?_ | refine k_gtrF rfl rfl (by omega) ?_ | refine k_gtr rfl rfl (fun hc => ?_) (fun hc => ?_) | refine k_geqT rfl rfl (by omega) ?_ | refine k_geqF rfl rfl (by omega) ?_ | refine k_geq rfl rfl (fun hc => ?_) (fun hc => ?_) | refine k_eqlT rfl rfl (by omega) ?_ | refine k_eqlF rfl rfl (by omega) ?_ | refine k_eql rfl rfl (fun hc => ?_) (fun hc => ?_) | refine k_neqT rfl rfl (by omega) ?_ | refine k_neqF rfl rfl (by omega) ?_ | refine k_neq rfl rfl (fun hc => ?_) (fun hc => ?_) | refine k_len rfl rfl ?_ | refine k_ok rfl rfl ?_))
    refine w_roundX ⟨rfl, s, ?_, he, rfl⟩
    rw [← hrd, noAdj_red st ?_]
    · exact ho
    · intro j hj a b ha hb
      exact hna j (by have := (List.getElem?_eq_some_iff.1 hb).1; omega) a b ha hb

theorem call18 (hk : HK 18 = none) (h0 : Heap) (w : SV) (xs : List Int) (hw : IsInts h0 w xs) (hl : xs.length ≤ 5000) (hr : ∀ x ∈ xs, -1000000 ≤ x ∧ x ≤ 1000000) :
    ∃ v h', Cal FT HK 18 [.sc w] h0 v h' ∧ ∃ s', v = .sc s' ∧ IsInts h' s' (red xs) ∧ Ext h0 h' := by
  refine Cal.of (F := a18) hk rfl rfl ?_
  have hln := IsSl.len hw
  have e1 : Ext h0 (h0 ++ [Blk.cells [] true 1]) := ⟨_, rfl⟩
  have hbd : (ints xs).length * (8 + 1) ≤ bigN := by simp [bigN]; omega
  repeat' (first | refine w_seq ?_ | refine w_seqN ?_ | refine w_seqX ?_ | refine w_seqR ?_ | refine w_blk ?_ | refine w_blkN ?_ | refine w_blkX ?_ | refine w_blkR ?_ | refine w_skip ?_ | refine w_ret ?_ | refine w_exit ?_ | refine w_ops ?_ | refine w_opsD ?_ | refine d_one ?_ | refine d_nil ?_ | (refine w_blkY ?_ ?_; rfl) | ((refine i_cond ?_); first | refine w_condT rfl ?_ | refine w_condF rfl ?_) | ((refine i_nil ?_); first | refine d_same ?_ | refine d_ord ?_ | refine d_ext ⟨_, rfl⟩ ?_ | refine d_ext (extA _ _ _) ?_ | refine d_ext (by assumption) ?_ | refine w_end0 ?_ | refine w_end1 rfl ?_ | refine w_end2 rfl rfl ?_ | refine w_end3 rfl rfl rfl ?_ | refine w_end4 rfl rfl rfl rfl ?_ | refine w_end5 rfl rfl rfl rfl rfl ?_ | refine w_end6 rfl rfl rfl rfl rfl rfl ?_ | refine w_end7 rfl rfl rfl rfl rfl rfl rfl ?_ | refine w_end8 rfl rfl rfl rfl rfl rfl rfl rfl ?_ | refine w_end9 rfl rfl rfl rfl rfl rfl rfl rfl rfl ?_ | refine w_end10 rfl rfl rfl rfl rfl rfl rfl rfl rfl rfl ?_ | refine w_end11 rfl rfl rfl rfl rfl rfl rfl rfl rfl rfl rfl ?_ | refine w_end12 rfl rfl rfl rfl rfl rfl rfl rfl rfl rfl rfl rfl ?_ | refine w_end13 rfl rfl rfl rfl rfl rfl rfl rfl rfl rfl rfl rfl rfl ?_ | refine w_end14 rfl rfl rfl rfl rfl rfl rfl rfl rfl rfl rfl rfl rfl rfl ?_ | refine w_end15 rfl rfl rfl rfl rfl rfl rfl rfl rfl rfl rfl rfl rfl rfl rfl ?_ | refine w_end16 rfl rfl rfl rfl rfl rfl rfl rfl rfl rfl rfl rfl rfl rfl rfl rfl ?_) | ((refine i_cons ?_); first | (refine k_app0 e1 (Ab.Own.lit0 h0) rfl rfl (IsInts.src (IsSl.ext hw e1)) hbd ?_; intro s1 h2 q1 q2 q3) | refine k_skip rfl ?_ | refine k_skipU rfl ?_ | refine k_want rfl ?_ | refine k_mv rfl ?_ | refine k_pickT rfl rfl ?_ | refine k_pickF rfl rfl ?_ | refine k_notT rfl ?_ | refine k_notF rfl ?_ | refine k_add rfl rfl (by omega) ?_ | refine k_sub rfl rfl (by omega) ?_ | refine k_mul rfl rfl (by omega) ?_ | refine k_neg rfl (by omega) ?_ | refine k_quo rfl rfl (by omega) ?_ | refine k_rem rfl rfl (by omega) ?_ | refine k_conv rfl (by omega) ?_ | refine k_max rfl rfl ?_ | refine k_min rfl rfl ?_ | refine k_lssT rfl rfl (by omega) ?_ | refine k_lssF rfl rfl (by omega) ?_ | refine k_lss rfl rfl (fun hc => ?_) (fun hc => ?_) | refine k_leqT rfl rfl (by omega) ?_ | refine k_leqF rfl rfl (by omega) ?_ | refine k_leq rfl rfl (fun hc => ?_) (fun hc => ?_) | refine k_gtrT rfl rfl (by omega) ?_ | refine k_gtrF rfl rfl (by omega) ?_ | refine k_gtr rfl rfl (fun hc => ?_) (fun hc => ?_) | refine k_geqT rfl rfl (by omega) ?_ | refine k_geqF rfl rfl (by omega) ?_ | refine k_geq rfl rfl (fun hc => ?_) (fun hc => ?_) | refine k_eqlT rfl rfl (by omega) ?_ | refine k_eqlF rfl rfl (by omega) ?_ | refine k_eql rfl rfl (fun hc => ?_) (fun hc => ?_) | refine k_neqT rfl rfl (by omega) ?_ | refine k_neqF rfl rfl (by omega) ?_ | refine k_neq rfl rfl (fun hc => ?_) (fun hc => ?_) | refine k_len rfl rfl ?_ | refine k_ok rfl rfl ?_))
  refine w_loop (I18 h0 xs) mu18 (R18 h0 xs) ⟨xs, s1, 0, Nat.le_refl _, Nat.zero_le _, rfl, fun j hj => by omega, fun x hx => hx, q1, e1.trans q2, rfl⟩ (round18 h0 xs hl hr) ?_
  rintro ex E' h' ⟨rfl, s, r1, r2, hE⟩
  repeat' (first | refine w_seq ?_ | refine w_seqN ?_ | refine w_seqX ?_ | refine w_seqR ?_ | refine w_blk ?_ | refine w_blkN ?_ | refine w_blkX ?_ | refine w_blkR ?_ | refine w_skip ?_ | refine w_ret ?_ | refine w_exit ?_ | refine w_ops ?_ | refine w_opsD ?_ | refine d_one ?_ | refine d_nil ?_ | (refine w_blkY ?_ ?_; rfl) | ((refine i_cond ?_); first | refine w_condT rfl ?_ | refine w_condF rfl ?_) | ((refine i_nil ?_); first | refine d_same ?_ | refine d_ord ?_ | refine d_ext ⟨_, rfl⟩ ?_ | refine d_ext (extA _ _ _) ?_ | refine d_ext (by assumption) ?_ | refine w_end0 ?_ | refine w_end1 rfl ?_ | refine w_end2 rfl rfl ?_ | refine w_end3 rfl rfl rfl ?_ | refine w_end4 rfl rfl rfl rfl ?_ | refine w_end5 rfl rfl rfl rfl rfl ?_ | refine w_end6 rfl rfl rfl rfl rfl rfl ?_ | refine w_end7 rfl rfl rfl rfl rfl rfl rfl ?_ | refine w_end8 rfl rfl rfl rfl rfl rfl rfl rfl ?_ | refine w_end9 rfl rfl rfl rfl rfl rfl rfl rfl rfl ?_ | refine w_end10 rfl rfl rfl rfl rfl rfl rfl rfl rfl rfl ?_ | refine w_end11 rfl rfl rfl rfl rfl rfl rfl rfl rfl rfl rfl ?_ | refine w_end12 rfl rfl rfl rfl rfl rfl rfl rfl rfl rfl rfl rfl ?_ | refine w_end13 rfl rfl rfl rfl rfl rfl rfl rfl rfl rfl rfl rfl rfl ?_ | refine w_end14 rfl rfl rfl rfl rfl rfl rfl rfl rfl rfl rfl rfl rfl rfl ?_ | refine w_end15 rfl rfl rfl rfl rfl rfl rfl rfl rfl rfl rfl rfl rfl rfl rfl ?_ | refine w_end16 rfl rfl rfl rfl rfl rfl rfl rfl rfl rfl rfl rfl rfl rfl rfl rfl ?_) | ((refine i_cons ?_); first | refine k_mv hE ?_ | refine k_skip rfl ?_ | refine k_skipU rfl ?_ | refine k_want rfl ?_ | refine k_mv rfl ?_ | refine k_pickT rfl rfl ?_ | refine k_pickF rfl rfl ?_ | refine k_notT rfl ?_ | refine k_notF rfl ?_ | refine k_add rfl rfl (by omega) ?_ | refine k_sub rfl rfl (by omega) ?_ | refine k_mul rfl rfl (by omega) ?_ | refine k_neg rfl (by omega) ?_ | refine k_quo rfl rfl (by omega) ?_ | refine k_rem rfl rfl (by omega) ?_ | refine k_conv rfl (by omega) ?_ | refine k_max rfl rfl ?_ | refine k_min rfl rfl ?_ | refine k_lssT rfl rfl (by omega) ?_ | refine k_lssF rfl rfl (by omega) ?_ | refine k_lss rfl rfl (fun hc => ?_) (fun hc => ?_) | refine k_leqT rfl rfl (by omega) ?_ | refine k_leqF rfl rfl (by omega) ?_ | refine k_leq rfl rfl (fun hc => ?_) (fun hc => ?_) | refine k_gtrT rfl rfl (by omega) ?_ | refine k_gtrF rfl rfl (by omega) ?_ | refine k_gtr rfl rfl (fun hc => ?_) (fun hc => ?_) | refine k_geqT rfl rfl (by omega) ?_ | refine k_geqF rfl rfl (by omega) ?_ | refine k_geq rfl rfl (fun hc => ?_) (fun hc => ?_) | refine k_eqlT rfl rfl (by omega) ?_ | refine k_eqlF rfl rfl (by omega) ?_ | refine k_eql rfl rfl (fun hc => ?_) (fun hc => ?_) | refine k_neqT rfl rfl (by omega) ?_ | refine k_neqF rfl rfl (by omega) ?_ | refine k_neq rfl rfl (fun hc => ?_) (fun hc => ?_) | refine k_len rfl rfl ?_ | refine k_ok rfl rfl ?_))
  exact ⟨.inr rfl, s, rfl, Ab.Own.ids r1, r2⟩
def mu20 (E : Env) (_ : Heap) : Nat := match E.get 4 with
  | some (.sc (.int _ i)) => (i + 1).toNat
  | _ => 0
def I20 (h0 : Heap) (w : SV) (xs : List Int) (E : Env) (h : Heap) : Prop := ∃ (k : Nat) (s : SV), k ≤ xs.length ∧ Ab.Own h0 h s (ints ((rn xs).take k)) ∧ Ext h0 h ∧
  E = [(0, some (.sc w)), (3, some (.sc s)), (4, some (.sc (.int .i64 ((xs.length : Int) - 1 - k))))]
def R20 (h0 : Heap) (xs : List Int) (ex : Ex) (E : Env) (h : Heap) : Prop := ex = .ex 0 ∧ ∃ s, Ab.Own h0 h s (ints (rn xs)) ∧ Ext h0 h ∧ E.get 3 = some (.sc s)

theorem round20 (h0 : Heap) (w : SV) (xs : List Int) (hw : IsInts h0 w xs) (hl : xs.length ≤ 5000) (hr : ∀ x ∈ xs, -1000000 ≤ x ∧ x ≤ 1000000) (E : Env) (h : Heap) (hI : I20 h0 w xs E h) :
    wA FT HK b20L0 (E.keep [0, 3, 4]) h (wRound (I20 h0 w xs) mu20 (mu20 E h) (R20 h0 xs)) := by
  obtain ⟨k, s, hk, ho, he, rfl⟩ := hI
  by_cases hlt : k < xs.length
  · obtain ⟨x, hx⟩ : ∃ x, xs[xs.length - 1 - k]? = some x := ⟨_, List.getElem?_eq_getElem (by omega)⟩
    have hxr := hr x (List.mem_of_getElem? hx)
    have hn : (rn xs)[k]? = some (-x) := by
      simp only [rn, List.getElem?_map]
      rw [List.getElem?_reverse hlt, hx]
      rfl
    have hsn := take_snoc hn
    obtain ⟨id, off, cap, rfl, hrd⟩ := IsInts.at (IsSl.ext hw he) hx
    have hj : ((xs.length : Int) - 1 - k).toNat = xs.length - 1 - k := by omega
    rw [← hj] at hrd
    have hbd : ((ints ((rn xs).take k)).length + 1) * (8 + 1) ≤ bigN := by simp [bigN, rn_len]; omega
    repeat' (first | refine w_seq ?_ | refine w_seqN ?_ | refine w_seqX ?_ | refine w_seqR ?_ | refine w_blk ?_ | refine w_blkN ?_ | refine w_blkX ?_ | refine w_blkR ?_ | refine w_skip ?_ | refine w_ret ?_ | refine w_exit ?_ | refine w_ops ?_ | refine w_opsD ?_ | refine d_one ?_ | refine d_nil ?_ | (refine w_blkY ?_ ?_; rfl) | ((refine i_cond ?_); first | refine w_condT rfl ?_ | refine w_condF rfl ?_) | ((refine i_nil ?_); first | refine d_same ?_ | refine d_ord ?_ | refine d_ext ⟨_, rfl⟩ ?_ | refine d_ext (extA _ _ _) ?_ | refine d_ext (by assumption) ?_ | refine w_end0 ?_ | refine w_end1 rfl ?_ | refine w_end2 rfl rfl ?_ | refine w_end3 rfl rfl rfl ?_ | refine w_end4 rfl rfl rfl rfl ?_ | refine w_end5 rfl rfl rfl rfl rfl ?_ | refine w_end6 rfl rfl rfl rfl rfl rfl ?_ | refine w_end7 rfl rfl rfl rfl rfl rfl rfl ?_ | refine w_end8 rfl rfl rfl rfl rfl rfl rfl rfl ?_ | refine w_end9 rfl rfl rfl rfl rfl rfl rfl rfl rfl ?_ | refine w_end10 rfl rfl rfl rfl rfl rfl rfl rfl rfl rfl ?_ | refine w_end11 rfl rfl rfl rfl rfl rfl rfl rfl rfl rfl rfl ?_ | refine w_end12 rfl rfl rfl rfl rfl rfl rfl rfl rfl rfl rfl rfl ?_ | refine w_end13 rfl rfl rfl rfl rfl rfl rfl rfl rfl rfl rfl rfl rfl ?_ | refine w_end14 rfl rfl rfl rfl rfl rfl rfl rfl rfl rfl rfl rfl rfl rfl ?_ | refine w_end15 rfl rfl rfl rfl rfl rfl rfl rfl rfl rfl rfl rfl rfl rfl rfl ?_ | refine w_end16 rfl rfl rfl rfl rfl rfl rfl rfl rfl rfl rfl rfl rfl rfl rfl rfl ?_) | ((refine i_cons ?_); first | refine k_idxA rfl rfl (by omega) ?_ | refine k_ld rfl hrd ?_ | (refine k_push he ho rfl rfl hbd ?_; intro s2 h2 q1 q2 q3) | refine k_skip rfl ?_ | refine k_skipU rfl ?_ | refine k_want rfl ?_ | refine k_mv rfl ?_ | refine k_pickT rfl rfl ?_ | refine k_pickF rfl rfl ?_ | refine k_notT rfl ?_ | refine k_notF rfl ?_ | refine k_add rfl rfl (by omega) ?_ | refine k_sub rfl rfl (by omega) ?_ | refine k_mul rfl rfl (by omega) ?_ | refine k_neg rfl (by omega) ?_ | refine k_quo rfl rfl (by omega) ?_ | refine k_rem rfl rfl (by omega) ?_ | refine k_conv rfl (by omega) ?_ | refine k_max rfl rfl ?_ | refine k_min rfl rfl ?_ | refine k_lssT rfl rfl (by omega) ?_ | refine k_lssF rfl rfl (by omega) ?_ | refine k_lss rfl rfl (fun hc => ?_) (fun hc => ?_) | refine k_leqT rfl rfl (by omega) ?_ | refine k_leqF rfl rfl (by omega) ?_ | refine k_leq rfl rfl (fun hc => ?_) (fun hc => ?_) | refine k_gtrT rfl rfl (by omega) ?_ | refine k_gtrF rfl rfl (by omega) ?_ | refine k_gtr rfl rfl (fun hc => ?_) (fun hc => ?_) | refine k_geqT rfl rfl (by omega) ?_ | refine k_geqF rfl rfl (by omega) ?_ | refine k_geq rfl rfl (fun hc => ?_) (fun hc => ?_) | refine k_eqlT rfl rfl (by omega) ?_ | refine k_eqlF rfl rfl (by omega) ?_ | refine k_eql rfl rfl (fun hc => ?_) (fun hc => ?_) | refine k_neqT rfl rfl (by omega) ?_ | refine k_neqF rfl rfl (by omega) ?_ | refine k_neq rfl rfl (fun hc => ?_) (fun hc => ?_) | refine k_len rfl rfl ?_ | refine k_ok rfl rfl ?_))
    refine w_roundN ⟨k + 1, s2, by omega, ?_, q2, ?_⟩ ?_
    · rw [hsn]
      simpa only [ints, List.map_append, List.map_cons, List.map_nil] using q1
    · rw [show ((xs.length : Int) - 1 - (k + 1 : Nat)) = (xs.length : Int) - 1 - k - 1 by omega]
    · show (((xs.length : Int) - 1 - k - 1) + 1).toNat < (((xs.length : Int) - 1 - k) + 1).toNat
      omega
  · repeat' (first | refine w_seq ?_ | refine w_seqN ?_ | refine w_seqX ?_ | refine w_seqR ?_ | refine w_blk ?_ | refine w_blkN ?_ | refine w_blkX ?_ | refine w_blkR ?_ | refine w_skip ?_ | refine w_ret ?_ | refine w_exit ?_ | refine w_ops ?_ | refine w_opsD ?_ | refine d_one ?_ | refine d_nil ?_ | (refine w_blkY ?_ ?_; rfl) | ((refine i_cond ?_); first | refine w_condT rfl ?_ | refine w_condF rfl ?_) | ((refine i_nil ?_); first | refine d_same ?_ | refine d_ord ?_ | refine d_ext ⟨_, rfl⟩ ?_ | refine d_ext (extA _ _ _) ?_ | refine d_ext (by assumption) ?_ | refine w_end0 ?_ | refine w_end1 rfl ?_ | refine w_end2 rfl rfl ?_ | refine w_end3 rfl rfl rfl ?_ | refine w_end4 rfl rfl rfl rfl ?_ | refine w_end5 rfl rfl rfl rfl rfl ?_ | refine w_end6 rfl rfl rfl rfl rfl rfl ?_ | refine w_end7 rfl rfl rfl rfl rfl rfl rfl ?_ | refine w_end8 rfl rfl rfl rfl rfl rfl rfl rfl ?_ | refine w_end9 rfl rfl rfl rfl rfl rfl rfl rfl rfl ?_ | refine w_end10 rfl rfl rfl rfl rfl rfl rfl rfl rfl rfl ?_ | refine w_end11 rfl rfl rfl rfl rfl rfl rfl rfl rfl rfl rfl ?_ | refine w_end12 rfl rfl rfl rfl rfl rfl rfl rfl rfl rfl rfl rfl ?_ | refine w_end13 rfl rfl rfl rfl rfl rfl rfl rfl rfl rfl rfl rfl rfl ?_ | refine w_end14 rfl rfl rfl rfl rfl rfl rfl rfl rfl rfl rfl rfl rfl rfl ?_ | refine w_end15 rfl rfl rfl rfl rfl rfl rfl rfl rfl rfl rfl rfl rfl rfl rfl ?_ | refine w_end16 rfl rfl rfl rfl rfl rfl rfl rfl rfl rfl rfl rfl rfl rfl rfl rfl ?_) | ((refine i_cons ?_); first | refine k_skip rfl ?_ | refine k_skipU rfl ?_ | refine k_want rfl ?_ | refine k_mv rfl ?_ | refine k_pickT rfl rfl ?_ | refine k_pickF rfl rfl ?_ | refine k_notT rfl ?_ | refine k_notF rfl ?_ | refine k_add rfl rfl (by omega) ?_ | refine k_sub rfl rfl (by omega) ?_ | refine k_mul rfl rfl (by omega) ?_ | refine k_neg rfl (by omega) ?_ | refine k_quo rfl rfl (by omega) ?_ | refine k_rem rfl rfl (by omega) ?_ | refine k_conv rfl (by omega) ?_ | refine k_max rfl rfl ?_ | refine k_min rfl rfl ?_ | refine k_lssT rfl rfl (by omega) ?_ | refine k_lssF rfl rfl (by omega) ?_ | refine k_lss rfl rfl (fun hc => ?_) (fun hc => ?_) | refine k_leqT rfl rfl (by omega) ?_ | refine k_leqF rfl rfl (by omega) ?_ | refine k_leq rfl rfl (fun hc => ?_) (fun hc => ?_) | refine k_gtrT rfl rfl (by omega) ?_ | refine k_gtrF rfl rfl (by omega) ?_ | refine k_gtr rfl rfl (fun hc => ?_) (fun hc => ?_) | refine k_geqT rfl rfl (by omega) ?_ | refine k_geqF rfl rfl (by omega) ?_ | refine k_geq rfl rfl (fun hc => ?_) (fun hc => ?_) | refine k_eqlT rfl rfl (by omega) ?_ | refine k_eqlF rfl rfl (by omega) ?_ | refine k_eql rfl rfl (fun hc => ?_) (fun hc => ?_) | refine k_neqT rfl rfl (by omega) ?_ | refine k_neqF rfl rfl (by omega) ?_ | refine k_neq rfl rfl (fun hc => ?_) (fun hc => ?_) | refine k_len rfl rfl ?_ | refine k_ok rfl rfl ?_))
    refine w_roundX ⟨rfl, s, ?_, he, rfl⟩
    rwa [List.take_of_length_le (by rw [rn_len]; omega)] at ho

theorem call20 (hk : HK 20 = none) (hk2 : HK 18 = none) (h0 : Heap) (w : SV) (xs : List Int) (hw : IsInts h0 w xs) (hl : xs.length ≤ 5000) (hr : ∀ x ∈ xs, -1000000 ≤ x ∧ x ≤ 1000000) :
    ∃ v h', Cal FT HK 20 [.sc w] h0 v h' ∧ ∃ s', v = .sc s' ∧ IsInts h' s' (red (rn xs)) ∧ Ext h0 h' := by
  refine Cal.of (F := a20) hk rfl rfl ?_
  have hln := IsSl.len hw
  repeat' (first | refine w_seq ?_ | refine w_seqN ?_ | refine w_seqX ?_ | refine w_seqR ?_ | refine w_blk ?_ | refine w_blkN ?_ | refine w_blkX ?_ | refine w_blkR ?_ | refine w_skip ?_ | refine w_ret ?_ | refine w_exit ?_ | refine w_ops ?_ | refine w_opsD ?_ | refine d_one ?_ | refine d_nil ?_ | (refine w_blkY ?_ ?_; rfl) | ((refine i_cond ?_); first | refine w_condT rfl ?_ | refine w_condF rfl ?_) | ((refine i_nil ?_); first | refine d_same ?_ | refine d_ord ?_ | refine d_ext ⟨_, rfl⟩ ?_ | refine d_ext (extA _ _ _) ?_ | refine d_ext (by assumption) ?_ | refine w_end0 ?_ | refine w_end1 rfl ?_ | refine w_end2 rfl rfl ?_ | refine w_end3 rfl rfl rfl ?_ | refine w_end4 rfl rfl rfl rfl ?_ | refine w_end5 rfl rfl rfl rfl rfl ?_ | refine w_end6 rfl rfl rfl rfl rfl rfl ?_ | refine w_end7 rfl rfl rfl rfl rfl rfl rfl ?_ | refine w_end8 rfl rfl rfl rfl rfl rfl rfl rfl ?_ | refine w_end9 rfl rfl rfl rfl rfl rfl rfl rfl rfl ?_ | refine w_end10 rfl rfl rfl rfl rfl rfl rfl rfl rfl rfl ?_ | refine w_end11 rfl rfl rfl rfl rfl rfl rfl rfl rfl rfl rfl ?_ | refine w_end12 rfl rfl rfl rfl rfl rfl rfl rfl rfl rfl rfl rfl ?_ | refine w_end13 rfl rfl rfl rfl rfl rfl rfl rfl rfl rfl rfl rfl rfl ?_ | refine w_end14 rfl rfl rfl rfl rfl rfl rfl rfl rfl rfl rfl rfl rfl rfl ?_ | refine w_end15 rfl rfl rfl rfl rfl rfl rfl rfl rfl rfl rfl rfl rfl rfl rfl ?_ | refine w_end16 rfl rfl rfl rfl rfl rfl rfl rfl rfl rfl rfl rfl rfl rfl rfl rfl ?_) | ((refine i_cons ?_); first | refine k_len rfl hln ?_ | refine k_skip rfl ?_ | refine k_skipU rfl ?_ | refine k_want rfl ?_ | refine k_mv rfl ?_ | refine k_pickT rfl rfl ?_ | refine k_pickF rfl rfl ?_ | refine k_notT rfl ?_ | refine k_notF rfl ?_ | refine k_add rfl rfl (by omega) ?_ | refine k_sub rfl rfl (by omega) ?_ | refine k_mul rfl rfl (by omega) ?_ | refine k_neg rfl (by omega) ?_ | refine k_quo rfl rfl (by omega) ?_ | refine k_rem rfl rfl (by omega) ?_ | refine k_conv rfl (by omega) ?_ | refine k_max rfl rfl ?_ | refine k_min rfl rfl ?_ | refine k_lssT rfl rfl (by omega) ?_ | refine k_lssF rfl rfl (by omega) ?_ | refine k_lss rfl rfl (fun hc => ?_) (fun hc => ?_) | refine k_leqT rfl rfl (by omega) ?_ | refine k_leqF rfl rfl (by omega) ?_ | refine k_leq rfl rfl (fun hc => ?_) (fun hc => ?_) | refine k_gtrT rfl rfl (by omega) ?_ | refine k_gtrF rfl rfl (by omega) ?_ | refine k_gtr rfl rfl (fun hc => ?_) (fun hc => ?_) | refine k_geqT rfl rfl (by omega) ?_ | refine k_geqF rfl rfl (by omega) ?_ | refine k_geq rfl rfl (fun hc => ?_) (fun hc => ?_) | refine k_eqlT rfl rfl (by omega) ?_ | refine k_eqlF rfl rfl (by omega) ?_ | refine k_eql rfl rfl (fun hc => ?_) (fun hc => ?_) | refine k_neqT rfl rfl (by omega) ?_ | refine k_neqF rfl rfl (by omega) ?_ | refine k_neq rfl rfl (fun hc => ?_) (fun hc => ?_) | refine k_len rfl rfl ?_ | refine k_ok rfl rfl ?_))
  refine w_loop (I20 h0 w xs) mu20 (R20 h0 xs) ⟨0, .nilS, Nat.zero_le _, .inl ⟨rfl, rfl⟩, Ext.refl _, by simp⟩ (round20 h0 w xs hw hl hr) ?_
  rintro ex E' h' ⟨rfl, s, r1, r2, hE⟩
  have k1 := call18 (HK := HK) hk2 h' s (rn xs) (Ab.Own.ids r1) (by rw [rn_len]; exact hl) (fun x hx => by have := hr _ (mem_rn.1 hx); omega)
  repeat' (first | refine w_seq ?_ | refine w_seqN ?_ | refine w_seqX ?_ | refine w_seqR ?_ | refine w_blk ?_ | refine w_blkN ?_ | refine w_blkX ?_ | refine w_blkR ?_ | refine w_skip ?_ | refine w_ret ?_ | refine w_exit ?_ | refine w_ops ?_ | refine w_opsD ?_ | refine d_one ?_ | refine d_nil ?_ | (refine w_blkY ?_ ?_; rfl) | ((refine i_cond ?_); first | refine w_condT rfl ?_ | refine w_condF rfl ?_) | ((refine i_nil ?_); first | refine d_same ?_ | refine d_ord ?_ | refine d_ext ⟨_, rfl⟩ ?_ | refine d_ext (extA _ _ _) ?_ | refine d_ext (by assumption) ?_ | refine w_end0 ?_ | refine w_end1 rfl ?_ | refine w_end2 rfl rfl ?_ | refine w_end3 rfl rfl rfl ?_ | refine w_end4 rfl rfl rfl rfl ?_ | refine w_end5 rfl rfl rfl rfl rfl ?_ | refine w_end6 rfl rfl rfl rfl rfl rfl ?_ | refine w_end7 rfl rfl rfl rfl rfl rfl rfl ?_ | refine w_end8 rfl rfl rfl rfl rfl rfl rfl rfl ?_ | refine w_end9 rfl rfl rfl rfl rfl rfl rfl rfl rfl ?_ | refine w_end10 rfl rfl rfl rfl rfl rfl rfl rfl rfl rfl ?_ | refine w_end11 rfl rfl rfl rfl rfl rfl rfl rfl rfl rfl rfl ?_ | refine w_end12 rfl rfl rfl rfl rfl rfl rfl rfl rfl rfl rfl rfl ?_ | refine w_end13 rfl rfl rfl rfl rfl rfl rfl rfl rfl rfl rfl rfl rfl ?_ | refine w_end14 rfl rfl rfl rfl rfl rfl rfl rfl rfl rfl rfl rfl rfl rfl ?_ | refine w_end15 rfl rfl rfl rfl rfl rfl rfl rfl rfl rfl rfl rfl rfl rfl rfl ?_ | refine w_end16 rfl rfl rfl rfl rfl rfl rfl rfl rfl rfl rfl rfl rfl rfl rfl rfl ?_) | ((refine i_cons ?_); first | refine k_mv hE ?_ | (refine k_call rfl k1 ?_; rintro v h2 ⟨s2, rfl, q1, q2⟩) | refine k_skip rfl ?_ | refine k_skipU rfl ?_ | refine k_want rfl ?_ | refine k_mv rfl ?_ | refine k_pickT rfl rfl ?_ | refine k_pickF rfl rfl ?_ | refine k_notT rfl ?_ | refine k_notF rfl ?_ | refine k_add rfl rfl (by omega) ?_ | refine k_sub rfl rfl (by omega) ?_ | refine k_mul rfl rfl (by omega) ?_ | refine k_neg rfl (by omega) ?_ | refine k_quo rfl rfl (by omega) ?_ | refine k_rem rfl rfl (by omega) ?_ | refine k_conv rfl (by omega) ?_ | refine k_max rfl rfl ?_ | refine k_min rfl rfl ?_ | refine k_lssT rfl rfl (by omega) ?_ | refine k_lssF rfl rfl (by omega) ?_ | refine k_lss rfl rfl (fun hc => ?_) (fun hc => ?_) | refine k_leqT rfl rfl (by omega) ?_ | refine k_leqF rfl rfl (by omega) ?_ | refine k_leq rfl rfl (fun hc => ?_) (fun hc => ?_) | refine k_gtrT rfl rfl (by omega) ?_ | refine k_gtrF rfl rfl (by omega) ?_ | refine k_gtr rfl rfl (fun hc => ?_) (fun hc => ?_) | refine k_geqT rfl rfl (by omega) ?_ | refine k_geqF rfl rfl (by omega) ?_ | refine k_geq rfl rfl (fun hc => ?_) (fun hc => ?_) | refine k_eqlT rfl rfl (by omega) ?_ | refine k_eqlF rfl rfl (by omega) ?_ | refine k_eql rfl rfl (fun hc => ?_) (fun hc => ?_) | refine k_neqT rfl rfl (by omega) ?_ | refine k_neqF rfl rfl (by omega) ?_ | refine k_neq rfl rfl (fun hc => ?_) (fun hc => ?_) | refine k_len rfl rfl ?_ | refine k_ok rfl rfl ?_))
  exact ⟨.inr rfl, s2, rfl, q1, r2.trans q2⟩
end Go.Proofs.YtgmfjhmphiiifaaDoor
