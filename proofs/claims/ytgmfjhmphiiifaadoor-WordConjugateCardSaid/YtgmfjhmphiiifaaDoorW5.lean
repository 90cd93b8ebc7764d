/- WordGroup: its loop; calls of function values. -/
import Derived.Test.YtgmfjhmphiiifaaDoorP2
import Derived.Test.YtgmfjhmphiiifaaDoorW4
namespace Go.Ab
set_option linter.unusedVariables false
variable {FT : FuncId → Option AFun} {HK : FuncId → Option Hook} {E : Env} {h : Heap} {d : Option Nat} {r : List AOp} {K : Env → Heap → Prop}
theorem k_callv {f : FuncId} {x : AO} {args : List AO} {vs : List AV} {R : AV → Heap → Prop} (hx : evS E x = some (.fn f [])) (ha : evs E args = some vs) (hc : ∃ v h', Cal FT HK f vs h v h' ∧ R v h')
    (hw : ∀ v h', R v h' → wOps FT HK r (bindE d (some v) E) h' K) : wOps FT HK (⟨d, .callv x args, none⟩ :: r) E h K := by
  show wOp FT HK _ _ _ _
  unfold wOp
  refine ⟨fun _ => ?_, fun hc => absurd rfl hc⟩
  show wK FT HK E h (.callv x args) _
  simp only [wK, hx, ha]
  show wCallV FT HK (.fn f []) vs h _
  simp only [wCallV, List.map_nil, List.append_nil]
  exact wCall_of hc hw
end Go.Ab
namespace Go.Proofs.YtgmfjhmphiiifaaDoor
open Go.Ab
set_option linter.unusedVariables false
set_option maxRecDepth 20000
attribute [local irreducible] wOps wA wSeq wBlk wRound wOpsD
variable {HK : FuncId → Option Hook}

def I6 (h0 : Heap) (a b c s t : SV) (n : Nat) (E : Env) (h : Heap) : Prop := ∃ (i : Nat), 1 ≤ i ∧ (i ≤ n ∨ i = 1) ∧ h = h0 ∧
  E = [(0, some (.sc a)), (1, some (.sc b)), (2, some (.sc c)), (7, some (.sc s)), (8, some (.sc t)), (9, some (.sc (.int .i64 i)))]
def R6 (h0 : Heap) (a b c s t : SV) (ex : Ex) (E : Env) (h : Heap) : Prop := ex = .ex 0 ∧ h = h0 ∧ ∃ i : Nat,
  E = [(0, some (.sc a)), (1, some (.sc b)), (2, some (.sc c)), (7, some (.sc s)), (8, some (.sc t)), (9, some (.sc (.int .i64 i))), (37, some (.sc (.bool false)))]

theorem round6 (h0 : Heap) (a b c s t : SV) (xs : List Int) (hs : IsInts h0 s (red xs)) (hl : (red xs).length ≤ 1000000) (hr : ∀ x ∈ red xs, -4611686018427387904 ≤ x ∧ x ≤ 4611686018427387904) (E : Env) (h : Heap) (hI : I6 h0 a b c s t (red xs).length E h) :
    wA FT HK b6L0 (E.keep [0, 1, 2, 7, 8, 9]) h (wRound (I6 h0 a b c s t (red xs).length) (cnt (red xs).length 9) (cnt (red xs).length 9 E h) (R6 h0 a b c s t)) := by
  obtain ⟨i, hi1, hi, rfl, rfl⟩ := hI
  have hln := IsSl.len hs
  by_cases hlt : i < (red xs).length
  · obtain ⟨q, hq⟩ : ∃ q, (red xs)[i]? = some q := ⟨_, List.getElem?_eq_getElem hlt⟩
    obtain ⟨p, hp⟩ : ∃ p, (red xs)[i - 1]? = some p := ⟨_, List.getElem?_eq_getElem (by omega)⟩
    have hne := red_adj xs hp (by rw [show i - 1 + 1 = i by omega]; exact hq)
    have hqr := hr q (List.mem_of_getElem? hq)
    obtain ⟨id, off, cap, rfl, hrd⟩ := IsInts.at hs hq
    obtain ⟨id2, off2, cap2, he2, hrd2⟩ := IsInts.at hs hp
    obtain ⟨rfl, rfl, -, rfl⟩ := SV.slc.inj he2
    have hj : ((i : Int) - 1).toNat = i - 1 := by omega
    rw [← hj] at hrd2
    repeat' (first
      | refine w_seq ?_
      | refine w_seqN ?_
      | refine w_seqX ?_
      | refine w_seqR ?_
      | refine w_blk ?_
      | refine w_blkN ?_
      | refine w_blkX ?_
      | refine w_blkR ?_
      | refine w_skip ?_
      | refine w_ret ?_
      | refine w_exit ?_
      | refine w_ops ?_
      | refine w_opsD ?_
      | refine d_one ?_
      | refine d_nil ?_
      | ((refine i_cond ?_); first | refine w_condT rfl ?_ | refine w_condF rfl ?_)
      | ((refine i_nil ?_); first | refine d_same ?_ | refine d_ord ?_ | refine d_ext ⟨_, rfl⟩ ?_ | refine d_ext (by assumption) ?_ | refine w_end0 ?_ | refine w_end1 rfl ?_ | refine w_end2 rfl rfl ?_ | refine w_end3 rfl rfl rfl ?_ | refine w_end4 rfl rfl rfl rfl ?_ | refine w_end5 rfl rfl rfl rfl rfl ?_ | refine w_end6 rfl rfl rfl rfl rfl rfl ?_ | refine w_end7 rfl rfl rfl rfl rfl rfl rfl ?_ | refine w_end8 rfl rfl rfl rfl rfl rfl rfl rfl ?_ | refine w_end9 rfl rfl rfl rfl rfl rfl rfl rfl rfl ?_ | refine w_end10 rfl rfl rfl rfl rfl rfl rfl rfl rfl rfl ?_ | refine w_end11 rfl rfl rfl rfl rfl rfl rfl rfl rfl rfl rfl ?_ | refine w_end12 rfl rfl rfl rfl rfl rfl rfl rfl rfl rfl rfl rfl ?_ | refine w_end13 rfl rfl rfl rfl rfl rfl rfl rfl rfl rfl rfl rfl rfl ?_ | refine w_end14 rfl rfl rfl rfl rfl rfl rfl rfl rfl rfl rfl rfl rfl rfl ?_ | refine w_end15 rfl rfl rfl rfl rfl rfl rfl rfl rfl rfl rfl rfl rfl rfl rfl ?_ | refine w_end16 rfl rfl rfl rfl rfl rfl rfl rfl rfl rfl rfl rfl rfl rfl rfl rfl ?_)
      | ((refine i_cons ?_); first
        | refine k_len rfl hln ?_
        | refine k_idxA rfl rfl (by omega) ?_
        | refine k_ld rfl hrd ?_
        | refine k_ld rfl hrd2 ?_
        | refine k_skip rfl ?_
        | refine k_want rfl ?_
        | refine k_mv rfl ?_
        | refine k_pickT rfl rfl ?_
        | refine k_pickF rfl rfl ?_
        | refine k_notT rfl ?_
        | refine k_notF rfl ?_
        | refine k_add rfl rfl (by omega) ?_
        | refine k_sub rfl rfl (by omega) ?_
        | refine k_mul rfl rfl (by omega) ?_
        | refine k_neg rfl (by omega) ?_
        | refine k_quo rfl rfl (by omega) ?_
        | refine k_rem rfl rfl (by omega) ?_
        | refine k_conv rfl (by omega) ?_
        | refine k_max rfl rfl ?_
        | refine k_min rfl rfl ?_
        | refine k_lssT rfl rfl (by omega) ?_
        | refine k_lssF rfl rfl (by omega) ?_
        | refine k_lss rfl rfl (fun hc => ?_) (fun hc => ?_)
        | refine k_leqT rfl rfl (by omega) ?_
        | refine k_leqF rfl rfl (by omega) ?_
        | refine k_leq rfl rfl (fun hc => ?_) (fun hc => ?_)
        | refine k_gtrT rfl rfl (by omega) ?_
        | refine k_gtrF rfl rfl (by omega) ?_
        | refine k_gtr rfl rfl (fun hc => ?_) (fun hc => ?_)
        | refine k_geqT rfl rfl (by omega) ?_
        | refine k_geqF rfl rfl (by omega) ?_
        | refine k_geq rfl rfl (fun hc => ?_) (fun hc => ?_)
        | refine k_eqlT rfl rfl (by omega) ?_
        | refine k_eqlF rfl rfl (by omega) ?_
        | refine k_eql rfl rfl (fun hc => ?_) (fun hc => ?_)
        | refine k_neqT rfl rfl (by omega) ?_
        | refine k_neqF rfl rfl (by omega) ?_
        | refine k_neq rfl rfl (fun hc => ?_) (fun hc => ?_)
        | refine k_len rfl rfl ?_
        | refine k_ok rfl rfl ?_))
    all_goals exact w_roundN ⟨i + 1, by omega, by omega, rfl, rfl⟩ (by simp [cnt, Env.get]; omega)
  · repeat' (first
   | refine w_seq ?_
   | refine w_seqN ?_
   | refine w_seqX ?_
   | refine w_seqR ?_
   | refine w_blk ?_
   | refine w_blkN ?_
   | refine w_blkX ?_
   | refine w_blkR ?_
   | refine w_skip ?_
   | refine w_ret ?_
   | refine w_exit ?_
   | refine w_ops ?_
   | refine w_opsD ?_
   | refine d_one ?_
   | refine d_nil ?_
   | ((refine i_cond ?_); first | refine w_condT rfl ?_ | refine w_condF rfl ?_)
   | ((refine i_nil ?_); first | refine d_same ?_ | refine d_ord ?_ | refine d_ext ⟨_, rfl⟩ ?_ | refine d_ext (by assumption) ?_ | refine w_end0 ?_ | refine w_end1 rfl ?_ | refine w_end2 rfl rfl ?_ | refine w_end3 rfl rfl rfl ?_ | refine w_end4 rfl rfl rfl rfl ?_ | refine w_end5 rfl rfl rfl rfl rfl ?_ | refine w_end6 rfl rfl rfl rfl rfl rfl ?_ | refine w_end7 rfl rfl rfl rfl rfl rfl rfl ?_ | refine w_end8 rfl rfl rfl rfl rfl rfl rfl rfl ?_ | refine w_end9 rfl rfl rfl rfl rfl rfl rfl rfl rfl ?_ | refine w_end10 rfl rfl rfl rfl rfl rfl rfl rfl rfl rfl ?_ | refine w_end11 rfl rfl rfl rfl rfl rfl rfl rfl rfl rfl rfl ?_ | refine w_end12 rfl rfl rfl rfl rfl rfl rfl rfl rfl rfl rfl rfl ?_ | refine w_end13 rfl rfl rfl rfl rfl rfl rfl rfl rfl rfl rfl rfl rfl ?_ | refine w_end14 rfl rfl rfl rfl rfl rfl rfl rfl rfl rfl rfl rfl rfl rfl ?_ | refine w_end15 rfl rfl rfl rfl rfl rfl rfl rfl rfl rfl rfl rfl rfl rfl rfl ?_ | refine w_end16 rfl rfl rfl rfl rfl rfl rfl rfl rfl rfl rfl rfl rfl rfl rfl rfl ?_)
   | ((refine i_cons ?_); first
     | refine k_len rfl hln ?_
     | refine k_skip rfl ?_
     | refine k_want rfl ?_
     | refine k_mv rfl ?_
     | refine k_pickT rfl rfl ?_
     | refine k_pickF rfl rfl ?_
     | refine k_notT rfl ?_
     | refine k_notF rfl ?_
     | refine k_add rfl rfl (by omega) ?_
     | refine k_sub rfl rfl (by omega) ?_
     | refine k_mul rfl rfl (by omega) ?_
     | refine k_neg rfl (by omega) ?_
     | refine k_quo rfl rfl (by omega) ?_
     | refine k_rem rfl rfl (by omega) ?_
     | refine k_conv rfl (by omega) ?_
     | refine k_max rfl rfl ?_
     | refine k_min rfl rfl ?_
     | refine k_lssT rfl rfl (by omega) ?_
     | refine k_lssF rfl rfl (by omega) ?_
     | refine k_lss rfl rfl (fun hc => ?_) (fun hc => ?_)
     | refine k_leqT rfl rfl (by omega) ?_
     | refine k_leqF rfl rfl (by omega) ?_
     | refine k_leq rfl rfl (fun hc => ?_) (fun hc => ?_)
     | refine k_gtrT rfl rfl (by omega) ?_
     | refine k_gtrF rfl rfl (by omega) ?_
     | refine k_gtr rfl rfl (fun hc => ?_) (fun hc => ?_)
     | refine k_geqT rfl rfl (by omega) ?_
     | refine k_geqF rfl rfl (by omega) ?_
     | refine k_geq rfl rfl (fun hc => ?_) (fun hc => ?_)
     | refine k_eqlT rfl rfl (by omega) ?_
     | refine k_eqlF rfl rfl (by omega) ?_
     | refine k_eql rfl rfl (fun hc => ?_) (fun hc => ?_)
     | refine k_neqT rfl rfl (by omega) ?_
     | refine k_neqF rfl rfl (by omega) ?_
     | refine k_neq rfl rfl (fun hc => ?_) (fun hc => ?_)
     | refine k_len rfl rfl ?_
     | refine k_ok rfl rfl ?_))
    exact w_roundX ⟨rfl, rfl, i, rfl⟩

/-- A word of letters within 1000000. -/
def Mid (n : Nat) (xs : List Int) : Prop := xs.length ≤ n ∧ ∀ x ∈ xs, -1000000 ≤ x ∧ x ≤ 1000000
theorem Mid.of {xs : List Int} (h : Word xs) : Mid 60 xs := ⟨h.1, fun x hx => by have := h.2 x hx; unfold Let at this; omega⟩
theorem Mid.app {n m : Nat} {xs ys : List Int} (h : Mid n xs) (k : Mid m ys) : Mid (n + m) (xs ++ ys) :=
  ⟨by have := h.1; have := k.1; simp; omega, fun x hx => (List.mem_append.1 hx).elim (h.2 x) (k.2 x)⟩
theorem Mid.rn {n : Nat} {xs : List Int} (h : Mid n xs) : Mid n (rn xs) := ⟨by rw [rn_len]; exact h.1, fun x hx => by have := h.2 _ (mem_rn.1 hx); omega⟩
theorem mem_pushL : ∀ (ls vs : List Int) (x : Int), x ∈ pushL vs ls → x ∈ vs ∨ x ∈ ls
  | [], vs, x, h => .inl h
  | y :: ls, vs, x, h => by
    rcases mem_pushL ls (push1 vs y) x h with h | h
    · unfold push1 at h
      split at h
      · exact .inl (List.dropLast_subset _ h)
      · rcases List.mem_append.1 h with h | h
        · exact .inl h
        · simp at h; subst h; exact .inr (by simp)
    · exact .inr (by simp [h])
theorem Mid.red {n : Nat} {xs : List Int} (h : Mid n xs) : Mid n (red xs) := ⟨Nat.le_trans (red_len xs) h.1, fun x hx => by
  rcases mem_pushL xs [] x hx with h' | h'
  · simp at h'
  · exact h.2 x h'⟩
theorem Mid.big {n : Nat} {xs : List Int} (h : Mid n xs) : ∀ x ∈ xs, -4611686018427387904 ≤ x ∧ x ≤ 4611686018427387904 := fun x hx => by have := h.2 x hx; omega

theorem mulC {h h1 : Heap} {s : SV} {ts : List SV} {ws : List (List Int)} (he : Ext h h1) (hs : IsSl h1 s 1 ts.length ts) (hw : Words h1 ts ws) (hl : ws.length ≤ 1000) (hm : ∀ w ∈ ws, Mid 10000 w) {r : List Int} (hr : red ws.flatten = r) :
    ∃ v h', Cal FT HK2 23 [.sc s] h1 v h' ∧ ∃ s', v = .sc s' ∧ IsInts h' s' r ∧ Ext h h' := by
  obtain ⟨v, h', k1, s', k2, k3, k4⟩ := call23 (HK := HK2) rfl rfl h1 s ts ws hs hw hl (fun w hw' => by have := (hm w hw').1; omega) (fun w hw' => (hm w hw').big)
  rw [hr] at k3
  exact ⟨v, h', k1, s', k2, Own.ids k3, he.trans k4⟩
theorem mul2 {h : Heap} {s t : SV} {xs ys : List Int} (hs : IsInts h s xs) (ht : IsInts h t ys) (hx : Mid 10000 xs) (hy : Mid 10000 ys) {r : List Int} (hr : red (xs ++ ys) = r) :
    ∃ v h', Cal FT HK2 23 [.sc (.slc h.length 0 2 (some 2))] (h ++ [.cells [s, t] true 1]) v h' ∧ ∃ s', v = .sc s' ∧ IsInts h' s' r ∧ Ext h h' := by
  have he : Ext h (h ++ [.cells [s, t] true 1]) := ⟨_, rfl⟩
  refine mulC (ts := [s, t]) (ws := [xs, ys]) he (.inr ⟨h.length, 0, some 2, _, rfl, by rw [List.getElem?_append_right (Nat.le_refl _), Nat.sub_self]; rfl, rfl, fun h' => by simp at h', fun _ => ⟨[s, t], true, rfl, rfl⟩⟩) ⟨rfl, ?_⟩ (by simp) (by simp [hx, hy]) (by simpa using hr)
  intro i u w h1 h2
  match i with
  | 0 => simp at h1 h2; subst h1 h2; exact IsSl.ext hs he
  | 1 => simp at h1 h2; subst h1 h2; exact IsSl.ext ht he
  | i + 2 => simp at h1
theorem mul3 {h : Heap} {s t u : SV} {xs ys zs : List Int} (hs : IsInts h s xs) (ht : IsInts h t ys) (hu : IsInts h u zs) (hx : Mid 10000 xs) (hy : Mid 10000 ys) (hz : Mid 10000 zs) {r : List Int} (hr : red (xs ++ ys ++ zs) = r) :
    ∃ v h', Cal FT HK2 23 [.sc (.slc h.length 0 3 (some 3))] (h ++ [.cells [s, t, u] true 1]) v h' ∧ ∃ s', v = .sc s' ∧ IsInts h' s' r ∧ Ext h h' := by
  have he : Ext h (h ++ [.cells [s, t, u] true 1]) := ⟨_, rfl⟩
  refine mulC (ts := [s, t, u]) (ws := [xs, ys, zs]) he (.inr ⟨h.length, 0, some 3, _, rfl, by rw [List.getElem?_append_right (Nat.le_refl _), Nat.sub_self]; rfl, rfl, fun h' => by simp at h', fun _ => ⟨[s, t, u], true, rfl, rfl⟩⟩) ⟨rfl, ?_⟩ (by simp) (by simp [hx, hy, hz]) (by simpa using hr)
  intro i v w h1 h2
  match i with
  | 0 => simp at h1 h2; subst h1 h2; exact IsSl.ext hs he
  | 1 => simp at h1 h2; subst h1 h2; exact IsSl.ext ht he
  | 2 => simp at h1 h2; subst h1 h2; exact IsSl.ext hu he
  | i + 3 => simp at h1
theorem mul1 {h : Heap} {s : SV} {xs : List Int} (hs : IsInts h s xs) (hx : Mid 10000 xs) :
    ∃ v h', Cal FT HK2 23 [.sc (.slc h.length 0 1 (some 1))] (h ++ [.cells [s] true 1]) v h' ∧ ∃ s', v = .sc s' ∧ IsInts h' s' (red xs) ∧ Ext h h' := by
  have he : Ext h (h ++ [.cells [s] true 1]) := ⟨_, rfl⟩
  refine mulC (ts := [s]) (ws := [xs]) he (.inr ⟨h.length, 0, some 1, _, rfl, by rw [List.getElem?_append_right (Nat.le_refl _), Nat.sub_self]; rfl, rfl, fun h' => by simp at h', fun _ => ⟨[s], true, rfl, rfl⟩⟩) ⟨rfl, ?_⟩ (by simp) (by simp [hx]) (by simp)
  intro i v w h1 h2
  match i with
  | 0 => simp at h1 h2; subst h1 h2; exact IsSl.ext hs he
  | i + 1 => simp at h1
theorem mul0 (h : Heap) : ∃ v h', Cal FT HK2 23 [.sc .nilS] h v h' ∧ ∃ s', v = .sc s' ∧ IsInts h' s' [] ∧ Ext h h' :=
  mulC (ts := []) (ws := []) (Ext.refl h) (.inl ⟨rfl, rfl, rfl⟩) ⟨rfl, fun i u w h1 => by simp at h1⟩ (by simp) (by simp) rfl
theorem invC {h : Heap} {s : SV} {xs : List Int} (hs : IsInts h s xs) (hx : Mid 10000 xs) {r : List Int} (hr : red (rn xs) = r) :
    ∃ v h', Cal FT HK2 19 [.sc s] h v h' ∧ ∃ s', v = .sc s' ∧ IsInts h' s' r ∧ Ext h h' := by
  obtain ⟨v, h', k1, s', k2, k3, k4⟩ := call19 h s xs hs ⟨by have := hx.1; omega, fun x hx' => by have := hx.2 x hx'; omega⟩
  rw [invL_eq, hr] at k3
  exact ⟨v, h', k1, s', k2, Own.ids k3, k4⟩
theorem redC {h : Heap} {s : SV} {xs : List Int} (hs : IsInts h s xs) (hx : Mid 10000 xs) :
    ∃ v h', Cal FT HK2 14 [.sc s] h v h' ∧ ∃ s', v = .sc s' ∧ IsInts h' s' (red xs) ∧ Ext h h' := by
  obtain ⟨v, h', k1, s', k2, k3, k4⟩ := call14 (HK := HK2) rfl rfl h s xs hs ⟨by have := hx.1; omega, hx.big⟩
  exact ⟨v, h', k1, s', k2, Own.ids k3, k4⟩
theorem sameC {h : Heap} {s t : SV} {xs : List Int} (hs : IsInts h s xs) (ht : IsInts h t xs) (hl : xs.length ≤ 1000000000) :
    ∃ v h', Cal FT HK2 15 [.sc s, .sc t] h v h' ∧ h' = h ∧ v = .sc (.bool true) := by
  have := call15 (HK := HK2) rfl rfl h s t xs xs hs ht hl
  rwa [decide_eq_true rfl] at this
theorem Mid.mono {n m : Nat} {xs : List Int} (h : Mid n xs) (hnm : n ≤ m) : Mid m xs := ⟨Nat.le_trans h.1 hnm, h.2⟩
end Go.Proofs.YtgmfjhmphiiifaaDoor
