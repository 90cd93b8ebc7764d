/- Going through the faces, each from its least half-edge: plain. -/
import Derived.Test.YtleoalcbgpjieaaDoorV4
namespace Go.Proofs.YtleoalcbgpjieaaDoor
open Go.Ab
set_option linter.unusedVariables false

theorem orb_symm {n : Nat} {f : Nat → Nat} (hi : Inj n f) (hl : ∀ h, h < n → f h < n) {a h j : Nat} (ha : a < n) (he : it f j a = h) : ∃ i, it f i h = a := by
  obtain ⟨k, h1, h2, h3⟩ := it_back hi hl ha
  obtain ⟨k, rfl⟩ : ∃ z, k = z + 1 := ⟨k - 1, by omega⟩
  obtain ⟨i, h4, h5⟩ := it_all h3 j
  refine ⟨k + 1 - i, ?_⟩
  rw [← he, h5, ← it_add, show k + 1 - i + i = k + 1 by omega, h3]

/-- Seen: on the face of one below c. -/
def Seen (f : Nat → Nat) (c g : Nat) : Prop := ∃ a, a < c ∧ ∃ j, it f j a = g

theorem seen_least {n : Nat} {f : Nat → Nat} (hi : Inj n f) (hl : ∀ h, h < n → f h < n) {c : Nat} (hc : c < n) : ¬ Seen f c c ↔ Least f c := by
  constructor
  · intro h j
    refine Classical.byContradiction fun hlt => h ⟨it f j c, by omega, ?_⟩
    exact orb_symm hi hl hc rfl
  · rintro h ⟨a, ha, j, hj⟩
    obtain ⟨i, hi2⟩ := orb_symm hi hl (by omega) hj
    have := h i
    omega
theorem seen_succ {f : Nat → Nat} {c g : Nat} : Seen f (c + 1) g ↔ Seen f c g ∨ ∃ j, it f j c = g := by
  constructor
  · rintro ⟨a, ha, j, hj⟩
    rcases Nat.lt_or_ge a c with h | h
    · exact .inl ⟨a, h, j, hj⟩
    · have : a = c := by omega
      subst this
      exact .inr ⟨j, hj⟩
  · rintro (⟨a, ha, j, hj⟩ | ⟨j, hj⟩)
    · exact ⟨a, by omega, j, hj⟩
    · exact ⟨c, by omega, j, hj⟩
theorem seen_skip {f : Nat → Nat} {c g : Nat} (h : Seen f c c) : Seen f (c + 1) g ↔ Seen f c g := by
  rw [seen_succ]
  refine ⟨?_, .inl⟩
  rintro (h1 | ⟨j, hj⟩)
  · exact h1
  · obtain ⟨a, ha, i, hi⟩ := h
    exact ⟨a, ha, j + i, by rw [it_add, hi, hj]⟩
theorem seen_stop {n : Nat} {f : Nat → Nat} (hi : Inj n f) (hl : ∀ h, h < n → f h < n) {c i : Nat} (hc : c < n) (hn : ¬ Seen f c c) (hs : Seen f c (it f i c) ∨ ∃ z, z < i ∧ it f z c = it f i c) (g : Nat) :
    (Seen f c g ∨ ∃ z, z < i ∧ it f z c = g) ↔ Seen f (c + 1) g := by
  rw [seen_succ]
  refine ⟨fun h => h.imp id fun ⟨z, _, h2⟩ => ⟨z, h2⟩, fun h => ?_⟩
  rcases h with h | ⟨j, hj⟩
  · exact .inl h
  · refine .inr ?_
    have il : ∀ m, it f m c < n := fun m => by
      induction m with
      | zero => exact hc
      | succ m ih => exact hl _ ih
    rcases hs with ⟨a, ha, x, hx⟩ | ⟨z, hz, hz2⟩
    · obtain ⟨y, hy⟩ := orb_symm hi hl hc (j := i) rfl
      exact absurd ⟨a, ha, y + x, by rw [it_add, hx, hy]⟩ hn
    · have h3 : it f (i - z) c = c := it_cancel hi hl hc z (i - z) (by rw [hz2, show z + (i - z) = i by omega])
      obtain ⟨k, hk⟩ : ∃ k, i - z = k + 1 := ⟨i - z - 1, by omega⟩
      rw [hk] at h3
      obtain ⟨y, h4, h5⟩ := it_all h3 j
      exact ⟨y, by omega, by rw [← h5, hj]⟩

/-- How many are not seen yet. -/
def uns (sn : List Bool) : Nat := sn.countP fun b => !b
theorem uns_set {sn : List Bool} {g : Nat} (hg : g < sn.length) (h : sn.getD g false = false) : uns (sn.set g true) < uns sn := by
  unfold uns
  have h1 : sn[g] = false := by rw [← h]; simp [List.getD, hg]
  rw [List.countP_set hg, h1]
  have : 0 < sn.countP fun b => !b := List.countP_pos_iff.2 ⟨sn[g], List.getElem_mem hg, by rw [h1]; rfl⟩
  simp; omega
theorem getDb_set {sn : List Bool} {b : Nat} {x : Bool} (hb : b < sn.length) (k : Nat) : (sn.set b x).getD k false = if k = b then x else sn.getD k false := by
  simp only [List.getD_eq_getElem?_getD, List.getElem?_set]
  by_cases h : b = k
  · subst h; simp [hb]
  · rw [if_neg h, if_neg (Ne.symm h)]

/-- The numbers of faces less those of crossings. -/
def Exc (ms ps es : List Int) (P c : Nat) : Prop := es.length = P ∧ ∀ p : Nat, p < P → es.getD p 0 = (((leasts ms c).countP (labAt ps p) : Nat) : Int) - ((ps.countP (fun y => y == (p : Int)) : Nat) : Int)
theorem Exc.skip {ms ps es : List Int} {P c : Nat} (h : Exc ms ps es P c) (hn : ¬ Least (phi ms) c) : Exc ms ps es P (c + 1) := by
  refine ⟨h.1, fun p hp => ?_⟩
  rw [leasts_succ, if_neg hn, List.append_nil]
  exact h.2 p hp
theorem Exc.next {ms ps es : List Int} {P c q : Nat} (h : Exc ms ps es P c) (hn : Least (phi ms) c) (hq : ps.getD (c / 4) 0 = (q : Int)) (hqP : q < P) : Exc ms ps (es.set q (es.getD q 0 + 1)) P (c + 1) := by
  refine ⟨by rw [List.length_set]; exact h.1, fun p hp => ?_⟩
  rw [leasts_succ, if_pos hn, List.countP_append, getD_set (by rw [h.1]; exact hqP)]
  have h2 := h.2 p hp
  have h3 : [c].countP (labAt ps p) = if q = p then 1 else 0 := by
    simp only [List.countP_cons, List.countP_nil, labAt, hq, Nat.zero_add]
    by_cases hqp : q = p
    · subst hqp; simp
    · rw [if_neg hqp, if_neg]; simp; omega
  rw [h3]
  by_cases hqp : p = q
  · subst hqp
    rw [if_pos rfl, if_pos rfl, h2]; omega
  · rw [if_neg hqp, if_neg (Ne.symm hqp), h2]; omega
/-- At first: less one for each crossing. -/
def Exc0 (ps es : List Int) (P i : Nat) : Prop := es.length = P ∧ ∀ p : Nat, p < P → es.getD p 0 = -(((ps.take i).countP (fun y => y == (p : Int)) : Nat) : Int)
theorem Exc0.next {ps es : List Int} {P i q : Nat} (h : Exc0 ps es P i) (hq : ps[i]? = some (q : Int)) (hqP : q < P) : Exc0 ps (es.set q (es.getD q 0 - 1)) P (i + 1) := by
  refine ⟨by rw [List.length_set]; exact h.1, fun p hp => ?_⟩
  rw [take_snoc hq, List.countP_append, getD_set (by rw [h.1]; exact hqP)]
  have h2 := h.2 p hp
  have h3 : [(q : Int)].countP (fun y => y == (p : Int)) = if q = p then 1 else 0 := by
    simp only [List.countP_cons, List.countP_nil, Nat.zero_add]
    by_cases hqp : q = p
    · subst hqp; simp
    · rw [if_neg hqp, if_neg]; simp; omega
  rw [h3]
  by_cases hqp : p = q
  · subst hqp
    rw [if_pos rfl, if_pos rfl, h2]; omega
  · rw [if_neg hqp, if_neg (Ne.symm hqp), h2]; omega
theorem Exc0.done {ms ps es : List Int} {P i : Nat} (h : Exc0 ps es P i) (hi : ps.length ≤ i) : Exc ms ps es P 0 := by
  refine ⟨h.1, fun p hp => ?_⟩
  rw [h.2 p hp, List.take_of_length_le hi]
  simp [leasts]
end Go.Proofs.YtleoalcbgpjieaaDoor


/- diagram.spherical: its loops. -/
namespace Go.Proofs.YtleoalcbgpjieaaDoor
open Go.Ab
set_option linter.unusedVariables false
set_option linter.unusedSimpArgs false
set_option maxRecDepth 20000
set_option maxHeartbeats 4000000
attribute [local irreducible] wOps wA wSeq wBlk wRound wRoundI wOpsD
variable {HK : FuncId → Option Hook}

/-- A row of integers, a row of bools. -/
def EX (es : List Int) : Blk := .cells (es.map (.int .i64)) true 1
def SN (sn : List Bool) : Blk := .cells (sn.map .bool) true 1
theorem exRd {es : List Int} {L : Heap} {k : Nat} (hk : k < es.length) {j : Int} (hj : j = (k : Nat)) : readN (EX es :: L) 0 (0 + j.toNat * 1) 1 = some [.int .i64 (es.getD k 0)] := by
  subst hj
  rw [Int.toNat_natCast]
  exact rdS (vs := es.map (.int .i64)) (rw' := true) (z := 1) rfl (by simp [List.getD, hk])
theorem exWr {es : List Int} {L : Heap} {k : Nat} (hk : k < es.length) {j x : Int} (hj : j = (k : Nat)) : writeN (EX es :: L) 0 (0 + j.toNat * 1) [.int .i64 x] = some (EX (es.set k x) :: L) := by
  subst hj
  rw [Int.toNat_natCast]
  exact wrI (z := 1) (L := EX es :: L) (k := 0) rfl hk x
theorem snRd {e : Blk} {sn : List Bool} {k : Nat} (hk : k < sn.length) {j : Int} (hj : j = (k : Nat)) : readN [e, SN sn] 1 (0 + j.toNat * 1) 1 = some [.bool (sn.getD k false)] := by
  subst hj
  rw [Int.toNat_natCast]
  exact rdS (vs := sn.map .bool) (rw' := true) (z := 1) rfl (by simp [List.getD, hk])
theorem snWr {e : Blk} {sn : List Bool} {k : Nat} (hk : k < sn.length) {j : Int} {x : Bool} (hj : j = (k : Nat)) : writeN [e, SN sn] 1 (0 + j.toNat * 1) [.bool x] = some [e, SN (sn.set k x)] := by
  subst hj
  rw [Int.toNat_natCast]
  have := wrS (L := [e, SN sn]) (k := 1) (j := k) (vs := sn.map .bool) (z := 1) rfl (by simpa using hk) (.bool x)
  rw [this]
  simp [SN, List.map_set]

/-! ### One for each crossing -/
def I39a (B : Heap) (b : Nat) (ps : List Int) (P : Nat) (p : SV) (E : Env) (h : Heap) : Prop := ∃ (i : Nat) (es : List Int), i ≤ ps.length ∧ Exc0 ps es P i ∧ h = B ++ [EX es] ∧
  E = [(1, some (.sc (.ptr b 0))), (3, some (.sc p)), (5, some (.sc (.slc (B.length + 0) 0 P (some P)))), (20, some (.sc p)), (21, some (.sc (.int .i64 (ps.length : Nat)))), (22, some (.sc (.int .i64 (i : Nat))))]
def R39a (B : Heap) (b : Nat) (ms ps : List Int) (P : Nat) (p : SV) (ex : Ex) (E : Env) (h : Heap) : Prop := ex = .ex 0 ∧ ∃ es : List Int, Exc ms ps es P 0 ∧ h = B ++ [EX es] ∧ ∃ x y z w,
  E = [(1, some (.sc (.ptr b 0))), (3, some (.sc p)), (5, some (.sc (.slc (B.length + 0) 0 P (some P)))), (20, x), (21, y), (22, z), (23, w)]
theorem round39a (B : Heap) (b : Nat) (ms ps : List Int) (P n : Nat) (p : SV) (hp : IsInts B p ps) (hP : Parts ms n ps P) (hn : n ≤ 64) (E : Env) (h : Heap) (hI : I39a B b ps P p E h) :
    wA FT HK b39L0 (E.keep [1, 3, 5, 20, 21, 22]) h (wRound (I39a B b ps P p) (cntV ps.length 22) (cntV ps.length 22 E h) (R39a B b ms ps P p)) := by
  obtain ⟨i, es, hi, he, rfl, rfl⟩ := hI
  have hpl := hP.len
  by_cases hlt : i < ps.length
  · obtain ⟨q, hq, hqP⟩ := hP.rng i (by omega)
    have hx : ps[i]? = some (q : Int) := by
      rw [← hq]; simp [List.getD, hlt]
    have hel : q < es.length := by rw [he.1]; exact hqP
    have heb : -64 ≤ es.getD q 0 ∧ es.getD q 0 ≤ 0 := by
      rw [he.2 q hqP]
      have : (ps.take i).countP (fun y => y == (q : Int)) ≤ ps.length := Nat.le_trans List.countP_le_length (by simp; omega)
      omega
    obtain ⟨id, off, cap, rfl, hr⟩ := IsInts.at (isA [EX es] hp) hx
    repeat' (first | refine w_seq ?_ | refine w_seqN ?_ | refine w_blk ?_ | refine w_blkN ?_ | refine w_skip ?_ | refine w_ops ?_ | ((refine i_cond ?_); refine w_condT rfl ?_) | ((refine i_nil ?_); first | refine w_end6 rfl rfl rfl rfl rfl rfl ?_ | refine w_end7 rfl rfl rfl rfl rfl rfl rfl ?_) | ((refine i_cons ?_); first | refine k_idxA rfl rfl (by omega) ?_ | refine k_ldL rfl (exRd hel rfl) ?_ | refine k_ld rfl hr ?_ | refine k_stL rfl rfl rfl rfl (exWr hel rfl) ?_ | refine k_mv rfl ?_ | refine k_add rfl rfl (by omega) ?_ | refine k_sub rfl rfl (by omega) ?_ | refine k_lssT rfl rfl (by omega) ?_))
    exact w_roundN ⟨i + 1, _, by omega, he.next hx hqP, rfl, rfl⟩ (by simp [cntV, Env.get]; omega)
  · repeat' (first | refine w_seq ?_ | refine w_seqN ?_ | refine w_seqX ?_ | refine w_exit ?_ | refine w_ops ?_ | ((refine i_cond ?_); refine w_condF rfl ?_) | ((refine i_nil ?_); refine w_end7 rfl rfl rfl rfl rfl rfl rfl ?_) | ((refine i_cons ?_); refine k_lssF rfl rfl (by omega) ?_))
    exact w_roundX ⟨rfl, es, he.done (by omega), rfl, _, _, _, _, rfl⟩

/-! ### Along a face -/
def SeenF (ms : List Int) (c i : Nat) (sn : List Bool) : Prop := sn.length = ms.length ∧ ∀ g, g < ms.length → (sn.getD g false = true ↔ Seen (phi ms) c g ∨ ∃ z, z < i ∧ it (phi ms) z c = g)
def SeenG (ms : List Int) (c : Nat) (sn : List Bool) : Prop := sn.length = ms.length ∧ ∀ g, g < ms.length → (sn.getD g false = true ↔ Seen (phi ms) c g)
def I39g (B : Heap) (b : Nat) (ms es : List Int) (P c : Nat) (p : SV) (k : Nat) (E : Env) (h : Heap) : Prop := ∃ (i : Nat) (sn : List Bool), SeenF ms c i sn ∧ uns sn = k ∧ h = B ++ [EX es, SN sn] ∧
  E = [(1, some (.sc (.ptr b 0))), (3, some (.sc p)), (5, some (.sc (.slc (B.length + 0) 0 P (some P)))), (8, some (.sc (.slc (B.length + 1) 0 ms.length (some ms.length)))), (10, some (.sc (.int .i64 (it (phi ms) i c : Nat)))), (39, some (.sc (.int .i64 (ms.length : Nat)))), (40, some (.sc (.int .i64 (c : Nat))))]
def R39g (B : Heap) (b : Nat) (ms es : List Int) (P c : Nat) (p : SV) (ex : Ex) (E : Env) (h : Heap) : Prop := ex = .ex 4 ∧ ∃ (sn : List Bool), SeenG ms (c + 1) sn ∧ h = B ++ [EX es, SN sn] ∧ ∃ x y,
  E = [(1, some (.sc (.ptr b 0))), (3, some (.sc p)), (5, some (.sc (.slc (B.length + 0) 0 P (some P)))), (8, some (.sc (.slc (B.length + 1) 0 ms.length (some ms.length)))), (10, x), (39, some (.sc (.int .i64 (ms.length : Nat)))), (40, some (.sc (.int .i64 (c : Nat)))), (62, y)]
theorem round39g (hk57 : HK 57 = none) (B : Heap) (b : Nat) (s m : SV) (l : Int) (hbx : Blk.At B b [s, m, .int .i64 l]) (ms es : List Int) (P c : Nat) (p : SV) (hs : IsInts B m ms) (hm : Mates ms) (hv : Inv ms) (hc : c < ms.length) (hno : ¬ Seen (phi ms) c c) (k : Nat) (E : Env) (h : Heap) (hI : I39g B b ms es P c p k E h) :
    wA FT HK b39L2 (E.keep [1, 3, 5, 8, 10, 39, 40]) h (wRoundI (I39g B b ms es P c p) k (R39g B b ms es P c p)) := by
  obtain ⟨i, sn, hsn, rfl, rfl, rfl⟩ := hI
  have hit := hm.it_lt hc i
  have hml := hm.len
  have hsl : it (phi ms) i c < sn.length := by rw [hsn.1]; exact hit
  have hi := phi_inj hm hv
  have hl : ∀ h, h < ms.length → phi ms h < ms.length := fun h hh => hm.phi_lt hh
  cases hx : sn.getD (it (phi ms) i c) false with
  | true =>
    have hst := seen_stop hi hl hc hno ((hsn.2 _ hit).1 hx)
    have hrd := snRd (e := EX es) hsl (j := ((it (phi ms) i c : Nat) : Int)) rfl
    rw [hx] at hrd
    repeat' (first | refine w_seq ?_ | refine w_seqN ?_ | refine w_seqX ?_ | refine w_exit ?_ | refine w_ops ?_ | ((refine i_cond ?_); refine w_condF rfl ?_) | ((refine i_nil ?_); refine w_end8 rfl rfl rfl rfl rfl rfl rfl rfl ?_) | ((refine i_cons ?_); first | refine k_idxA rfl rfl (by omega) ?_ | refine k_ldL rfl hrd ?_ | refine k_mv rfl ?_ | refine k_notT rfl ?_))
    exact w_roundIX ⟨rfl, sn, ⟨hsn.1, fun g hg => (hsn.2 g hg).trans (hst g)⟩, rfl, _, _, rfl⟩
  | false =>
    have hrd := snRd (e := EX es) hsl (j := ((it (phi ms) i c : Nat) : Int)) rfl
    rw [hx] at hrd
    obtain ⟨t, hg1, hg2⟩ := hm.get _ hit
    have hbx2 := hbx.ext (⟨_, rfl⟩ : Ext B (B ++ [EX es, SN (sn.set (it (phi ms) i c) true)]))
    obtain ⟨id, off, cap, rfl, hr⟩ := IsInts.at (isA [EX es, SN (sn.set (it (phi ms) i c) true)] hs) hg1
    repeat' (first | refine w_seq ?_ | refine w_seqN ?_ | refine w_blk ?_ | refine w_blkN ?_ | refine w_skip ?_ | refine w_ops ?_ | ((refine i_cond ?_); refine w_condT rfl ?_) | ((refine i_nil ?_); first | refine w_end7 rfl rfl rfl rfl rfl rfl rfl ?_ | refine w_end8 rfl rfl rfl rfl rfl rfl rfl rfl ?_) | ((refine i_cons ?_); first | refine k_idxA rfl rfl (by omega) ?_ | refine k_ldL rfl hrd ?_ | refine k_stL rfl rfl rfl rfl (snWr hsl rfl) ?_ | refine k_fldA rfl ?_ | refine k_ldb rfl hbx2 rfl ?_ | refine k_ld rfl hr ?_ | (refine k_call rfl (call57 hk57 _ t 3 (-1) (by omega) (by omega) (.inr (by decide))) ?_; rintro v h3 ⟨rfl, rfl⟩) | refine k_mv rfl ?_ | refine k_notF rfl ?_))
    have hnx : it (phi ms) (i + 1) c = turnN t 3 := by
      show turnN (ms.getD (it (phi ms) i c) 0).toNat 3 = _
      rw [getD_at hg1]; simp
    refine w_roundIN (uns_set hsl hx) ⟨i + 1, sn.set (it (phi ms) i c) true, ⟨by rw [List.length_set]; exact hsn.1, fun g hg => ?_⟩, rfl, rfl, by rw [hnx]⟩
    rw [getDb_set hsl]
    split
    · rename_i he
      subst he
      exact ⟨fun _ => .inr ⟨i, by omega, rfl⟩, fun _ => rfl⟩
    · rename_i hne
      rw [hsn.2 g hg]
      constructor
      · exact fun h => h.imp (fun h => h) fun ⟨z, h1, h2⟩ => ⟨z, by omega, h2⟩
      · rintro (h | ⟨z, h1, h2⟩)
        · exact .inl h
        · rcases Nat.lt_or_ge z i with h3 | h3
          · exact .inr ⟨z, h3, h2⟩
          · have : z = i := by omega
            subst this
            exact absurd h2.symm hne

/-! ### All half-edges -/
def I39c (B : Heap) (b : Nat) (ms ps : List Int) (P : Nat) (p : SV) (E : Env) (h : Heap) : Prop := ∃ (c : Nat) (es : List Int) (sn : List Bool), c ≤ ms.length ∧ Exc ms ps es P c ∧ SeenG ms c sn ∧ h = B ++ [EX es, SN sn] ∧
  E = [(1, some (.sc (.ptr b 0))), (3, some (.sc p)), (5, some (.sc (.slc (B.length + 0) 0 P (some P)))), (8, some (.sc (.slc (B.length + 1) 0 ms.length (some ms.length)))), (39, some (.sc (.int .i64 (ms.length : Nat)))), (40, some (.sc (.int .i64 (c : Nat))))]
def R39c (B : Heap) (ms ps : List Int) (P : Nat) (ex : Ex) (E : Env) (h : Heap) : Prop := ex = .ex 2 ∧ ∃ (es : List Int) (sn : List Bool), Exc ms ps es P ms.length ∧ h = B ++ [EX es, SN sn] ∧ ∃ w x y z u v,
  E = [(1, w), (3, x), (5, some (.sc (.slc (B.length + 0) 0 P (some P)))), (8, y), (39, z), (40, u), (41, v)]
theorem round39c (hk57 : HK 57 = none) (B : Heap) (b : Nat) (s m : SV) (l : Int) (hbx : Blk.At B b [s, m, .int .i64 l]) (ms ps : List Int) (P n : Nat) (p : SV) (hp : IsInts B p ps) (hs : IsInts B m ms) (hm : Mates ms) (hv : Inv ms) (hf : Fits ms n) (hP : Parts ms n ps P) (hn : n ≤ 64) (E : Env) (h : Heap) (hI : I39c B b ms ps P p E h) :
    wA FT HK b39L1 (E.keep [1, 3, 5, 8, 39, 40]) h (wRound (I39c B b ms ps P p) (cntV ms.length 40) (cntV ms.length 40 E h) (R39c B ms ps P)) := by
  obtain ⟨c, es, sn, hc, he, hsn, rfl, rfl⟩ := hI
  have hn4 := hf.n4
  have hpl := hP.len
  have hi := phi_inj hm hv
  have hl : ∀ h, h < ms.length → phi ms h < ms.length := fun h hh => hm.phi_lt hh
  by_cases hlt : c < ms.length
  · have hsl : c < sn.length := by rw [hsn.1]; exact hlt
    have hrd := snRd (e := EX es) hsl (j := ((c : Nat) : Int)) rfl
    cases hx : sn.getD c false with
    | true =>
      rw [hx] at hrd
      have hse := (hsn.2 c hlt).1 hx
      repeat' (first | refine w_seq ?_ | refine w_seqN ?_ | refine w_seqX ?_ | refine w_blk ?_ | refine w_blkX ?_ | refine w_skip ?_ | refine w_exit ?_ | refine w_ops ?_ | ((refine i_cond ?_); refine w_condT rfl ?_) | ((refine i_nil ?_); first | refine w_end6 rfl rfl rfl rfl rfl rfl ?_ | refine w_end7 rfl rfl rfl rfl rfl rfl rfl ?_ | refine w_end8 rfl rfl rfl rfl rfl rfl rfl rfl ?_) | ((refine i_cons ?_); first | refine k_idxA rfl rfl (by omega) ?_ | refine k_ldL rfl hrd ?_ | refine k_mv rfl ?_ | refine k_add rfl rfl (by omega) ?_ | refine k_lssT rfl rfl (by omega) ?_))
      refine w_roundN ⟨c + 1, es, sn, by omega, he.skip (fun h => (seen_least hi hl hlt).2 h hse), ⟨hsn.1, fun g hg => (hsn.2 g hg).trans (seen_skip hse).symm⟩, rfl, rfl⟩ (by simp [cntV, Env.get]; omega)
    | false =>
      rw [hx] at hrd
      have hno : ¬ Seen (phi ms) c c := fun h => by have := (hsn.2 c hlt).2 h; rw [hx] at this; cases this
      have hL := (seen_least hi hl hlt).1 hno
      obtain ⟨q, hq, hqP⟩ := hP.rng (c / 4) (by omega)
      have hel : q < es.length := by rw [he.1]; exact hqP
      have hxq : ps[c / 4]? = some (q : Int) := by
        rw [← hq]; simp [List.getD, show c / 4 < ps.length by omega]
      have heb : -64 ≤ es.getD q 0 ∧ es.getD q 0 ≤ 256 := by
        rw [he.2 q hqP]
        have h1 : ps.countP (fun y => y == (q : Int)) ≤ ps.length := List.countP_le_length
        have h2 : (leasts ms c).countP (labAt ps q) ≤ (leasts ms c).length := List.countP_le_length
        have h3 := leasts_le ms c
        omega
      obtain ⟨id, off, cap, rfl, hr⟩ := IsInts.at (isA [EX es, SN sn] hp) hxq
      have hr2 : ∀ {j : Int}, j = ((c / 4 : Nat) : Int) → readN (B ++ [EX es, SN sn]) id (off + j.toNat * 1) 1 = some [.int .i64 (q : Int)] := fun hj => by subst hj; rw [Int.toNat_natCast]; exact hr
      repeat' (first | refine w_seq ?_ | refine w_seqN ?_ | refine w_blk ?_ | refine w_skip ?_ | refine w_ops ?_ | ((refine i_cond ?_); first | refine w_condT rfl ?_ | refine w_condF rfl ?_) | ((refine i_nil ?_); first | refine w_end7 rfl rfl rfl rfl rfl rfl rfl ?_ | refine w_end8 rfl rfl rfl rfl rfl rfl rfl rfl ?_) | ((refine i_cons ?_); first | refine k_idxA rfl rfl (by omega) ?_ | refine k_ldL rfl hrd ?_ | refine k_ldL rfl (exRd hel rfl) ?_ | refine k_ld rfl (hr2 (by omega)) ?_ | refine k_stL rfl rfl rfl rfl (exWr hel rfl) ?_ | refine k_mv rfl ?_ | refine k_add rfl rfl (by omega) ?_ | refine k_quo rfl rfl (by omega) ?_ | refine k_lssT rfl rfl (by omega) ?_))
      refine w_loopI (I39g B b ms (es.set q (es.getD q 0 + 1)) P c (.slc id off ps.length cap)) (uns sn) (R39g B b ms (es.set q (es.getD q 0 + 1)) P c (.slc id off ps.length cap)) ⟨0, sn, ⟨hsn.1, fun g hg => (hsn.2 g hg).trans ⟨.inl, fun h => h.elim (fun h => h) fun ⟨z, h1, _⟩ => absurd h1 (by omega)⟩⟩, rfl, rfl, rfl⟩ (round39g hk57 B b s m l hbx ms _ P c _ hs hm hv hlt hno) ?_
      rintro ex E' h' ⟨rfl, sn2, hsn2, rfl, x, y, rfl⟩
      repeat' (first | refine w_seqN ?_ | refine w_blkN ?_ | refine w_blkX ?_ | refine w_ops ?_ | ((refine i_nil ?_); refine w_end6 rfl rfl rfl rfl rfl rfl ?_) | ((refine i_cons ?_); first | refine k_mv rfl ?_ | refine k_add rfl rfl (by omega) ?_))
      exact w_roundN ⟨c + 1, _, sn2, by omega, he.next hL hq hqP, hsn2, rfl, rfl⟩ (by simp [cntV, Env.get]; omega)
  · have : c = ms.length := by omega
    subst this
    repeat' (first | refine w_seq ?_ | refine w_seqN ?_ | refine w_seqX ?_ | refine w_exit ?_ | refine w_ops ?_ | ((refine i_cond ?_); refine w_condF rfl ?_) | ((refine i_nil ?_); refine w_end7 rfl rfl rfl rfl rfl rfl rfl ?_) | ((refine i_cons ?_); refine k_lssF rfl rfl (by omega) ?_))
    exact w_roundX ⟨rfl, es, sn, he, rfl, _, _, _, _, _, _, rfl⟩

/-! ### Is each two? -/
def I39e (B : Heap) (es : List Int) (sn : List Bool) (P : Nat) (E : Env) (h : Heap) : Prop := h = B ++ [EX es, SN sn] ∧ ∃ i : Nat, i ≤ P ∧ (∀ p, p < i → es.getD p 0 = 2) ∧
  E = [(73, some (.sc (.slc (B.length + 0) 0 P (some P)))), (74, some (.sc (.int .i64 (P : Nat)))), (75, some (.sc (.int .i64 (i : Nat))))]
def R39e (B : Heap) (es : List Int) (sn : List Bool) (P : Nat) (ex : Ex) (E : Env) (h : Heap) : Prop := h = B ++ [EX es, SN sn] ∧ match ex with
  | .rt => E = [(2, some (.sc (.bool false)))] ∧ ¬ ∀ p, p < P → es.getD p 0 = 2
  | .ex i => i = 6 ∧ ∀ p, p < P → es.getD p 0 = 2
  | .nm => False
theorem round39e (B : Heap) (es : List Int) (sn : List Bool) (P : Nat) (hel : es.length = P) (hP : P ≤ 64) (E : Env) (h : Heap) (hI : I39e B es sn P E h) :
    wA FT HK b39L3 (E.keep [73, 74, 75]) h (wRound (I39e B es sn P) (cntV P 75) (cntV P 75 E h) (R39e B es sn P)) := by
  obtain ⟨rfl, i, hi, hall, rfl⟩ := hI
  by_cases hlt : i < P
  · have hrd := exRd (L := [SN sn]) (show i < es.length by omega) (j := ((i : Nat) : Int)) rfl
    by_cases h2 : es.getD i 0 = 2
    · rw [h2] at hrd
      repeat' (first | refine w_seq ?_ | refine w_seqN ?_ | refine w_blk ?_ | refine w_blkN ?_ | refine w_skip ?_ | refine w_ops ?_ | ((refine i_cond ?_); first | refine w_condT rfl ?_ | refine w_condF rfl ?_) | ((refine i_nil ?_); first | refine w_end3 rfl rfl rfl ?_ | refine w_end4 rfl rfl rfl rfl ?_) | ((refine i_cons ?_); first | refine k_idxA rfl rfl (by omega) ?_ | refine k_ldL rfl hrd ?_ | refine k_mv rfl ?_ | refine k_add rfl rfl (by omega) ?_ | refine k_lssT rfl rfl (by omega) ?_ | refine k_neqF rfl rfl (by omega) ?_))
      refine w_roundN ⟨rfl, i + 1, by omega, fun p hp => ?_, rfl⟩ (by simp [cntV, Env.get]; omega)
      rcases Nat.lt_or_ge p i with h3 | h3
      · exact hall p h3
      · have : p = i := by omega
        subst this; exact h2
    · repeat' (first | refine w_seq ?_ | refine w_seqN ?_ | refine w_seqR ?_ | refine w_blk ?_ | refine w_blkR ?_ | refine w_skip ?_ | refine w_ret ?_ | refine w_ops ?_ | ((refine i_cond ?_); refine w_condT rfl ?_) | ((refine i_nil ?_); first | refine w_end1 rfl ?_ | refine w_end4 rfl rfl rfl rfl ?_) | ((refine i_cons ?_); first | refine k_idxA rfl rfl (by omega) ?_ | refine k_ldL rfl hrd ?_ | refine k_mv rfl ?_ | refine k_lssT rfl rfl (by omega) ?_ | refine k_neqT rfl rfl (by omega) ?_))
      exact w_roundR ⟨rfl, rfl, fun h => h2 (h i hlt)⟩
  · repeat' (first | refine w_seq ?_ | refine w_seqN ?_ | refine w_seqX ?_ | refine w_exit ?_ | refine w_ops ?_ | ((refine i_cond ?_); refine w_condF rfl ?_) | ((refine i_nil ?_); refine w_end4 rfl rfl rfl rfl ?_) | ((refine i_cons ?_); refine k_lssF rfl rfl (by omega) ?_))
    exact w_roundX ⟨rfl, rfl, fun p hp => hall p (by omega)⟩

theorem call39 (hk : HK 39 = none) (hk59 : HK 59 = none) (hk57 : HK 57 = none) (h0 : Heap) (s m : SV) (l : Int) (xs ms : List Int) (hx : IsInts h0 s xs) (hs : IsInts h0 m ms) (hm : Mates ms) (hv : Inv ms) (hf : Fits ms xs.length) (hn : xs.length ≤ 64) :
    ∃ v h', Cal FT HK 39 [.agg [s, m, .int .i64 l]] h0 v h' ∧ Ext h0 h' ∧ ∃ b, v = .sc (.bool b) ∧ (b = true ↔ Sph ms xs.length) := by
  refine Cal.of (F := a39) hk rfl rfl ?_
  have hml := hm.len
  have hsl : lenS false m = some (ms.length : Int) := IsSl.len hs
  repeat' (first | refine w_seq ?_ | refine w_seqN ?_ | refine w_ops ?_ | ((refine i_nil ?_); first | refine w_end1 rfl ?_ | refine w_end3 rfl rfl rfl ?_) | ((refine i_cons ?_); first | (refine k_box rfl rfl ?_; intro h1 e1 l1 b1) | refine k_ldA rfl b1 rfl ?_ | (refine k_call rfl (call59 hk59 h1 s m l xs ms (IsSl.ext hx e1) (IsSl.ext hs e1) hm hv hf hn) ?_; rintro v B ⟨e2, P, ps, p, rfl, hp, hP, hPn⟩) | refine k_mk0 rfl rfl (by simp only [bigN]; omega) ?_ | refine k_mv rfl ?_ | refine k_ok rfl rfl ?_))
  have hpl := hP.len
  have hpi : IsInts B p ps := hp.ids
  have hplen : lenS false p = some (ps.length : Int) := IsSl.len hpi
  repeat' (first | refine w_seqN ?_ | refine w_blk ?_ | ((refine i_nil ?_); refine w_end6 rfl rfl rfl rfl rfl rfl ?_) | ((refine i_cons ?_); first | refine k_len rfl hplen ?_ | refine k_mv rfl ?_))
  refine w_loop (I39a B h0.length ps P p) (cntV ps.length 22) (R39a B h0.length ms ps P p) ⟨0, List.replicate P 0, by omega, ⟨by simp, fun p hp => by simp [List.getD, hp]⟩, by simp [EX], rfl⟩ (round39a B h0.length ms ps P xs.length p hpi hP hn) ?_
  rintro ex E' h' ⟨rfl, es, he, rfl, x, y, z, w, rfl⟩
  have bT : ∀ T, Blk.At (B ++ T) h0.length [s, m, .int .i64 l] := fun T => (b1.ext e2).ext ⟨_, rfl⟩
  have e3 : Ext h0 B := e1.trans e2
  repeat' (first | refine w_seq ?_ | refine w_seqN ?_ | refine w_blk ?_ | refine w_blkX ?_ | refine w_ops ?_ | ((refine i_nil ?_); first | refine w_end4 rfl rfl rfl rfl ?_ | refine w_end6 rfl rfl rfl rfl rfl rfl ?_) | ((refine i_cons ?_); first | refine k_fldA rfl ?_ | refine k_ldb rfl (bT _) rfl ?_ | refine k_len rfl hsl ?_ | refine k_mkL rfl rfl (by simp only [bigN]; omega) ?_ | refine k_mv rfl ?_))
  refine w_loop (I39c B h0.length ms ps P p) (cntV ms.length 40) (R39c B ms ps P) ⟨0, es, List.replicate ms.length false, by omega, he, ⟨by simp, fun g hg => ?_⟩, by simp [SN], rfl⟩ (round39c hk57 B h0.length s m l (b1.ext e2) ms ps P xs.length p hpi (IsSl.ext hs e3) hm hv hf hP hn) ?_
  · have h3 : (List.replicate ms.length false).getD g false = false := by simp [List.getD, hg]
    rw [h3]
    exact ⟨fun h => (by cases h), fun ⟨a, ha, _⟩ => absurd ha (by omega)⟩
  rintro ex E' h' ⟨rfl, es, sn, he, rfl, w, x, y, z, u, v, rfl⟩
  have hout : ∀ T, Ext h0 (B ++ T) := fun T => e3.app T
  have hex : (∀ p : Nat, p < P → es.getD p 0 = 2) ↔ Sph ms xs.length := by
    rw [← parts_sph hm hv hf hP]
    exact ⟨fun h p hp => by rw [← he.2 p hp]; exact h p hp, fun h p hp => by rw [he.2 p hp]; exact h p hp⟩
  have hln : lenS false (SV.slc (B.length + 0) 0 P (some P)) = some ((P : Nat) : Int) := rfl
  repeat' (first | refine w_seq ?_ | refine w_seqN ?_ | refine w_blk ?_ | refine w_blkX ?_ | refine w_ops ?_ | ((refine i_nil ?_); refine w_end3 rfl rfl rfl ?_) | ((refine i_cons ?_); first | refine k_len rfl hln ?_ | refine k_mv rfl ?_))
  refine w_loop (I39e B es sn P) (cntV P 75) (R39e B es sn P) ⟨rfl, 0, by omega, fun p hp => by omega, rfl⟩ (round39e B es sn P he.1 (by omega)) ?_
  rintro ex E' h' ⟨rfl, hR⟩
  cases ex with
  | nm => exact hR.elim
  | rt =>
    obtain ⟨rfl, hno⟩ := hR
    repeat' (first | refine w_seqR ?_ | refine w_blkR ?_)
    exact ⟨.inr rfl, hout _, false, rfl, ⟨fun h => (by cases h), fun h => absurd (hex.2 h) hno⟩⟩
  | ex i =>
    obtain ⟨rfl, hyes⟩ := hR
    repeat' (first | refine w_seq ?_ | refine w_seqN ?_ | refine w_blkX ?_ | refine w_ret ?_ | refine w_ops ?_ | ((refine i_nil ?_); refine w_end1 rfl ?_) | ((refine i_cons ?_); refine k_mv rfl ?_))
    exact ⟨.inr rfl, hout _, true, rfl, ⟨fun _ => hex.1 hyes, fun _ => rfl⟩⟩

end Go.Proofs.YtleoalcbgpjieaaDoor

