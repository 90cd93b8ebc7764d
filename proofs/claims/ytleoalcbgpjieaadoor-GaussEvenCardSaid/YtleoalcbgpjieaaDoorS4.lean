/- Strands, in plain words. -/
import Derived.Test.YtleoalcbgpjieaaDoorV8
namespace Go.Proofs.YtleoalcbgpjieaaDoor
open Go.Ab
set_option linter.unusedVariables false

/-- The next half-edge along the strand. -/
def psi (ms : List Int) (h : Nat) : Nat := turnN (ms.getD h 0).toNat 2
theorem Mates.psi_lt {ms : List Int} (hm : Mates ms) {h : Nat} (hh : h < ms.length) : psi ms h < ms.length := by
  obtain ⟨m, h1, h2⟩ := hm.get h hh
  unfold psi
  rw [getD_at h1]
  exact turn_lt hm.four (by simpa using h2)
theorem Mates.pit_lt {ms : List Int} (hm : Mates ms) {h : Nat} (hh : h < ms.length) : ∀ n, it (psi ms) n h < ms.length
  | 0 => hh
  | n + 1 => hm.psi_lt (hm.pit_lt hh n)
theorem psi_inj {ms : List Int} (hm : Mates ms) (hv : Inv ms) : Inj ms.length (psi ms) := by
  intro a b ha hb he
  obtain ⟨m, h1, h2⟩ := hm.get a ha
  obtain ⟨m', h3, h4⟩ := hm.get b hb
  unfold psi at he
  rw [getD_at h1, getD_at h3] at he
  have h5 := turn_inj (by omega) he
  simp at h5
  subst h5
  have h6 := hv _ _ h1
  have h7 := hv _ _ h3
  rw [h6] at h7
  have h8 := Option.some.inj h7
  omega

/-- The first k + 1 of an orbit. -/
def orbN (f : Nat → Nat) (h k : Nat) : List Nat := (List.range (k + 1)).map fun j => it f j h
theorem orbN_succ (f : Nat → Nat) (h k : Nat) : orbN f h (k + 1) = orbN f h k ++ [it f (k + 1) h] := by
  unfold orbN; rw [List.range_succ, List.map_append]; rfl
theorem orbN_len (f : Nat → Nat) (h k : Nat) : (orbN f h k).length = k + 1 := by simp [orbN]
/-- L is the orbit of h, from h on. -/
def Cyc (f : Nat → Nat) (h : Nat) (L : List Nat) : Prop := ∃ k, L = orbN f h k ∧ it f (k + 1) h = h ∧ ∀ j, 1 ≤ j → j ≤ k → it f j h ≠ h
theorem Cyc.uniq {f : Nat → Nat} {h : Nat} {L M : List Nat} (a : Cyc f h L) (b : Cyc f h M) : L = M := by
  obtain ⟨k, h1, h2, h3⟩ := a
  obtain ⟨j, g1, g2, g3⟩ := b
  have : k = j := by
    rcases Nat.lt_trichotomy k j with h | h | h
    · exact absurd h2 (g3 (k + 1) (by omega) (by omega))
    · exact h
    · exact absurd g2 (h3 (j + 1) (by omega) (by omega))
  subst this
  rw [h1, g1]
theorem Cyc.mem {f : Nat → Nat} {h : Nat} {L : List Nat} (a : Cyc f h L) {g : Nat} : g ∈ L ↔ ∃ j, it f j h = g := by
  obtain ⟨k, rfl, h2, h3⟩ := a
  unfold orbN
  simp only [List.mem_map, List.mem_range]
  constructor
  · rintro ⟨j, _, hj⟩
    exact ⟨j, hj⟩
  · rintro ⟨j, hj⟩
    obtain ⟨i, h4, h5⟩ := it_all h2 j
    exact ⟨i, by omega, by rw [← h5, hj]⟩
/-- There is one, of at most n. -/
theorem Cyc.some {n : Nat} {f : Nat → Nat} (hi : Inj n f) (hl : ∀ h, h < n → f h < n) {h : Nat} (hh : h < n) : ∃ L, Cyc f h L ∧ L.length ≤ n := by
  obtain ⟨j, h1, h2, h3⟩ := it_back hi hl hh
  have key : ∀ m, m ≤ n → it f (m + 1) h = h → ∃ L, Cyc f h L ∧ L.length ≤ m + 1 := by
    intro m
    induction m using Nat.strongRecOn with
    | _ m ih =>
      intro hm he
      by_cases hx : ∀ j, 1 ≤ j → j ≤ m → it f j h ≠ h
      · exact ⟨_, ⟨m, rfl, he, hx⟩, by rw [orbN_len]; omega⟩
      · simp only [Classical.not_forall] at hx
        obtain ⟨i, a1, a2, a3⟩ := hx
        obtain ⟨L, b1, b2⟩ := ih (i - 1) (by omega) (by omega) (by rw [show i - 1 + 1 = i by omega]; exact Classical.not_not.1 a3)
        exact ⟨L, b1, by omega⟩
  obtain ⟨L, b1, b2⟩ := key (j - 1) (by omega) (by rw [show j - 1 + 1 = j by omega]; exact h3)
  exact ⟨L, b1, by omega⟩
open Classical in
/-- The orbit of h. -/
noncomputable def cyc (f : Nat → Nat) (h : Nat) : List Nat := if hx : ∃ L, Cyc f h L then hx.choose else []
theorem Cyc.eq {f : Nat → Nat} {h : Nat} {L : List Nat} (a : Cyc f h L) : cyc f h = L := by
  unfold cyc
  have hx : ∃ L, Cyc f h L := ⟨L, a⟩
  rw [dif_pos hx]
  exact hx.choose_spec.uniq a
theorem cyc_is {ms : List Int} (hm : Mates ms) (hv : Inv ms) {h : Nat} (hh : h < ms.length) : Cyc (psi ms) h (cyc (psi ms) h) ∧ (cyc (psi ms) h).length ≤ ms.length := by
  obtain ⟨L, h1, h2⟩ := Cyc.some (psi_inj hm hv) (fun h hh => hm.psi_lt hh) hh
  rw [h1.eq]; exact ⟨h1, h2⟩

open Classical in
/-- Where the strands begin, below c. -/
noncomputable def starts (xs ms : List Int) (c : Nat) : List Nat := (List.range c).filter fun h => outB xs h && decide (Least (psi ms) h)
theorem starts_succ (xs ms : List Int) (c : Nat) : starts xs ms (c + 1) = starts xs ms c ++ (open Classical in if outB xs c = true ∧ Least (psi ms) c then [c] else []) := by
  unfold starts
  rw [List.range_succ, List.filter_append]
  congr 1
  by_cases h : outB xs c = true ∧ Least (psi ms) c
  · rw [if_pos h]; simp [h.1, h.2]
  · rw [if_neg h]
    by_cases h1 : outB xs c = true
    · have h2 : ¬ Least (psi ms) c := fun h2 => h ⟨h1, h2⟩
      simp [h2]
    · simp at h1; simp [h1]
theorem starts_le (xs ms : List Int) (c : Nat) : (starts xs ms c).length ≤ c := by
  unfold starts
  exact Nat.le_trans (List.length_filter_le _ _) (by simp)
theorem starts_mem {xs ms : List Int} {c h : Nat} : h ∈ starts xs ms c ↔ h < c ∧ outB xs h = true ∧ Least (psi ms) h := by
  unfold starts
  simp [List.mem_filter]
/-- The strands. -/
noncomputable def strs (xs ms : List Int) : List (List Nat) := (starts xs ms ms.length).map (cyc (psi ms))

/-- Going on along a strand: from outgoing to outgoing. -/
theorem psi_out {xs ms : List Int} {l : Int} (hF : Front xs ms l) {h : Nat} (hh : h < ms.length) (ho : outB xs h = true) : outB xs (psi ms h) = true := by
  obtain ⟨m, h1, h2, h3, h4, h5⟩ := hF.ok h hh
  have hp : psi ms h = turnN m 2 := by unfold psi; rw [getD_at h1]; simp
  have hmo : outB xs m = false := by
    cases hx : outB xs m with
    | false => rfl
    | true => exact absurd (ho.trans hx.symm) h5
  have hlen := hF.four
  have hx : xs[m / 4]? = some (xs.getD (m / 4) 0) := by simp [List.getD, show m / 4 < xs.length by omega]
  have hs := hF.sgn _ (List.mem_of_getElem? hx)
  have hd : turnN m 2 / 4 = m / 4 := by unfold turnN; omega
  have hr : turnN m 2 % 4 = (m % 4 + 2) % 4 := by unfold turnN; omega
  rw [hp]
  unfold outB at hmo ⊢
  rw [hd, hr]
  have h4 : m % 4 = 0 ∨ m % 4 = 1 ∨ m % 4 = 2 ∨ m % 4 = 3 := by omega
  rcases h4 with h | h | h | h <;> rw [h] at hmo ⊢ <;> rcases hs with hs | hs <;> rw [hs] at hmo ⊢ <;> simp at hmo ⊢
theorem pit_out {xs ms : List Int} {l : Int} (hF : Front xs ms l) {h : Nat} (hh : h < ms.length) (ho : outB xs h = true) : ∀ j, outB xs (it (psi ms) j h) = true
  | 0 => ho
  | j + 1 => psi_out hF (hF.mates.pit_lt hh j) (pit_out hF hh ho j)

/-- Seen: on the strand of an outgoing one below c. -/
def SeenO (xs ms : List Int) (c g : Nat) : Prop := ∃ a, a < c ∧ outB xs a = true ∧ ∃ j, it (psi ms) j a = g
theorem seenO_least {xs ms : List Int} {l : Int} (hF : Front xs ms l) {c : Nat} (hc : c < ms.length) (ho : outB xs c = true) : ¬ SeenO xs ms c c ↔ Least (psi ms) c := by
  have hi := psi_inj hF.mates hF.inv
  have hl : ∀ h, h < ms.length → psi ms h < ms.length := fun h hh => hF.mates.psi_lt hh
  constructor
  · intro h j
    refine Classical.byContradiction fun hlt => h ⟨it (psi ms) j c, by omega, pit_out hF hc ho j, ?_⟩
    exact orb_symm hi hl hc rfl
  · rintro h ⟨a, ha, _, j, hj⟩
    obtain ⟨i, hi2⟩ := orb_symm hi hl (by omega) hj
    have := h i
    omega
theorem seenO_skip {xs ms : List Int} {c g : Nat} (h : outB xs c = true → SeenO xs ms c c) : SeenO xs ms (c + 1) g ↔ SeenO xs ms c g := by
  constructor
  · rintro ⟨a, ha, ho, j, hj⟩
    rcases Nat.lt_or_ge a c with h1 | h1
    · exact ⟨a, h1, ho, j, hj⟩
    · have : a = c := by omega
      subst this
      obtain ⟨b, hb, hbo, i, hi⟩ := h ho
      exact ⟨b, hb, hbo, j + i, by rw [it_add, hi, hj]⟩
  · rintro ⟨a, ha, ho, j, hj⟩
    exact ⟨a, by omega, ho, j, hj⟩
theorem seenO_next {xs ms : List Int} {c g : Nat} {L : List Nat} (ho : outB xs c = true) (hL : Cyc (psi ms) c L) : SeenO xs ms (c + 1) g ↔ SeenO xs ms c g ∨ g ∈ L := by
  rw [hL.mem]
  constructor
  · rintro ⟨a, ha, ho, j, hj⟩
    rcases Nat.lt_or_ge a c with h1 | h1
    · exact .inl ⟨a, h1, ho, j, hj⟩
    · have : a = c := by omega
      subst this
      exact .inr ⟨j, hj⟩
  · rintro (⟨a, ha, ho, j, hj⟩ | ⟨j, hj⟩)
    · exact ⟨a, by omega, ho, j, hj⟩
    · exact ⟨c, by omega, ho, j, hj⟩
end Go.Proofs.YtleoalcbgpjieaaDoor


/- One strand: diagram.cycle with its functions, and the reference's Strand. -/
namespace Go.Proofs.YtleoalcbgpjieaaDoor
open Go.Ab
set_option linter.unusedVariables false
set_option linter.unusedSimpArgs false
set_option maxRecDepth 20000
set_option maxHeartbeats 4000000
attribute [local irreducible] wOps wA wSeq wBlk wRound wRoundI wOpsD
variable {HK : FuncId → Option Hook}

theorem call54 (hk : HK 54 = none) (hk57 : HK 57 = none) (h0 : Heap) (h : Nat) (hh : h < 1000000) :
    ∃ v h', Cal FT HK 54 [.sc (.int .i64 (h : Nat))] h0 v h' ∧ IsN (turnN h 2) h0 v h' := by
  refine Cal.of (F := a54) hk rfl rfl ?_
  have k1 := call57 hk57 h0 h 2 2 hh (by omega) (.inl (by decide))
  repeat' (first | refine w_seq ?_ | refine w_seqN ?_ | refine w_ret ?_ | refine w_ops ?_ | ((refine i_nil ?_); refine w_end1 rfl ?_) | ((refine i_cons ?_); first | (refine k_call rfl k1 ?_; rintro v h3 ⟨rfl, rfl⟩) | refine k_mv rfl ?_))
  exact ⟨.inr rfl, rfl, rfl⟩

theorem call51 (hk : HK 51 = none) (hk38 : HK 38 = none) (H : Heap) (b : Nat) (s m : SV) (l : Int) (hb : Blk.At H b [s, m, .int .i64 l]) (xs : List Int) (hs : IsInts H s xs) (h : Nat) (hh : h < 4 * xs.length) (hn : xs.length ≤ 1000) :
    ∃ v h', Cal FT HK 51 [.sc (.int .i64 (h : Nat)), .sc (.ptr b 0)] H v h' ∧ ToB (outB xs h) H v h' := by
  refine Cal.of (F := a51) hk rfl rfl ?_
  have k1 := call38 hk38 H s m (.int .i64 l) xs hs h hh hn
  repeat' (first | refine w_seq ?_ | refine w_seqN ?_ | refine w_ret ?_ | refine w_ops ?_ | ((refine i_nil ?_); first | refine w_end1 rfl ?_ | refine w_end2 rfl rfl ?_) | ((refine i_cons ?_); first | refine k_ldA rfl hb rfl ?_ | (refine k_call rfl k1 ?_; rintro v h3 ⟨⟨t, rfl⟩, rfl⟩) | refine k_mv rfl ?_))
  exact ⟨.inr rfl, ⟨_, rfl⟩, rfl⟩

theorem call53 (hk : HK 53 = none) (hk54 : HK 54 = none) (hk57 : HK 57 = none) (H : Heap) (b : Nat) (s m : SV) (l : Int) (hb : Blk.At H b [s, m, .int .i64 l]) (ms : List Int) (hs : IsInts H m ms) (hm : Mates ms) (h : Nat) (hh : h < ms.length) :
    ∃ v h', Cal FT HK 53 [.sc (.int .i64 (h : Nat)), .sc (.ptr b 0)] H v h' ∧ IsN (psi ms h) H v h' := by
  refine Cal.of (F := a53) hk rfl rfl ?_
  obtain ⟨t, hg1, hg2⟩ := hm.get _ hh
  have hml := hm.len
  obtain ⟨id, off, cap, rfl, hr⟩ := IsInts.at hs hg1
  have k1 := call54 (HK := HK) hk54 hk57 H t (by omega)
  have hp : psi ms h = turnN t 2 := by unfold psi; rw [getD_at hg1]; simp
  rw [hp]
  repeat' (first | refine w_seq ?_ | refine w_seqN ?_ | refine w_ret ?_ | refine w_ops ?_ | ((refine i_nil ?_); first | refine w_end1 rfl ?_ | refine w_end2 rfl rfl ?_) | ((refine i_cons ?_); first | refine k_fldA rfl ?_ | refine k_ldb rfl hb rfl ?_ | refine k_idxA rfl rfl (by omega) ?_ | refine k_ld rfl hr ?_ | (refine k_call rfl k1 ?_; rintro v h3 ⟨rfl, rfl⟩) | refine k_mv rfl ?_))
  exact ⟨.inr rfl, rfl, rfl⟩

/-- A function value that steps by psi, wherever memory has grown. -/
def Steps (HK : FuncId → Option Hook) (ms : List Int) (f b : Nat) (h0 : Heap) : Prop := ∀ H, Ext h0 H → ∀ h, h < ms.length → ∃ v h', Cal FT HK f [.sc (.int .i64 (h : Nat)), .sc (.ptr b 0)] H v h' ∧ IsN (psi ms h) H v h'

def I66 (h0 : Heap) (ms : List Int) (h f b : Nat) (k : Nat) (E : Env) (hp : Heap) : Prop := ∃ (j : Nat) (s' : SV), k + j = ms.length ∧ (∀ i, 1 ≤ i → i ≤ j → it (psi ms) i h ≠ h) ∧
  Ext h0 hp ∧ Own h0 hp s' ((orbN (psi ms) h j).map fun x => .int .i64 (x : Nat)) ∧
  E = [(0, some (.sc (.int .i64 (h : Nat)))), (1, some (.sc (.fn f [(b, 0)]))), (5, some (.sc s')), (6, some (.sc (.int .i64 (it (psi ms) (j + 1) h : Nat))))]
def R66 (h0 : Heap) (ms : List Int) (h : Nat) (ex : Ex) (E : Env) (hp : Heap) : Prop := ex = .ex 0 ∧ ∃ (L : List Nat) (s' : SV), Cyc (psi ms) h L ∧ Ext h0 hp ∧ Own h0 hp s' (L.map fun x => .int .i64 (x : Nat)) ∧ ∃ a b c d,
  E = [(0, a), (1, b), (5, some (.sc s')), (6, c), (14, d)]
theorem it_some {ms : List Int} (hm : Mates ms) (hv : Inv ms) {h : Nat} (hh : h < ms.length) {j : Nat} (hj : ms.length ≤ j) : ¬ ∀ i, 1 ≤ i → i ≤ j → it (psi ms) i h ≠ h := fun hx => by
  obtain ⟨i, h1, h2, h3⟩ := it_back (psi_inj hm hv) (fun h hh => hm.psi_lt hh) hh
  exact hx i h1 (by omega) h3
theorem it_next {f : Nat → Nat} {h j : Nat} (hall : ∀ i, 1 ≤ i → i ≤ j → it f i h ≠ h) (hn : it f (j + 1) h ≠ h) : ∀ i, 1 ≤ i → i ≤ j + 1 → it f i h ≠ h := fun i h1 h2 => by
  rcases Nat.lt_or_ge i (j + 1) with h3 | h3
  · exact hall i h1 (by omega)
  · have : i = j + 1 := by omega
    subst this; exact hn
theorem round66 (h0 : Heap) (ms : List Int) (hm : Mates ms) (hv : Inv ms) (h f b : Nat) (hh : h < ms.length) (hst : Steps HK ms f b h0) (k : Nat) (E : Env) (hp : Heap) (hI : I66 h0 ms h f b k E hp) :
    wA FT HK b66L0 (E.keep [0, 1, 5, 6]) hp (wRoundI (I66 h0 ms h f b) k (R66 h0 ms h)) := by
  obtain ⟨j, s', hk, hall, he, ho, rfl⟩ := hI
  have hml := hm.len
  by_cases hx : it (psi ms) (j + 1) h = h
  · rw [hx]
    repeat' (first | refine w_seq ?_ | refine w_seqN ?_ | refine w_seqX ?_ | refine w_exit ?_ | refine w_ops ?_ | ((refine i_cond ?_); refine w_condF rfl ?_) | ((refine i_nil ?_); refine w_end5 rfl rfl rfl rfl rfl ?_) | ((refine i_cons ?_); first | refine k_mv rfl ?_ | refine k_neqF rfl rfl (by omega) ?_))
    exact w_roundIX ⟨rfl, _, s', ⟨j, rfl, hx, hall⟩, he, ho, _, _, _, _, rfl⟩
  · have hnx := it_next hall hx
    have hjl : j + 1 < ms.length := by
      refine Classical.byContradiction fun hc => ?_
      exact it_some hm hv hh (j := j + 1) (by omega) hnx
    have hq : ((orbN (psi ms) h j).map fun x => SV.int .i64 (x : Nat)).length = j + 1 := by simp [orbN_len]
    repeat' (first | refine w_seq ?_ | refine w_seqN ?_ | refine w_blk ?_ | refine w_blkN ?_ | refine w_skip ?_ | refine w_ops ?_ | ((refine i_cond ?_); refine w_condT rfl ?_) | ((refine i_nil ?_); first | refine w_end4 rfl rfl rfl rfl ?_ | refine w_end5 rfl rfl rfl rfl rfl ?_) | ((refine i_cons ?_); first | (refine k_push he ho rfl rfl (by simp only [hq, bigN]; omega) ?_; intro s2 h2 ho2 he2 hf2; have k1 := hst h2 he2 _ (hm.pit_lt hh (j + 1))) | (refine k_callvC rfl rfl k1 ?_; rintro v h3 ⟨rfl, rfl⟩) | refine k_mv rfl ?_ | refine k_neqT rfl rfl (by omega) ?_))
    refine w_roundIN (j := k - 1) (by omega) ⟨j + 1, s2, by omega, hnx, he2, ?_, rfl⟩
    rw [orbN_succ, List.map_append]; exact ho2

theorem call66 (hk : HK 66 = none) (h0 : Heap) (ms : List Int) (hm : Mates ms) (hv : Inv ms) (h f b : Nat) (hh : h < ms.length) (hst : Steps HK ms f b h0) :
    ∃ v h', Cal FT HK 66 [.sc (.int .i64 (h : Nat)), .sc (.fn f [(b, 0)])] h0 v h' ∧ Ext h0 h' ∧ ∃ s', v = .sc s' ∧ Own h0 h' s' ((cyc (psi ms) h).map fun x => .int .i64 (x : Nat)) := by
  refine Cal.of (F := a66) hk rfl rfl ?_
  have hml := hm.len
  have he1 : Ext h0 (h0 ++ [.cells [.int .i64 h] true 1]) := ⟨_, rfl⟩
  have k1 := hst _ he1 h hh
  refine w_seq (w_ops ?_)
  refine op_ok rfl rfl rfl ?_
  refine w_end (keep_c rfl (keep_c rfl (keep_nil _))) (w_seqN (w_seq (w_ops ?_)))
  refine op_ok rfl rfl rfl ?_
  refine op_ok (v := some (.sc (.slc h0.length 0 1 (some 1)))) (h' := h0 ++ [.cells [.int .i64 h] true 1]) rfl rfl rfl ?_
  repeat' (first | refine w_seq ?_ | refine w_seqN ?_ | refine w_blk ?_ | refine w_ops ?_ | ((refine i_nil ?_); first | refine w_end3 rfl rfl rfl ?_ | refine w_end4 rfl rfl rfl rfl ?_) | ((refine i_cons ?_); first | (refine k_callvC rfl rfl k1 ?_; rintro v h3 ⟨rfl, rfl⟩) | refine k_mv rfl ?_))
  refine w_loopI (I66 h0 ms h f b) ms.length (R66 h0 ms h) ⟨0, .slc h0.length 0 1 (some 1), by omega, fun i h1 h2 => by omega, he1, ?_, rfl⟩ (round66 h0 ms hm hv h f b hh hst) ?_
  · exact .inr ⟨h0.length, some 1, [.int .i64 h], rfl, Nat.le_refl _, by rw [List.getElem?_append_right (Nat.le_refl _)]; simp, rfl, rfl, by simp [orbN]⟩
  rintro ex E' h' ⟨rfl, L, s', hL, he, ho, a, b, c, d, rfl⟩
  repeat' (first | refine w_seq ?_ | refine w_seqN ?_ | refine w_blkX ?_ | refine w_ret ?_ | refine w_ops ?_ | ((refine i_nil ?_); refine w_end1 rfl ?_) | ((refine i_cons ?_); refine k_mv rfl ?_))
  exact ⟨.inr rfl, he, s', rfl, by rw [hL.eq]; exact ho⟩

/-! ### The reference -/
theorem readN_e {h h' : Heap} (he : Ext h h') {q off n : Nat} {vs : List SV} (hr : readN h q off n = some vs) : readN h' q off n = some vs := by
  obtain ⟨t, rfl⟩ := he
  exact readN_app t hr
def I56 (h0 : Heap) (s m : SV) (l : Int) (ms : List Int) (h : Nat) (k : Nat) (E : Env) (hp : Heap) : Prop := ∃ (j : Nat) (s' : SV), k + j = ms.length ∧ (∀ i, 1 ≤ i → i ≤ j → it (psi ms) i h ≠ h) ∧
  Ext (DB h0 s m l) hp ∧ Own (DB h0 s m l) hp s' ((orbN (psi ms) h j).map fun x => .int .i64 (x : Nat)) ∧
  E = [(1, some (.sc (.int .i64 (h : Nat)))), (2, some (.sc (.ptr h0.length 0))), (5, some (.sc s')), (6, some (.sc (.int .i64 (it (psi ms) (j + 1) h : Nat))))]
def R56 (h0 : Heap) (ms : List Int) (h : Nat) (ex : Ex) (E : Env) (hp : Heap) : Prop := ex = .ex 0 ∧ ∃ (L : List Nat) (s' : SV), Cyc (psi ms) h L ∧ Ext h0 hp ∧ Own h0 hp s' (L.map fun x => .int .i64 (x : Nat)) ∧ ∃ a b c d,
  E = [(1, a), (2, b), (5, some (.sc s')), (6, c), (25, d)]
end Go.Proofs.YtleoalcbgpjieaaDoor


/- diagram.cycles and diagram.Strands. -/
namespace Go.Proofs.YtleoalcbgpjieaaDoor
open Go.Ab
set_option linter.unusedVariables false
set_option linter.unusedSimpArgs false
set_option maxRecDepth 20000
set_option maxHeartbeats 4000000
attribute [local irreducible] wOps wA wSeq wBlk wRound wRoundI wOpsD
variable {HK : FuncId → Option Hook}

/-- f is a slice of these numbers. -/
def IsStr (h : Heap) (f : SV) (L : List Nat) : Prop := IsSl h f 1 L.length (L.map fun x => .int .i64 (x : Nat))
theorem IsStr.ext {h h' : Heap} {f : SV} {L : List Nat} (i : IsStr h f L) (he : Ext h h') : IsStr h' f L := IsSl.ext i he
theorem own_str {h0 h : Heap} {f : SV} {L : List Nat} (ho : Own h0 h f (L.map fun x => .int .i64 (x : Nat))) : IsStr h f L := by
  have := ho.sl
  rw [List.length_map] at this
  exact this

/-- f lies behind h0. -/
def Far (h0 : Heap) (f : SV) : Prop := ∀ j, j < h0.length → NotAt f j
structure St52 (h0 hp : Heap) (s7 s8 : SV) (fs : List SV) (sn : List Bool) (Ls : List (List Nat)) : Prop where
  e : Ext h0 hp
  o7 : Own h0 hp s7 fs
  o8 : Own h0 hp s8 (sn.map .bool)
  a : Go.Ab.Apart s7 s8
  f : F2 (fun f L => IsStr hp f L ∧ Go.Ab.Apart s7 f ∧ Go.Ab.Apart s8 f ∧ Far h0 f) fs Ls
theorem St52.ext {h0 hp hp' : Heap} {s7 s8 : SV} {fs : List SV} {sn : List Bool} {Ls : List (List Nat)} (s : St52 h0 hp s7 s8 fs sn Ls) (he : Ext hp hp') : St52 h0 hp' s7 s8 fs sn Ls :=
  ⟨s.e.trans he, Go.Ab.Own.ext s.o7 he, Go.Ab.Own.ext s.o8 he, s.a, f2_mono (fun f L h => ⟨h.1.ext he, h.2⟩) s.f⟩
theorem St52.mark {h0 hp : Heap} {s7 s8 : SV} {fs : List SV} {sn : List Bool} {Ls : List (List Nat)} (s : St52 h0 hp s7 s8 fs sn Ls) {g : Nat} (hg : g < sn.length) {f : SV} {L : List Nat} (hf : IsStr hp f L) (hfa : Go.Ab.Apart s8 f) :
    ∃ id cap h', s8 = .slc id 0 sn.length cap ∧ writeN hp id (0 + g * 1) [.bool true] = some h' ∧ St52 h0 h' s7 s8 fs (sn.set g true) Ls ∧ IsStr h' f L := by
  obtain ⟨id, cap, h', e1, e2, e3, e4, e5, e6⟩ := Go.Ab.Own.wr s.e s.o8 (i := g) (by simpa using hg) (.bool true)
  refine ⟨id, cap, h', by simpa using e1, e2, ⟨e4, Go.Ab.Own.away s.o7 e5 (Go.Ab.Apart.symm s.a), by rw [List.map_set]; exact e3, s.a, f2_mono (fun f L h => ⟨IsSl.away h.1 e5 h.2.2.1, h.2⟩) s.f⟩, IsSl.away hf e5 hfa⟩
theorem St52.push {h0 hp h' : Heap} {s7 s8 s' f : SV} {fs : List SV} {sn : List Bool} {Ls : List (List Nat)} {L : List Nat} (s : St52 h0 hp s7 s8 fs sn Ls) (hf : IsStr hp f L) (h7 : Go.Ab.Apart s7 f) (h8 : Go.Ab.Apart s8 f) (hfar : Far h0 f)
    (ho : Own h0 h' s' (fs ++ [f])) (he : Ext h0 h') (hfr : Fram hp h' s7 s') : St52 h0 h' s' s8 (fs ++ [f]) sn (Ls ++ [L]) :=
  ⟨he, ho, Go.Ab.Own.away s.o8 hfr s.a, Fram.apart hfr s.o8.sl s.a, f2_snoc ⟨IsSl.away hf hfr h7, Fram.apart hfr hf h7, h8, hfar⟩ (f2_mono (fun f L h => ⟨IsSl.away h.1 hfr h.2.1, Fram.apart hfr h.1 h.2.1, h.2.2⟩) s.f)⟩

/-- The function value that tells which half-edges are wanted. -/
def Wants (HK : FuncId → Option Hook) (xs ms : List Int) (f b : Nat) (h0 : Heap) : Prop := ∀ H, Ext h0 H → ∀ h, h < ms.length → ∃ v h', Cal FT HK f [.sc (.int .i64 (h : Nat)), .sc (.ptr b 0)] H v h' ∧ ToB (outB xs h) H v h'

/-! ### A strand is marked -/
def I52m (h0 : Heap) (s7 s8 f w1 w2 : SV) (fs : List SV) (sn0 : List Bool) (Ls : List (List Nat)) (L : List Nat) (N c : Nat) (E : Env) (hp : Heap) : Prop := ∃ (i : Nat) (sn : List Bool), i ≤ L.length ∧ St52 h0 hp s7 s8 fs sn Ls ∧ IsStr hp f L ∧
  sn.length = N ∧ (∀ g, g < N → (sn.getD g false = true ↔ sn0.getD g false = true ∨ g ∈ L.take i)) ∧
  E = [(1, some (.sc w1)), (2, some (.sc w2)), (7, some (.sc s7)), (8, some (.sc s8)), (10, some (.sc f)), (15, some (.sc (.int .i64 (N : Nat)))), (16, some (.sc (.int .i64 (c : Nat)))), (32, some (.sc f)), (33, some (.sc (.int .i64 (L.length : Nat)))), (34, some (.sc (.int .i64 (i : Nat))))]
def R52m (h0 : Heap) (s7 s8 f w1 w2 : SV) (fs : List SV) (sn0 : List Bool) (Ls : List (List Nat)) (L : List Nat) (N c : Nat) (ex : Ex) (E : Env) (hp : Heap) : Prop := ex = .ex 2 ∧ ∃ sn : List Bool, St52 h0 hp s7 s8 fs sn Ls ∧ IsStr hp f L ∧
  sn.length = N ∧ (∀ g, g < N → (sn.getD g false = true ↔ sn0.getD g false = true ∨ g ∈ L)) ∧ ∃ a b d e,
  E = [(1, some (.sc w1)), (2, some (.sc w2)), (7, some (.sc s7)), (8, some (.sc s8)), (10, some (.sc f)), (15, some (.sc (.int .i64 (N : Nat)))), (16, some (.sc (.int .i64 (c : Nat)))), (32, a), (33, b), (34, d), (35, e)]
theorem IsStr.at {h : Heap} {f : SV} {L : List Nat} (hs : IsStr h f L) {i x : Nat} (hi : L[i]? = some x) : ∃ id off cap, f = .slc id off L.length cap ∧ readN h id (off + i * 1) 1 = some [.int .i64 (x : Nat)] := by
  have h1 : IsInts h f (L.map fun x => ((x : Nat) : Int)) := by
    unfold IsInts
    rw [List.length_map, List.map_map]
    exact hs
  obtain ⟨id, off, cap, e1, e2⟩ := IsInts.at h1 (i := i) (x := (x : Int)) (by simp [hi])
  rw [List.length_map] at e1
  exact ⟨id, off, cap, e1, e2⟩
theorem round52m (h0 : Heap) (s7 s8 f w1 w2 : SV) (fs : List SV) (sn0 : List Bool) (Ls : List (List Nat)) (L : List Nat) (N c : Nat) (hfa : Go.Ab.Apart s8 f) (hN : N ≤ 1000) (hLN : ∀ g ∈ L, g < N) (hLl : L.length ≤ 1000) (E : Env) (hp : Heap) (hI : I52m h0 s7 s8 f w1 w2 fs sn0 Ls L N c E hp) :
    wA FT HK b52L1 (E.keep [1, 2, 7, 8, 10, 15, 16, 32, 33, 34]) hp (wRound (I52m h0 s7 s8 f w1 w2 fs sn0 Ls L N c) (cntV L.length 34) (cntV L.length 34 E hp) (R52m h0 s7 s8 f w1 w2 fs sn0 Ls L N c)) := by
  obtain ⟨i, sn, hi, st, hf, hsl, hsn, rfl⟩ := hI
  by_cases hlt : i < L.length
  · obtain ⟨x, hx⟩ : ∃ x, L[i]? = some x := ⟨_, List.getElem?_eq_getElem hlt⟩
    have hxN := hLN x (List.mem_of_getElem? hx)
    have hxs : x < sn.length := by omega
    obtain ⟨id8, cap8, h', rfl, hw, st2, hf2⟩ := st.mark hxs hf hfa
    obtain ⟨id, off, cap, rfl, hr⟩ := hf.at hx
    repeat' (first | refine w_seq ?_ | refine w_seqN ?_ | refine w_blk ?_ | refine w_blkN ?_ | refine w_skip ?_ | refine w_ops ?_ | ((refine i_cond ?_); refine w_condT rfl ?_) | ((refine i_nil ?_); first | refine w_end10 rfl rfl rfl rfl rfl rfl rfl rfl rfl rfl ?_ | refine w_end11 rfl rfl rfl rfl rfl rfl rfl rfl rfl rfl rfl ?_) | ((refine i_cons ?_); first | refine k_idxA rfl rfl (by omega) ?_ | refine k_ld rfl hr ?_ | refine k_st rfl rfl hw ?_ | refine k_mv rfl ?_ | refine k_add rfl rfl (by omega) ?_ | refine k_lssT rfl rfl (by omega) ?_))
    refine w_roundN ⟨i + 1, _, by omega, st2, hf2, by rw [List.length_set]; exact hsl, fun g hg => ?_, rfl⟩ (by simp [cntV, Env.get]; omega)
    rw [getDb_set hxs, take_snoc hx, List.mem_append, List.mem_singleton]
    split
    · rename_i he; simp [he]
    · rename_i hne
      rw [hsn g hg]
      constructor
      · rintro (h | h)
        · exact .inl h
        · exact .inr (.inl h)
      · rintro (h | h | h)
        · exact .inl h
        · exact .inr h
        · exact absurd h hne
  · rw [List.take_of_length_le (by omega)] at hsn
    repeat' (first | refine w_seq ?_ | refine w_seqN ?_ | refine w_seqX ?_ | refine w_exit ?_ | refine w_ops ?_ | ((refine i_cond ?_); refine w_condF rfl ?_) | ((refine i_nil ?_); refine w_end11 rfl rfl rfl rfl rfl rfl rfl rfl rfl rfl rfl ?_) | ((refine i_cons ?_); refine k_lssF rfl rfl (by omega) ?_))
    exact w_roundX ⟨rfl, sn, st, hf, hsl, hsn, _, _, _, _, rfl⟩

/-! ### All half-edges -/
def I52 (h0 : Heap) (s8 w1 w2 : SV) (xs ms : List Int) (E : Env) (hp : Heap) : Prop := ∃ (c : Nat) (s7 : SV) (fs : List SV) (sn : List Bool), c ≤ ms.length ∧ St52 h0 hp s7 s8 fs sn ((starts xs ms c).map (cyc (psi ms))) ∧
  sn.length = ms.length ∧ (∀ g, g < ms.length → (sn.getD g false = true ↔ SeenO xs ms c g)) ∧
  E = [(1, some (.sc w1)), (2, some (.sc w2)), (7, some (.sc s7)), (8, some (.sc s8)), (15, some (.sc (.int .i64 (ms.length : Nat)))), (16, some (.sc (.int .i64 (c : Nat))))]
def R52 (h0 : Heap) (s8 : SV) (xs ms : List Int) (ex : Ex) (E : Env) (hp : Heap) : Prop := ex = .ex 0 ∧ ∃ (s7 : SV) (fs : List SV) (sn : List Bool), St52 h0 hp s7 s8 fs sn (strs xs ms) ∧ ∃ a b d e f g,
  E = [(1, a), (2, b), (7, some (.sc s7)), (8, d), (15, e), (16, f), (17, g)]
theorem round52 (hk66 : HK 66 = none) (h0 : Heap) (s8 : SV) (xs ms : List Int) (l : Int) (hF : Front xs ms l) (f1 f2 b : Nat) (hw1 : Wants HK xs ms f1 b h0) (hw2 : Steps HK ms f2 b h0) (E : Env) (hp : Heap) (hI : I52 h0 s8 (.fn f1 [(b, 0)]) (.fn f2 [(b, 0)]) xs ms E hp) :
    wA FT HK b52L0 (E.keep [1, 2, 7, 8, 15, 16]) hp (wRound (I52 h0 s8 (.fn f1 [(b, 0)]) (.fn f2 [(b, 0)]) xs ms) (cntV ms.length 16) (cntV ms.length 16 E hp) (R52 h0 s8 xs ms)) := by
  obtain ⟨c, s7, fs, sn, hc, st, hsl, hsn, rfl⟩ := hI
  have hm := hF.mates
  have hv := hF.inv
  have hml := hm.len
  by_cases hlt : c < ms.length
  · obtain ⟨id8, cap8, e8, hr8⟩ := Go.Ab.Own.rd st.o8 (i := c) (v := .bool (sn.getD c false)) (by simp [List.getD, hsl, hlt])
    rw [List.length_map, hsl] at e8
    have k1 := hw1 hp st.e c hlt
    cases hx : sn.getD c false with
    | true =>
      rw [hx] at hr8
      have hse := (hsn c hlt).1 hx
      have hnl : ¬ (outB xs c = true ∧ Least (psi ms) c) := fun h => (seenO_least hF hlt h.1).2 h.2 hse
      have est : starts xs ms (c + 1) = starts xs ms c := by rw [starts_succ, if_neg hnl, List.append_nil]
      subst e8
      repeat' (first | refine w_seq ?_ | refine w_seqN ?_ | refine w_seqX ?_ | refine w_blk ?_ | refine w_blkX ?_ | refine w_skip ?_ | refine w_exit ?_ | refine w_ops ?_ | ((refine i_cond ?_); refine w_condT rfl ?_) | ((refine i_nil ?_); first | refine w_end6 rfl rfl rfl rfl rfl rfl ?_ | refine w_end7 rfl rfl rfl rfl rfl rfl rfl ?_ | refine w_end8 rfl rfl rfl rfl rfl rfl rfl rfl ?_) | ((refine i_cons ?_); first | refine k_idxA rfl rfl (by omega) ?_ | refine k_ld rfl hr8 ?_ | refine k_skip rfl ?_ | refine k_mv rfl ?_ | refine k_pickT rfl rfl ?_ | refine k_add rfl rfl (by omega) ?_ | refine k_lssT rfl rfl (by omega) ?_))
      refine w_roundN ⟨c + 1, s7, fs, sn, by omega, by rw [est]; exact st, hsl, fun g hg => (hsn g hg).trans (seenO_skip fun _ => hse).symm, rfl⟩ (by simp [cntV, Env.get]; omega)
    | false =>
      rw [hx] at hr8
      have hns : ¬ SeenO xs ms c c := fun h => by have := (hsn c hlt).2 h; rw [hx] at this; cases this
      cases ho : outB xs c with
      | false =>
        rw [ho] at k1
        have hnl : ¬ (outB xs c = true ∧ Least (psi ms) c) := fun h => by have := h.1; rw [ho] at this; cases this
        have est : starts xs ms (c + 1) = starts xs ms c := by rw [starts_succ, if_neg hnl, List.append_nil]
        subst e8
        repeat' (first | refine w_seq ?_ | refine w_seqN ?_ | refine w_seqX ?_ | refine w_blk ?_ | refine w_blkX ?_ | refine w_skip ?_ | refine w_exit ?_ | refine w_ops ?_ | ((refine i_cond ?_); refine w_condT rfl ?_) | ((refine i_nil ?_); first | refine w_end6 rfl rfl rfl rfl rfl rfl ?_ | refine w_end7 rfl rfl rfl rfl rfl rfl rfl ?_ | refine w_end8 rfl rfl rfl rfl rfl rfl rfl rfl ?_) | ((refine i_cons ?_); first | refine k_idxA rfl rfl (by omega) ?_ | refine k_ld rfl hr8 ?_ | (refine k_callvC rfl rfl k1 ?_; rintro v h3 ⟨⟨t, rfl⟩, rfl⟩) | refine k_want rfl ?_ | refine k_mv rfl ?_ | refine k_pickF rfl rfl ?_ | refine k_notF rfl ?_ | refine k_add rfl rfl (by omega) ?_ | refine k_lssT rfl rfl (by omega) ?_))
        refine w_roundN ⟨c + 1, s7, fs, sn, by omega, by rw [est]; exact st.ext ⟨_, rfl⟩, hsl, fun g hg => (hsn g hg).trans (seenO_skip fun h => by rw [ho] at h; cases h).symm, rfl⟩ (by simp [cntV, Env.get]; omega)
      | true =>
        rw [ho] at k1
        have hL := (seenO_least hF hlt ho).1 hns
        have est : starts xs ms (c + 1) = starts xs ms c ++ [c] := by rw [starts_succ, if_pos ⟨ho, hL⟩]
        obtain ⟨hcy, hcl⟩ := cyc_is hm hv hlt
        have hfl : fs.length ≤ 1000 := by rw [f2_length st.f, List.length_map]; have := starts_le xs ms c; omega
        have k2 : ∀ T, ∃ v h', Cal FT HK 66 [.sc (.int .i64 (c : Nat)), .sc (.fn f2 [(b, 0)])] (hp ++ T) v h' ∧ Ext (hp ++ T) h' ∧ ∃ s', v = .sc s' ∧ Own (hp ++ T) h' s' ((cyc (psi ms) c).map fun x => .int .i64 (x : Nat)) := fun T => call66 hk66 (hp ++ T) ms hm hv c f2 b hlt fun H he => hw2 H ((st.e.app T).trans he)
        subst e8
        repeat' (first | refine w_seq ?_ | refine w_seqN ?_ | refine w_blk ?_ | refine w_skip ?_ | refine w_ops ?_ | ((refine i_cond ?_); first | refine w_condT rfl ?_ | refine w_condF rfl ?_) | ((refine i_nil ?_); first | refine w_end7 rfl rfl rfl rfl rfl rfl rfl ?_ | refine w_end8 rfl rfl rfl rfl rfl rfl rfl rfl ?_ | refine w_end10 rfl rfl rfl rfl rfl rfl rfl rfl rfl rfl ?_) | ((refine i_cons ?_); first | refine k_idxA rfl rfl (by omega) ?_ | refine k_ld rfl hr8 ?_ | (refine k_callvC rfl rfl k1 ?_; rintro v h3 ⟨⟨t, rfl⟩, rfl⟩) | (refine k_call rfl (k2 _) ?_; rintro v h4 ⟨e4, f, rfl, of4⟩; have hlf := IsSl.len (own_str of4)) | refine k_len rfl hlf ?_ | refine k_want rfl ?_ | refine k_mv rfl ?_ | refine k_pickF rfl rfl ?_ | refine k_notT rfl ?_ | refine k_lssT rfl rfl (by omega) ?_))
        have st4 := (st.ext ⟨t, rfl⟩).ext e4
        have a7 := Go.Ab.Apart.symm (apart_old of4 (st.ext ⟨t, rfl⟩).o7.sl)
        have a8 := Go.Ab.Apart.symm (apart_old of4 (st.ext ⟨t, rfl⟩).o8.sl)
        refine w_loop (I52m h0 s7 (.slc id8 0 ms.length cap8) f (.fn f1 [(b, 0)]) (.fn f2 [(b, 0)]) fs sn ((starts xs ms c).map (cyc (psi ms))) (cyc (psi ms) c) ms.length c) (cntV (cyc (psi ms) c).length 34) (R52m h0 s7 (.slc id8 0 ms.length cap8) f (.fn f1 [(b, 0)]) (.fn f2 [(b, 0)]) fs sn ((starts xs ms c).map (cyc (psi ms))) (cyc (psi ms) c) ms.length c)
          ⟨0, sn, by omega, st4, own_str of4, hsl, fun g hg => by simp, rfl⟩ (round52m h0 s7 _ f _ _ fs sn _ (cyc (psi ms) c) ms.length c a8 hml ?_ (by omega)) ?_
        · intro g hg
          obtain ⟨j, rfl⟩ := hcy.mem.1 hg
          exact hm.pit_lt hlt j
        rintro ex E' h5 ⟨rfl, sn5, st5, if5, hsl5, hsn5, x1, x2, x3, x4, rfl⟩
        repeat' (first | refine w_seqN ?_ | refine w_blkN ?_ | refine w_blkX ?_ | refine w_ops ?_ | ((refine i_nil ?_); refine w_end6 rfl rfl rfl rfl rfl rfl ?_) | ((refine i_cons ?_); first | (refine k_push st5.e st5.o7 rfl rfl (by simp only [bigN]; omega) ?_; intro s9 h9 o9 e9 fr9) | refine k_mv rfl ?_ | refine k_add rfl rfl (by omega) ?_))
        have st9 := st5.push if5 a7 a8 (fun j hj => notAt_of_le of4 (by have := st.e.len; simp; omega)) o9 e9 fr9
        refine w_roundN ⟨c + 1, s9, fs ++ [f], sn5, by omega, ?_, hsl5, fun g hg => ?_, rfl⟩ (by simp [cntV, Env.get]; omega)
        · rw [est, List.map_append]; exact st9
        · rw [hsn5 g hg, hsn g hg, seenO_next ho hcy]
  · have : c = ms.length := by omega
    subst this
    repeat' (first | refine w_seq ?_ | refine w_seqN ?_ | refine w_seqX ?_ | refine w_exit ?_ | refine w_ops ?_ | ((refine i_cond ?_); refine w_condF rfl ?_) | ((refine i_nil ?_); refine w_end7 rfl rfl rfl rfl rfl rfl rfl ?_) | ((refine i_cons ?_); refine k_lssF rfl rfl (by omega) ?_))
    exact w_roundX ⟨rfl, s7, fs, sn, st, _, _, _, _, _, _, rfl⟩

/-- A slice of slices of numbers. -/
def IsStrs (h : Heap) (o : SV) (Ls : List (List Nat)) : Prop := ∃ fs : List SV, IsSl h o 1 fs.length fs ∧ F2 (IsStr h) fs Ls
theorem IsStrs.ext {h h' : Heap} {o : SV} {Ls : List (List Nat)} (i : IsStrs h o Ls) (he : Ext h h') : IsStrs h' o Ls := by
  obtain ⟨fs, h1, h2⟩ := i
  exact ⟨fs, IsSl.ext h1 he, f2_mono (fun f L h => h.ext he) h2⟩

/-- .. all behind h0. -/
def IsStrsF (h0 h : Heap) (o : SV) (Ls : List (List Nat)) : Prop := ∃ fs : List SV, Own h0 h o fs ∧ F2 (fun f L => IsStr h f L ∧ Far h0 f) fs Ls
theorem IsStrsF.is {h0 h : Heap} {o : SV} {Ls : List (List Nat)} (i : IsStrsF h0 h o Ls) : IsStrs h o Ls := by
  obtain ⟨fs, h1, h2⟩ := i
  exact ⟨fs, h1.sl, f2_mono (fun f L h => h.1) h2⟩
theorem IsStrsF.ext {h0 h h' : Heap} {o : SV} {Ls : List (List Nat)} (i : IsStrsF h0 h o Ls) (he : Ext h h') : IsStrsF h0 h' o Ls := by
  obtain ⟨fs, h1, h2⟩ := i
  exact ⟨fs, Go.Ab.Own.ext h1 he, f2_mono (fun f L h => ⟨h.1.ext he, h.2⟩) h2⟩
theorem IsStrsF.weaken {h0 h1 h : Heap} {o : SV} {Ls : List (List Nat)} (i : IsStrsF h1 h o Ls) (hl : h0.length ≤ h1.length) : IsStrsF h0 h o Ls := by
  obtain ⟨fs, a, b⟩ := i
  exact ⟨fs, Own.weaken a hl, f2_mono (fun f L h => ⟨h.1, fun j hj => h.2 j (by omega)⟩) b⟩

theorem call52 (hk : HK 52 = none) (hk66 : HK 66 = none) (h0 : Heap) (xs ms : List Int) (l : Int) (hF : Front xs ms l) (f1 f2 b : Nat) (hw1 : Wants HK xs ms f1 b h0) (hw2 : Steps HK ms f2 b h0) :
    ∃ v h', Cal FT HK 52 [.sc (.int .i64 (ms.length : Nat)), .sc (.fn f1 [(b, 0)]), .sc (.fn f2 [(b, 0)])] h0 v h' ∧ Ext h0 h' ∧ ∃ o, v = .sc o ∧ IsStrsF h0 h' o (strs xs ms) := by
  refine Cal.of (F := a52) hk rfl rfl ?_
  have hml := hF.mates.len
  repeat' (first | refine w_seq ?_ | refine w_seqN ?_ | refine w_blk ?_ | refine w_ops ?_ | ((refine i_nil ?_); first | refine w_end3 rfl rfl rfl ?_ | refine w_end4 rfl rfl rfl rfl ?_ | refine w_end5 rfl rfl rfl rfl rfl ?_ | refine w_end6 rfl rfl rfl rfl rfl rfl ?_) | ((refine i_cons ?_); first | (refine k_mkO (Ext.refl h0) rfl rfl (by simp only [bigN]; omega) ?_; intro s8 h1 o1 e1 x1 l1) | refine k_mv rfl ?_))
  rw [Int.toNat_natCast] at o1
  have st : St52 h0 h1 .nilS s8 [] (List.replicate ms.length false) [] := ⟨e1, .inl ⟨rfl, rfl⟩, by rw [List.map_replicate]; exact o1, fun j => .inl fun o n c hc => (by cases hc), .nil⟩
  refine w_loop (I52 h0 s8 (.fn f1 [(b, 0)]) (.fn f2 [(b, 0)]) xs ms) (cntV ms.length 16) (R52 h0 s8 xs ms) ⟨0, .nilS, [], _, by omega, st, by simp, fun g hg => ?_, rfl⟩ (round52 hk66 h0 s8 xs ms l hF f1 f2 b hw1 hw2) ?_
  · have h3 : (List.replicate ms.length false).getD g false = false := by simp [List.getD, hg]
    rw [h3]
    exact ⟨fun h => (by cases h), fun ⟨a, ha, _⟩ => absurd ha (by omega)⟩
  rintro ex E' h2 ⟨rfl, s7, fs, sn, st2, a, c, d, e, f, g, rfl⟩
  repeat' (first | refine w_seq ?_ | refine w_seqN ?_ | refine w_blkX ?_ | refine w_ret ?_ | refine w_ops ?_ | ((refine i_nil ?_); refine w_end1 rfl ?_) | ((refine i_cons ?_); refine k_mv rfl ?_))
  exact ⟨.inr rfl, st2.e, s7, rfl, fs, st2.o7, f2_mono (fun f L h => ⟨h.1, h.2.2.2⟩) st2.f⟩

theorem call30 (hk : HK 30 = none) (hk18 : HK 18 = none) (hk38 : HK 38 = none) (hk39 : HK 39 = none) (hk51 : HK 51 = none) (hk52 : HK 52 = none) (hk53 : HK 53 = none) (hk54 : HK 54 = none) (hk59 : HK 59 = none) (hk57 : HK 57 = none) (hk66 : HK 66 = none) (h0 : Heap) (s m : SV) (l : Int) (xs ms : List Int) (hx : IsInts h0 s xs) (hs : IsInts h0 m ms) (hV : PV xs ms l) :
    ∃ v h', Cal FT HK 30 [.agg [s, m, .int .i64 l]] h0 v h' ∧ Ext h0 h' ∧ ∃ o, v = .sc o ∧ IsStrsF h0 h' o (strs xs ms) := by
  refine Cal.of (F := a30) hk rfl rfl ?_
  have hF := hV.1
  have hfour := hF.four
  have h64 := hF.n64
  have hml : lenS false m = some (ms.length : Int) := IsSl.len hs
  repeat' (first | refine w_seq ?_ | refine w_seqN ?_ | refine w_skip ?_ | refine w_ops ?_ | ((refine i_cond ?_); refine w_condF rfl ?_) | ((refine i_nil ?_); first | refine w_end1 rfl ?_ | refine w_end2 rfl rfl ?_) | ((refine i_cons ?_); first | (refine k_box rfl rfl ?_; intro h1 e1 l1 b1) | refine k_ldA rfl b1 rfl ?_ | (refine k_call rfl (call18 hk18 hk38 hk39 hk59 hk57 h1 s m l xs ms (IsSl.ext hx e1) (IsSl.ext hs e1)) ?_; rintro v h2 ⟨e2, r, rfl, hr⟩; obtain rfl := hr.2 hV; have b2 := b1.ext e2) | refine k_fldA rfl ?_ | refine k_ldb rfl b2 rfl ?_ | refine k_len rfl hml ?_ | (refine k_ok (v := some (.sc (.fn 51 [(h0.length, 0)]))) (h' := h2) rfl rfl ?_) | (refine k_ok (v := some (.sc (.fn 53 [(h0.length, 0)]))) (h' := h2) rfl rfl ?_) | refine k_mv rfl ?_ | refine k_notT rfl ?_))
  have e12 := e1.trans e2
  have hw1 : Wants HK xs ms 51 h0.length h2 := fun H e h hh => call51 hk51 hk38 H _ s m l (b2.ext e) xs (IsSl.ext hx (e12.trans e)) h (by omega) (by omega)
  have hw2 : Steps HK ms 53 h0.length h2 := fun H e h hh => call53 hk53 hk54 hk57 H _ s m l (b2.ext e) ms (IsSl.ext hs (e12.trans e)) hF.mates h hh
  repeat' (first | refine w_seqN ?_ | refine w_ret ?_ | ((refine i_nil ?_); refine w_end1 rfl ?_) | ((refine i_cons ?_); first | (refine k_call rfl (call52 hk52 hk66 h2 xs ms l hF 51 53 h0.length hw1 hw2) ?_; rintro v h3 ⟨e3, o, rfl, ho⟩) | refine k_mv rfl ?_))
  exact ⟨.inr rfl, e12.trans e3, o, rfl, ho.weaken e12.len⟩

end Go.Proofs.YtleoalcbgpjieaaDoor


/- The reference's Strands. -/
namespace Go.Proofs.YtleoalcbgpjieaaDoor
open Go.Ab
set_option linter.unusedVariables false
set_option linter.unusedSimpArgs false
set_option maxRecDepth 20000
set_option maxHeartbeats 4000000
attribute [local irreducible] wOps wA wSeq wBlk wRound wRoundI wOpsD
variable {HK : FuncId → Option Hook}

/-- Is h at most each of the list? -/
def leN (h : Nat) (L : List Nat) : Bool := L.all fun y => decide (h ≤ y)
theorem leN_snoc (h : Nat) (L : List Nat) (y : Nat) : leN h (L ++ [y]) = (leN h L && decide (h ≤ y)) := by simp [leN]
theorem leN_iff {f : Nat → Nat} {h : Nat} {L : List Nat} (hL : Cyc f h L) : leN h L = true ↔ Least f h := by
  unfold leN Least
  simp only [List.all_eq_true, decide_eq_true_eq]
  constructor
  · exact fun ha j => ha _ (hL.mem.2 ⟨j, rfl⟩)
  · intro hl y hy
    obtain ⟨j, rfl⟩ := hL.mem.1 hy
    exact hl j

def I35i (h0 : Heap) (p o f : SV) (h : Nat) (L : List Nat) (E : Env) (hp : Heap) : Prop := hp = h0 ∧ ∃ i : Nat, i ≤ L.length ∧
  E = [(1, some (.sc p)), (3, some (.sc o)), (4, some (.sc (.int .i64 (h : Nat)))), (5, some (.sc f)), (6, some (.sc (.bool (leN h (L.take i))))), (7, some (.sc (.int .i64 (i : Nat))))]
def R35i (h0 : Heap) (p o f : SV) (h : Nat) (L : List Nat) (ex : Ex) (E : Env) (hp : Heap) : Prop := hp = h0 ∧ ex = .ex 2 ∧ ∃ i c,
  E = [(1, some (.sc p)), (3, some (.sc o)), (4, some (.sc (.int .i64 (h : Nat)))), (5, some (.sc f)), (6, some (.sc (.bool (leN h L)))), (7, i), (26, c)]
/-- The strands so far, all behind h0. -/
structure St35 (h0 hp : Heap) (u : SV) (fs : List SV) (Ls : List (List Nat)) : Prop where
  e : Ext h0 hp
  o : Own h0 hp u fs
  f : F2 (fun f L => IsStr hp f L ∧ Go.Ab.Apart u f ∧ Far h0 f) fs Ls
theorem St35.ext {h0 hp hp' : Heap} {o : SV} {fs : List SV} {Ls : List (List Nat)} (s : St35 h0 hp o fs Ls) (he : Ext hp hp') : St35 h0 hp' o fs Ls :=
  ⟨s.e.trans he, Go.Ab.Own.ext s.o he, f2_mono (fun f L h => ⟨h.1.ext he, h.2⟩) s.f⟩
theorem St35.push {h0 hp h' : Heap} {o o' f : SV} {fs : List SV} {Ls : List (List Nat)} {L : List Nat} (s : St35 h0 hp o fs Ls) (hf : IsStr hp f L) (ha : Go.Ab.Apart o f) (hfar : Far h0 f)
    (ho : Own h0 h' o' (fs ++ [f])) (he : Ext h0 h') (hfr : Fram hp h' o o') : St35 h0 h' o' (fs ++ [f]) (Ls ++ [L]) :=
  ⟨he, ho, f2_snoc ⟨IsSl.away hf hfr ha, Fram.apart hfr hf ha, hfar⟩ (f2_mono (fun f L h => ⟨IsSl.away h.1 hfr h.2.1, Fram.apart hfr h.1 h.2.1, h.2.2⟩) s.f)⟩

def I35 (h0 : Heap) (b : Nat) (xs ms : List Int) (E : Env) (hp : Heap) : Prop := ∃ (c : Nat) (o : SV) (fs : List SV), c ≤ ms.length ∧ St35 h0 hp o fs ((starts xs ms c).map (cyc (psi ms))) ∧
  E = [(1, some (.sc (.ptr b 0))), (3, some (.sc o)), (4, some (.sc (.int .i64 (c : Nat))))]
def R35 (h0 : Heap) (xs ms : List Int) (ex : Ex) (E : Env) (hp : Heap) : Prop := ex = .ex 0 ∧ ∃ (o : SV) (fs : List SV), St35 h0 hp o fs (strs xs ms) ∧ ∃ a b c,
  E = [(1, a), (3, some (.sc o)), (4, b), (12, c)]
end Go.Proofs.YtleoalcbgpjieaaDoor

