/- A valid diagram, in plain words; components numbered in any way. -/
import Derived.Test.YtleoalcbgpjieaaDoorRv2
import Derived.Test.YtleoalcbgpjieaaDoorAb35
namespace Go.Proofs.YtleoalcbgpjieaaDoor
open Go.Ab
set_option linter.unusedVariables false

/-- Each half-edge and its mate. -/
def MatesOk (xs ms : List Int) : Prop := ∀ h, h < ms.length → ∃ m : Nat, ms[h]? = some (m : Int) ∧ m < ms.length ∧ m ≠ h ∧ ms[m]? = some (h : Int) ∧ outB xs h ≠ outB xs m

structure Front (xs ms : List Int) (l : Int) : Prop where
  n64 : xs.length ≤ 64
  four : ms.length = 4 * xs.length
  l0 : 0 ≤ l
  l64 : l ≤ 64
  sgn : ∀ x ∈ xs, Sgn x
  ok : MatesOk xs ms

theorem Front.mates {xs ms : List Int} {l : Int} (h : Front xs ms l) : Mates ms :=
  ⟨by have := h.four; omega, by have := h.four; have := h.n64; omega, fun i hi => let ⟨m, h1, h2, _⟩ := h.ok i hi; ⟨m, h1, h2⟩⟩
theorem MatesOk.inv {xs ms : List Int} (h : MatesOk xs ms) : Inv ms := by
  intro i m hm
  obtain ⟨m2, h1, h2, h3, h4, _⟩ := h i (List.getElem?_eq_some_iff.1 hm).1
  rw [hm] at h1
  have := Option.some.inj h1
  have : m = m2 := by omega
  subst this
  exact h4
theorem Front.inv {xs ms : List Int} {l : Int} (h : Front xs ms l) : Inv ms := h.ok.inv
theorem Front.fits {xs ms : List Int} {l : Int} (h : Front xs ms l) : Fits ms xs.length := by
  have h1 := h.mates.fits
  have h2 := h.four
  exact ⟨by omega, h1.mate⟩

/-- Each component is on a sphere. -/
def Sph (ms : List Int) (n : Nat) : Prop := ∀ c, c < n → OkC (labIter ms n n) (leasts ms ms.length) c
/-- A valid diagram. -/
def PV (xs ms : List Int) (l : Int) : Prop := Front xs ms l ∧ Sph ms xs.length

theorem Reach.symm {ms : List Int} (hm : Mates ms) (hv : Inv ms) : ∀ {q c d : Nat}, Reach ms q c d → Reach ms q d c
  | 0, c, d, h => by cases h; rfl
  | q + 1, c, d, ⟨e, h1, h2⟩ => Reach.trans (Reach.symm hm hv h2) (⟨c, Step.symm hm hv h1, rfl⟩ : Reach ms 1 e c)

/-- The same label: one reaches the other. -/
theorem label_same {ms : List Int} {n : Nat} (hm : Mates ms) (hv : Inv ms) (hf : Fits ms n) {b c : Nat} (hb : b < n) (hc : c < n) :
    (labIter ms n n).getD b 0 = (labIter ms n n).getD c 0 ↔ ∃ q, Reach ms q b c := by
  obtain ⟨e1, h1, h2, ⟨q1, h3⟩, h4⟩ := label_spec hm hv hf hb
  obtain ⟨e2, g1, g2, ⟨q2, g3⟩, g4⟩ := label_spec hm hv hf hc
  rw [h1, g1]
  constructor
  · intro he
    have : e1 = e2 := by omega
    subst this
    exact ⟨_, h3.trans (Reach.symm hm hv g3)⟩
  · rintro ⟨q, hr⟩
    have a1 := h4 _ _ (hr.trans g3)
    have a2 := g4 _ _ ((Reach.symm hm hv hr).trans h3)
    omega

/-- Components, numbered from 0 on. -/
structure Parts (ms : List Int) (n : Nat) (ps : List Int) (P : Nat) : Prop where
  len : ps.length = n
  rng : ∀ c, c < n → ∃ p : Nat, ps.getD c 0 = (p : Int) ∧ p < P
  same : ∀ b c, b < n → c < n → (ps.getD b 0 = ps.getD c 0 ↔ ∃ q, Reach ms q b c)
  hit : ∀ p, p < P → ∃ c, c < n ∧ ps.getD c 0 = (p : Int)

theorem countP_range (ls : List Int) (f : Int → Bool) : ls.countP f = (List.range ls.length).countP fun i => f (ls.getD i 0) := by
  have h1 : ls = (List.range ls.length).map fun i => ls.getD i 0 := by
    refine List.ext_getElem? fun i => ?_
    by_cases hi : i < ls.length
    · simp [hi]
    · simp [hi]
  conv => lhs; rw [h1]
  rw [List.countP_map]; rfl

theorem parts_sph {ms ps : List Int} {n P : Nat} (hm : Mates ms) (hv : Inv ms) (hf : Fits ms n) (hp : Parts ms n ps P) :
    (∀ p : Nat, p < P → (((leasts ms ms.length).countP (labAt ps p) : Nat) : Int) - ((ps.countP (fun y => y == (p : Int)) : Nat) : Int) = 2) ↔ Sph ms n := by
  have hn4 := hf.n4
  have key : ∀ c p : Nat, c < n → (labIter ms n n).getD c 0 = (c : Int) → ps.getD c 0 = (p : Int) →
      (leasts ms ms.length).countP (labAt (labIter ms n n) c) = (leasts ms ms.length).countP (labAt ps p) ∧ (labIter ms n n).countP (fun y => y == (c : Int)) = ps.countP (fun y => y == (p : Int)) := by
    intro c p hc hl hpc
    have same : ∀ b, b < n → ((labIter ms n n).getD b 0 == (c : Int)) = (ps.getD b 0 == (p : Int)) := fun b hb => by
      have h1 := label_same hm hv hf hb hc
      have h2 := hp.same b c hb hc
      rw [hl] at h1
      rw [hpc] at h2
      rw [Bool.eq_iff_iff, beq_iff_eq, beq_iff_eq, h1, h2]
    constructor
    · refine List.countP_congr fun h hh => ?_
      have hlt : h < ms.length := by
        unfold leasts at hh
        simpa using (List.mem_filter.1 hh).1
      unfold labAt
      rw [same (h / 4) (by omega)]
    · rw [countP_range, countP_range ps, labIter_len, hp.len]
      refine List.countP_congr fun b hb => ?_
      rw [same b (by simpa using hb)]
  constructor
  · intro h c hc hl
    obtain ⟨p, h1, h2⟩ := hp.rng c hc
    obtain ⟨k1, k2⟩ := key c p hc hl h1
    have := h p h2
    rw [k1, k2]; omega
  · intro h p hpP
    obtain ⟨c, h1, h2⟩ := hp.hit p hpP
    obtain ⟨e, g1, g2, ⟨q, g3⟩, g4⟩ := label_spec hm hv hf h1
    have hle : (labIter ms n n).getD e 0 = (e : Int) := by
      rw [← g1]
      exact (label_same hm hv hf g2 h1).2 ⟨q, Reach.symm hm hv g3⟩
    have hpe : ps.getD e 0 = (p : Int) := by
      rw [← h2]
      exact (hp.same e c g2 h1).2 ⟨q, Reach.symm hm hv g3⟩
    obtain ⟨k1, k2⟩ := key e p g2 hle hpe
    have := h e g2 hle
    rw [k1, k2] at this
    omega

end Go.Proofs.YtleoalcbgpjieaaDoor


/- Numbering the components by a search: plain. -/
namespace Go.Proofs.YtleoalcbgpjieaaDoor
open Go.Ab
set_option linter.unusedVariables false

/-- How many have no number yet. -/
def unl (ps : List Int) : Nat := ps.countP fun x => x == -1

theorem unl_set {ps : List Int} {b : Nat} {p : Nat} (hb : b < ps.length) (h : ps.getD b 0 = -1) : unl (ps.set b p) + 1 = unl ps := by
  unfold unl
  have h1 : ps[b] = -1 := by rw [← h]; simp [List.getD, hb]
  rw [List.countP_set hb, h1]
  have : 0 < ps.countP fun x => x == -1 := List.countP_pos_iff.2 ⟨ps[b], List.getElem_mem hb, by rw [h1]; rfl⟩
  have h2 : (((p : Nat) : Int) == -1) = false := by
    rw [beq_eq_false_iff_ne]; omega
  simp [h2]; omega

theorem getD_set {ps : List Int} {b : Nat} {x : Int} (hb : b < ps.length) (k : Nat) : (ps.set b x).getD k 0 = if k = b then x else ps.getD k 0 := by
  simp only [List.getD_eq_getElem?_getD, List.getElem?_set]
  by_cases h : b = k
  · subst h; simp [hb]
  · rw [if_neg h, if_neg (Ne.symm h)]

/-- The search from c0, with number P; some are waiting, and `ex` says of which it is not yet known that they are done. -/
structure Bf (ms : List Int) (n : Nat) (ps : List Int) (P c0 : Nat) (q : List Nat) (ex : Nat → Prop) (k : Nat) : Prop where
  len : ps.length = n
  rng : ∀ b, b < n → ps.getD b 0 = -1 ∨ ∃ p : Nat, ps.getD b 0 = (p : Int) ∧ p ≤ P
  closed : ∀ b d, Step ms b d → ps.getD b 0 ≠ -1 → b ∉ q → ¬ ex b → ps.getD d 0 = ps.getD b 0
  qlab : ∀ b, b ∈ q → b < n ∧ ps.getD b 0 = (P : Int)
  conn : ∀ b, b < n → ps.getD b 0 = (P : Int) → ∃ r, Reach ms r c0 b
  old : ∀ b d, b < n → d < n → ps.getD b 0 = ps.getD d 0 → ps.getD b 0 ≠ -1 → ps.getD b 0 ≠ (P : Int) → ∃ r, Reach ms r b d
  hit : ∀ p, p ≤ P → ∃ c, c < n ∧ ps.getD c 0 = (p : Int)
  low : ∀ b, b < c0 → ps.getD b 0 ≠ -1
  root : c0 < n ∧ ps.getD c0 0 = (P : Int)
  num : P ≤ c0
  cnt : unl ps + q.length = k

/-- Between two searches: all below c have numbers. -/
structure Bo (ms : List Int) (n : Nat) (ps : List Int) (P c : Nat) : Prop where
  len : ps.length = n
  rng : ∀ b, b < n → ps.getD b 0 = -1 ∨ ∃ p : Nat, ps.getD b 0 = (p : Int) ∧ p < P
  closed : ∀ b d, Step ms b d → ps.getD b 0 ≠ -1 → ps.getD d 0 = ps.getD b 0
  old : ∀ b d, b < n → d < n → ps.getD b 0 = ps.getD d 0 → ps.getD b 0 ≠ -1 → ∃ r, Reach ms r b d
  hit : ∀ p, p < P → ∃ c, c < n ∧ ps.getD c 0 = (p : Int)
  low : ∀ b, b < c → ps.getD b 0 ≠ -1
  num : P ≤ c

theorem Bo.init {ms : List Int} {n : Nat} (hf : Fits ms n) : Bo ms n (List.replicate n (-1)) 0 0 := by
  have h : ∀ b, b < n → (List.replicate n (-1 : Int)).getD b 0 = -1 := fun b hb => by simp [List.getD, hb]
  exact ⟨by simp, fun b hb => .inl (h b hb), fun b d hs hb => absurd (h b (step_lt hf hs).1) hb, fun b d hb hd he hn => absurd (h b hb) hn, fun p hp => by omega, fun b hb => by omega, by omega⟩

theorem Bo.skip {ms : List Int} {n : Nat} {ps : List Int} {P c : Nat} (h : Bo ms n ps P c) (hc : ps.getD c 0 ≠ -1) : Bo ms n ps P (c + 1) :=
  ⟨h.len, h.rng, h.closed, h.old, h.hit, fun b hb => by
    rcases Nat.lt_or_ge b c with h1 | h1
    · exact h.low b h1
    · have : b = c := by omega
      subst this; exact hc, by have := h.num; omega⟩

theorem Bo.start {ms : List Int} {n : Nat} {ps : List Int} {P c : Nat} (h : Bo ms n ps P c) (hc : ps.getD c 0 = -1) (hn : c < n) : Bf ms n (ps.set c P) P c [c] (fun _ => False) (unl ps) := by
  have hl : c < ps.length := by rw [h.len]; exact hn
  have g := fun k => getD_set (x := (P : Int)) hl k
  refine ⟨by rw [List.length_set]; exact h.len, fun b hb => ?_, fun b d hs hb hq _ => ?_, fun b hb => ?_, fun b hb he => ?_, fun b d hb hd he hn1 hn2 => ?_, fun p hp => ?_, fun b hb => ?_, ⟨hn, by rw [g, if_pos rfl]⟩, h.num, ?_⟩
  · rw [g]
    split
    · exact .inr ⟨P, rfl, Nat.le_refl _⟩
    · rcases h.rng b hb with h1 | ⟨p, h1, h2⟩
      · exact .inl h1
      · exact .inr ⟨p, h1, by omega⟩
  · have hbc : b ≠ c := by simpa using hq
    have gb := g b
    rw [if_neg hbc] at gb
    rw [gb] at hb ⊢
    have h1 := h.closed b d hs hb
    rw [g d, if_neg (fun e => by subst e; exact hb (h1.symm.trans hc))]
    exact h1
  · have : b = c := by simpa using hb
    subst this
    exact ⟨hn, by rw [g, if_pos rfl]⟩
  · by_cases hbc : b = c
    · subst hbc; exact ⟨0, rfl⟩
    · rw [g, if_neg hbc] at he
      rcases h.rng b hb with h1 | ⟨p, h1, h2⟩ <;> omega
  · have hbc : b ≠ c := fun e => by subst e; rw [g, if_pos rfl] at hn2; exact hn2 rfl
    have hdc : d ≠ c := fun e => by
      subst e
      have := g d
      rw [if_pos rfl] at this
      rw [this] at he
      exact hn2 he
    rw [g, if_neg hbc] at he hn1
    rw [g, if_neg hdc] at he
    exact h.old b d hb hd he hn1
  · by_cases h1 : p = P
    · subst h1; exact ⟨c, hn, by rw [g, if_pos rfl]⟩
    · obtain ⟨e, e1, e2⟩ := h.hit p (by omega)
      exact ⟨e, e1, by rw [g, if_neg (fun h => by subst h; omega)]; exact e2⟩
  · rw [g, if_neg (by omega)]; exact h.low b hb
  · rw [List.length_singleton]; exact unl_set hl hc

/-- The first one that waits is taken. -/
theorem Bf.pop {ms : List Int} {n : Nat} {ps : List Int} {P c0 a k : Nat} {r : List Nat} (h : Bf ms n ps P c0 (a :: r) (fun _ => False) (k + 1)) : Bf ms n ps P c0 r (fun b => b = a) k :=
  ⟨h.len, h.rng, fun b d hs hb hq hx => h.closed b d hs hb (by simp only [List.mem_cons, not_or]; exact ⟨hx, hq⟩) (fun h => h), fun b hb => h.qlab b (List.mem_cons_of_mem _ hb), h.conn, h.old, h.hit, h.low, h.root, h.num, by
    have := h.cnt; simp at this; omega⟩

/-- The far end of an edge that has a number has this one. -/
theorem Bf.seen {ms : List Int} {n : Nat} {ps : List Int} {P c0 a k d : Nat} {q : List Nat} (hm : Mates ms) (hv : Inv ms) (hf : Fits ms n) (h : Bf ms n ps P c0 q (fun b => b = a) k) (ha : ps.getD a 0 = (P : Int)) (hs : Step ms a d) (hd : ps.getD d 0 ≠ -1) : ps.getD d 0 = (P : Int) := by
  refine Classical.byContradiction fun hne => ?_
  have h1 := h.closed d a (Step.symm hm hv hs) hd (fun hq => hne (h.qlab d hq).2) (fun e => by subst e; exact hne ha)
  exact hne (h1.symm.trans ha)

/-- One more is found. -/
theorem Bf.push {ms : List Int} {n : Nat} {ps : List Int} {P c0 a k d : Nat} {q : List Nat} (hf : Fits ms n) (h : Bf ms n ps P c0 q (fun b => b = a) k) (ha : ps.getD a 0 = (P : Int)) (hs : Step ms a d) (hd : ps.getD d 0 = -1) : Bf ms n (ps.set d P) P c0 (q ++ [d]) (fun b => b = a) k := by
  obtain ⟨han, hdn⟩ := step_lt hf hs
  have hl : d < ps.length := by rw [h.len]; exact hdn
  have g := fun k => getD_set (x := (P : Int)) hl k
  refine ⟨by rw [List.length_set]; exact h.len, fun b hb => ?_, fun b e hse hb hq hx => ?_, fun b hb => ?_, fun b hb he => ?_, fun b e hb he heq hn1 hn2 => ?_, fun p hp => ?_, fun b hb => ?_, ⟨h.root.1, ?_⟩, h.num, ?_⟩
  · rw [g]
    split
    · exact .inr ⟨P, rfl, Nat.le_refl _⟩
    · exact h.rng b hb
  · simp only [List.mem_append, List.mem_singleton, not_or] at hq
    have gb := g b
    rw [if_neg hq.2] at gb
    rw [gb] at hb ⊢
    have h1 := h.closed b e hse hb hq.1 hx
    rw [g e, if_neg (fun e' => by subst e'; exact hb (h1.symm.trans hd))]
    exact h1
  · simp only [List.mem_append, List.mem_singleton] at hb
    rcases hb with hb | rfl
    · obtain ⟨h1, h2⟩ := h.qlab b hb
      refine ⟨h1, ?_⟩
      rw [g]; split
      · rfl
      · exact h2
    · exact ⟨hdn, by rw [g, if_pos rfl]⟩
  · by_cases hbc : b = d
    · subst hbc
      obtain ⟨r, hr⟩ := h.conn a han ha
      exact ⟨r + 1, Reach.trans hr (show Reach ms 1 a b from ⟨b, hs, rfl⟩)⟩
    · rw [g, if_neg hbc] at he
      exact h.conn b hb he
  · have hbd : b ≠ d := fun e => by subst e; rw [g, if_pos rfl] at hn2; exact hn2 rfl
    have hed : e ≠ d := fun e' => by
      subst e'
      have := g e
      rw [if_pos rfl] at this
      rw [this] at heq
      exact hn2 heq
    rw [g, if_neg hbd] at heq hn1 hn2
    rw [g, if_neg hed] at heq
    exact h.old b e hb he heq hn1 hn2
  · obtain ⟨e, e1, e2⟩ := h.hit p hp
    exact ⟨e, e1, by rw [g, if_neg (fun h => by subst h; omega)]; exact e2⟩
  · rw [g]; split
    · omega
    · exact h.low b hb
  · rw [g]; split
    · rfl
    · exact h.root.2
  · have := unl_set (p := P) hl hd
    have := h.cnt
    simp; omega

/-- All four edges are looked at. -/
theorem Bf.done {ms : List Int} {n : Nat} {ps : List Int} {P c0 a k : Nat} {q : List Nat} (h : Bf ms n ps P c0 q (fun b => b = a) k) (ha : ps.getD a 0 = (P : Int)) (hall : ∀ s, s < 4 → ps.getD (mateN ms (4 * a + s) / 4) 0 = (P : Int)) : Bf ms n ps P c0 q (fun _ => False) k :=
  ⟨h.len, h.rng, fun b d hs hb hq _ => by
    by_cases hba : b = a
    · subst hba
      obtain ⟨e, e1, e2, e3⟩ := hs
      have := hall (e % 4) (by omega)
      rw [show 4 * b + e % 4 = e by omega, e3] at this
      rw [this, ha]
    · exact h.closed b d hs hb hq hba, h.qlab, h.conn, h.old, h.hit, h.low, h.root, h.num, h.cnt⟩

/-- Nothing waits any more. -/
theorem Bf.out {ms : List Int} {n : Nat} {ps : List Int} {P c0 k : Nat} (hm : Mates ms) (hv : Inv ms) (h : Bf ms n ps P c0 [] (fun _ => False) k) : Bo ms n ps (P + 1) (c0 + 1) :=
  ⟨h.len, fun b hb => (h.rng b hb).imp id fun ⟨p, h1, h2⟩ => ⟨p, h1, by omega⟩, fun b d hs hb => h.closed b d hs hb (by simp) (fun h => h), fun b d hb hd he hn => by
    by_cases hP : ps.getD b 0 = (P : Int)
    · obtain ⟨r1, h1⟩ := h.conn b hb hP
      obtain ⟨r2, h2⟩ := h.conn d hd (he.symm.trans hP)
      exact ⟨_, (Reach.symm hm hv h1).trans h2⟩
    · exact h.old b d hb hd he hn hP, fun p hp => h.hit p (by omega), fun b hb => by
    rcases Nat.lt_or_ge b c0 with h1 | h1
    · exact h.low b h1
    · have : b = c0 := by omega
      subst this
      rw [h.root.2]; omega, by have := h.num; omega⟩

theorem Bo.reach {ms : List Int} {n : Nat} {ps : List Int} {P c : Nat} (h : Bo ms n ps P c) : ∀ {q b d : Nat}, ps.getD b 0 ≠ -1 → Reach ms q b d → ps.getD d 0 = ps.getD b 0
  | 0, b, d, hb, hr => by cases hr; rfl
  | q + 1, b, d, hb, ⟨e, h1, h2⟩ => by
    have h3 := h.closed b e h1 hb
    rw [← h3]
    exact Bo.reach h (by rw [h3]; exact hb) h2

theorem Bo.parts {ms : List Int} {n : Nat} {ps : List Int} {P : Nat} (h : Bo ms n ps P n) : Parts ms n ps P :=
  ⟨h.len, fun c hc => (h.rng c hc).resolve_left (h.low c hc), fun b c hb hc => ⟨fun he => h.old b c hb hc he (h.low b hb), fun ⟨q, hq⟩ => (h.reach (h.low b hb) hq).symm⟩, h.hit⟩

end Go.Proofs.YtleoalcbgpjieaaDoor


/- diagram.label: the search for the components. -/
namespace Go.Proofs.YtleoalcbgpjieaaDoor
open Go.Ab
set_option linter.unusedVariables false
set_option linter.unusedSimpArgs false
set_option maxRecDepth 20000
set_option maxHeartbeats 4000000
attribute [local irreducible] wOps wA wSeq wBlk wRound wRoundI wOpsD
variable {HK : FuncId → Option Hook}

/-- A box with a Diagram, and a row of integers behind it. -/
def LH (h0 : Heap) (s m : SV) (l : Int) (ps : List Int) : Heap := h0 ++ [.cells [s, m, .int .i64 l] true 0, .cells (ps.map (.int .i64)) true 1]
theorem LH_box {h0 : Heap} {s m : SV} {l : Int} {ps : List Int} (T : Heap) : Blk.At (LH h0 s m l ps ++ T) h0.length [s, m, .int .i64 l] :=
  ⟨true, 0, by simp [LH]⟩
theorem LH_ext {h0 : Heap} {s m : SV} {l : Int} {ps : List Int} (T : Heap) : Ext h0 (LH h0 s m l ps ++ T) := ⟨_, by simp [LH]; rfl⟩
theorem LH_at {h0 : Heap} {s m : SV} {l : Int} {ps : List Int} (T : Heap) : (LH h0 s m l ps ++ T)[h0.length + 1]? = some (.cells (ps.map (.int .i64)) true 1) := by
  simp [LH]
theorem LH_rd {h0 : Heap} {s m : SV} {l : Int} {ps : List Int} (T : Heap) {k : Nat} (hk : k < ps.length) {j : Int} (hj : j = (k : Nat)) : readN (LH h0 s m l ps ++ T) (h0.length + 1) (0 + j.toNat * 1) 1 = some [.int .i64 (ps.getD k 0)] := by
  subst hj
  rw [Int.toNat_natCast]
  simp only [readN, LH_at]
  exact cut1 (by simp [List.getD, hk])
theorem LH_wr {h0 : Heap} {s m : SV} {l : Int} {ps : List Int} (T : Heap) {k : Nat} (hk : k < ps.length) {j : Int} (hj : j = (k : Nat)) {x : Int} : writeN (LH h0 s m l ps ++ T) (h0.length + 1) (0 + j.toNat * 1) [.int .i64 x] = some (LH h0 s m l (ps.set k x) ++ T) := by
  subst hj
  rw [Int.toNat_natCast]
  have hsp : splice (ps.map (SV.int .i64)) k [.int .i64 x] = (ps.set k x).map (.int .i64) := by
    rw [List.map_set, List.set_eq_take_append_cons_drop, if_pos (by simpa using hk)]
    simp [splice]
  simp only [writeN, LH_at, Nat.zero_add, Nat.mul_one, List.length_singleton]
  rw [if_pos (by simp; omega), hsp]
  simp [LH]
theorem LH_len {h0 : Heap} {s m : SV} {l : Int} {ps : List Int} : (LH h0 s m l ps).length = h0.length + 2 := by simp [LH]
theorem OwnQ.rebase {h0 : Heap} {s m : SV} {l : Int} {ps ps' : List Int} {T : Heap} {q : SV} {vs : List SV} (ho : OwnQ (LH h0 s m l ps) (LH h0 s m l ps ++ T) q vs) : OwnQ (LH h0 s m l ps') (LH h0 s m l ps' ++ T) q vs := by
  rcases ho with h | ⟨id, off, cap, cs, e1, e2, e3, e4⟩
  · exact .inl h
  · rw [LH_len] at e2
    refine .inr ⟨id, off, cap, cs, e1, by rw [LH_len]; exact e2, ?_, e4⟩
    rw [List.getElem?_append_right (by rw [LH_len]; exact e2)] at e3 ⊢
    rw [LH_len] at e3 ⊢
    exact e3

def cntV (n k : Nat) (E : Env) (_ : Heap) : Nat := match E.get k with
  | some (.sc (.int _ i)) => n - i.toNat
  | _ => 0

/-! ### All have no number -/
theorem fill_set {n i : Nat} (hi : i < n) : (List.replicate i (-1 : Int) ++ List.replicate (n - i) 0).set i (-1) = List.replicate (i + 1) (-1) ++ List.replicate (n - (i + 1)) 0 := by
  rw [List.set_append_right _ _ (by simp)]
  simp only [List.length_replicate, Nat.sub_self]
  rw [show n - i = (n - (i + 1)) + 1 by omega, List.replicate_succ, List.set_cons_zero, List.replicate_succ', List.append_assoc]; rfl
def I59a (h0 : Heap) (s m : SV) (l : Int) (n : Nat) (E : Env) (h : Heap) : Prop := ∃ i : Nat, i ≤ n ∧ h = LH h0 s m l (List.replicate i (-1) ++ List.replicate (n - i) 0) ++ [] ∧
  E = [(1, some (.sc (.ptr h0.length 0))), (4, some (.sc (.slc (h0.length + 1) 0 n (some n)))), (17, some (.sc (.int .i64 (n : Nat)))), (18, some (.sc (.int .i64 (i : Nat))))]
def R59a (h0 : Heap) (s m : SV) (l : Int) (n : Nat) (ex : Ex) (E : Env) (h : Heap) : Prop := ex = .ex 0 ∧ h = LH h0 s m l (List.replicate n (-1)) ++ [] ∧ ∃ a b c,
  E = [(1, some (.sc (.ptr h0.length 0))), (4, some (.sc (.slc (h0.length + 1) 0 n (some n)))), (17, a), (18, b), (19, c)]
theorem round59a (h0 : Heap) (s m : SV) (l : Int) (n : Nat) (hn : n ≤ 64) (E : Env) (h : Heap) (hI : I59a h0 s m l n E h) :
    wA FT HK b59L0 (E.keep [1, 4, 17, 18]) h (wRound (I59a h0 s m l n) (cntV n 18) (cntV n 18 E h) (R59a h0 s m l n)) := by
  obtain ⟨i, hi, rfl, rfl⟩ := hI
  by_cases hlt : i < n
  · repeat' (first | refine w_seq ?_ | refine w_seqN ?_ | refine w_blk ?_ | refine w_blkN ?_ | refine w_skip ?_ | refine w_ops ?_ | ((refine i_cond ?_); refine w_condT rfl ?_) | ((refine i_nil ?_); first | refine w_end4 rfl rfl rfl rfl ?_ | refine w_end5 rfl rfl rfl rfl rfl ?_) | ((refine i_cons ?_); first | refine k_idxA rfl rfl (by omega) ?_ | refine k_st rfl rfl (LH_wr [] (k := i) (by simp; omega) rfl) ?_ | refine k_mv rfl ?_ | refine k_add rfl rfl (by omega) ?_ | refine k_lssT rfl rfl (by omega) ?_))
    exact w_roundN ⟨i + 1, by omega, by rw [fill_set hlt], rfl⟩ (by simp [cntV, Env.get]; omega)
  · have : i = n := by omega
    subst this
    repeat' (first | refine w_seq ?_ | refine w_seqN ?_ | refine w_seqX ?_ | refine w_exit ?_ | refine w_ops ?_ | ((refine i_cond ?_); refine w_condF rfl ?_) | ((refine i_nil ?_); refine w_end5 rfl rfl rfl rfl rfl ?_) | ((refine i_cons ?_); refine k_lssF rfl rfl (by omega) ?_))
    exact w_roundX ⟨rfl, by simp, _, _, _, rfl⟩

/-! ### The four edges of a crossing -/
def St59 (h0 : Heap) (s m : SV) (l : Int) (ms : List Int) (n P c0 k : Nat) (qs : List Nat) (ex : Nat → Prop) (q : SV) (ps : List Int) (h : Heap) : Prop :=
  Bf ms n ps P c0 qs ex k ∧ ∃ T, h = LH h0 s m l ps ++ T ∧ OwnQ (LH h0 s m l ps) h q (qs.map fun x => .int .i64 (x : Nat))
def I59s (h0 : Heap) (s m : SV) (l : Int) (ms : List Int) (n P c0 k a : Nat) (E : Env) (h : Heap) : Prop := ∃ (i : Nat) (ps : List Int) (qs : List Nat) (q : SV), i ≤ 4 ∧
  St59 h0 s m l ms n P c0 k qs (fun b => b = a) q ps h ∧ ps.getD a 0 = (P : Int) ∧ (∀ j, j < i → ps.getD (mateN ms (4 * a + j) / 4) 0 = (P : Int)) ∧
  E = [(1, some (.sc (.ptr h0.length 0))), (4, some (.sc (.slc (h0.length + 1) 0 n (some n)))), (6, some (.sc (.int .i64 (P : Nat)))), (8, some (.sc q)), (9, some (.sc (.int .i64 (a : Nat)))), (26, some (.sc (.int .i64 (n : Nat)))), (27, some (.sc (.int .i64 (c0 : Nat)))), (49, some (.sc (.int .i64 (i : Nat))))]
def R59s (h0 : Heap) (s m : SV) (l : Int) (ms : List Int) (n P c0 k : Nat) (ex : Ex) (E : Env) (h : Heap) : Prop := ex = .ex 6 ∧ ∃ (ps : List Int) (qs : List Nat) (q : SV),
  St59 h0 s m l ms n P c0 k qs (fun _ => False) q ps h ∧ ∃ a b c,
  E = [(1, some (.sc (.ptr h0.length 0))), (4, some (.sc (.slc (h0.length + 1) 0 n (some n)))), (6, some (.sc (.int .i64 (P : Nat)))), (8, some (.sc q)), (9, a), (26, some (.sc (.int .i64 (n : Nat)))), (27, some (.sc (.int .i64 (c0 : Nat)))), (49, b), (50, c)]

theorem round59s (h0 : Heap) (s m : SV) (l : Int) (ms : List Int) (n P c0 k a : Nat) (hs : IsInts h0 m ms) (hm : Mates ms) (hv : Inv ms) (hf : Fits ms n) (hn : n ≤ 64) (hk : k ≤ 64) (ha : a < n) (E : Env) (h : Heap) (hI : I59s h0 s m l ms n P c0 k a E h) :
    wA FT HK b59L3 (E.keep [1, 4, 6, 8, 9, 26, 27, 49]) h (wRound (I59s h0 s m l ms n P c0 k a) (cntV 4 49) (cntV 4 49 E h) (R59s h0 s m l ms n P c0 k)) := by
  obtain ⟨i, ps, qs, q, hi, ⟨hb, T, rfl, hq⟩, hpa, hall, rfl⟩ := hI
  have hn4 := hf.n4
  have hbl := hb.len
  have hPc := hb.num
  have hc0 := hb.root.1
  by_cases hlt : i < 4
  · have hh : 4 * a + i < ms.length := by omega
    obtain ⟨t, hg1, hg2⟩ := hm.get _ hh
    have htN : mateN ms (4 * a + i) = t := by unfold mateN; rw [getD_at hg1]; simp
    obtain ⟨id, off, cap, rfl, hr⟩ := IsInts.at (IsSl.ext hs (LH_ext (s := s) (m := m) (l := l) (ps := ps) T)) hg1
    have hr2 : ∀ {j : Int}, j = ((4 * a + i : Nat) : Int) → readN (LH h0 s (.slc id off ms.length cap) l ps ++ T) id (off + j.toNat * 1) 1 = some [.int .i64 (t : Int)] := fun hj => by subst hj; rw [Int.toNat_natCast]; exact hr
    have htl : t / 4 < ps.length := by omega
    have hst : Step ms a (t / 4) := ⟨4 * a + i, hh, by omega, by rw [htN]⟩
    by_cases hp : ps.getD (t / 4) 0 = -1
    · have hb2 := hb.push hf hpa hst hp
      have hg := fun k => getD_set (x := (P : Int)) htl k
      have hql : qs.length ≤ k := by have := hb.cnt; omega
      repeat' (first | refine w_seq ?_ | refine w_seqN ?_ | refine w_blk ?_ | refine w_blkN ?_ | refine w_skip ?_ | refine w_ops ?_ | ((refine i_cond ?_); refine w_condT rfl ?_) | ((refine i_nil ?_); first | refine w_end8 rfl rfl rfl rfl rfl rfl rfl rfl ?_ | refine w_end9 rfl rfl rfl rfl rfl rfl rfl rfl rfl ?_ | refine w_end10 rfl rfl rfl rfl rfl rfl rfl rfl rfl rfl ?_) | ((refine i_cons ?_); first | refine k_fldA rfl ?_ | refine k_ldb rfl (LH_box T) rfl ?_ | refine k_idxA rfl rfl (by omega) ?_ | refine k_ld rfl (hr2 (by omega)) ?_ | refine k_ld rfl (LH_rd T htl (by omega)) ?_ | refine k_st rfl rfl (LH_wr T htl (by omega)) ?_ | (refine k_pushQ ⟨_, rfl⟩ (OwnQ.rebase hq) rfl rfl (by simp [bigN]; omega) ?_; intro q2 h2 hq2 he2 hf2) | refine k_mv rfl ?_ | refine k_add rfl rfl (by omega) ?_ | refine k_mul rfl rfl (by omega) ?_ | refine k_quo rfl rfl (by omega) ?_ | refine k_lssT rfl rfl (by omega) ?_))
      obtain ⟨T2, rfl⟩ := he2
      refine w_roundN ⟨i + 1, ps.set (t / 4) P, qs ++ [t / 4], q2, by omega, ⟨hb2, T2, rfl, ?_⟩, ?_, ?_, rfl⟩ (by simp [cntV, Env.get]; omega)
      · rw [show (t : Int) / 4 = ((t / 4 : Nat) : Int) by omega] at hq2
        rw [List.map_append]; exact hq2
      · rw [hg]; split
        · rfl
        · exact hpa
      · intro j hj
        rw [hg]; split
        · rfl
        · rename_i hne
          rcases Nat.lt_or_ge j i with h1 | h1
          · exact hall j h1
          · have : j = i := by omega
            subst this
            rw [htN] at hne
            exact absurd rfl hne
    · have hP := hb.seen hm hv hf hpa hst hp
      repeat' (first | refine w_seq ?_ | refine w_seqN ?_ | refine w_blk ?_ | refine w_blkN ?_ | refine w_skip ?_ | refine w_ops ?_ | ((refine i_cond ?_); first | refine w_condT rfl ?_ | refine w_condF rfl ?_) | ((refine i_nil ?_); first | refine w_end8 rfl rfl rfl rfl rfl rfl rfl rfl ?_ | refine w_end9 rfl rfl rfl rfl rfl rfl rfl rfl rfl ?_ | refine w_end10 rfl rfl rfl rfl rfl rfl rfl rfl rfl rfl ?_) | ((refine i_cons ?_); first | refine k_fldA rfl ?_ | refine k_ldb rfl (LH_box T) rfl ?_ | refine k_idxA rfl rfl (by omega) ?_ | refine k_ld rfl (hr2 (by omega)) ?_ | refine k_ld rfl (LH_rd T htl (by omega)) ?_ | refine k_mv rfl ?_ | refine k_add rfl rfl (by omega) ?_ | refine k_mul rfl rfl (by omega) ?_ | refine k_quo rfl rfl (by omega) ?_ | refine k_lssT rfl rfl (by omega) ?_ | refine k_lssF rfl rfl (by omega) ?_))
      refine w_roundN ⟨i + 1, ps, qs, q, by omega, ⟨hb, T, rfl, hq⟩, hpa, ?_, rfl⟩ (by simp [cntV, Env.get]; omega)
      intro j hj
      rcases Nat.lt_or_ge j i with h1 | h1
      · exact hall j h1
      · have : j = i := by omega
        subst this
        rw [htN]; exact hP
  · have : i = 4 := by omega
    subst this
    repeat' (first | refine w_seq ?_ | refine w_seqN ?_ | refine w_seqX ?_ | refine w_exit ?_ | refine w_ops ?_ | ((refine i_cond ?_); refine w_condF rfl ?_) | ((refine i_nil ?_); refine w_end9 rfl rfl rfl rfl rfl rfl rfl rfl rfl ?_) | ((refine i_cons ?_); refine k_lssF rfl rfl (by omega) ?_))
    exact w_roundX ⟨rfl, ps, qs, q, ⟨hb.done hpa hall, T, rfl, hq⟩, _, _, _, rfl⟩

end Go.Proofs.YtleoalcbgpjieaaDoor


/- diagram.label: its contract. -/
namespace Go.Proofs.YtleoalcbgpjieaaDoor
open Go.Ab
set_option linter.unusedVariables false
set_option linter.unusedSimpArgs false
set_option maxRecDepth 20000
set_option maxHeartbeats 4000000
attribute [local irreducible] wOps wA wSeq wBlk wRound wRoundI wOpsD
variable {HK : FuncId → Option Hook}

/-! ### The queue -/
def I59q (h0 : Heap) (s m : SV) (l : Int) (ms : List Int) (n P c0 k : Nat) (E : Env) (h : Heap) : Prop := k ≤ 64 ∧ ∃ (ps : List Int) (qs : List Nat) (q : SV),
  St59 h0 s m l ms n P c0 k qs (fun _ => False) q ps h ∧
  E.keep [1, 4, 6, 8, 26, 27] = [(1, some (.sc (.ptr h0.length 0))), (4, some (.sc (.slc (h0.length + 1) 0 n (some n)))), (6, some (.sc (.int .i64 (P : Nat)))), (8, some (.sc q)), (26, some (.sc (.int .i64 (n : Nat)))), (27, some (.sc (.int .i64 (c0 : Nat))))]
def R59q (h0 : Heap) (s m : SV) (l : Int) (ms : List Int) (n P c0 : Nat) (ex : Ex) (E : Env) (h : Heap) : Prop := ex = .ex 4 ∧ ∃ (ps : List Int) (T : Heap), Bo ms n ps (P + 1) (c0 + 1) ∧ h = LH h0 s m l ps ++ T ∧ ∃ a b,
  E = [(1, some (.sc (.ptr h0.length 0))), (4, some (.sc (.slc (h0.length + 1) 0 n (some n)))), (6, some (.sc (.int .i64 (P : Nat)))), (8, a), (26, some (.sc (.int .i64 (n : Nat)))), (27, some (.sc (.int .i64 (c0 : Nat)))), (43, b)]

theorem round59q (h0 : Heap) (s m : SV) (l : Int) (ms : List Int) (n P c0 : Nat) (hs : IsInts h0 m ms) (hm : Mates ms) (hv : Inv ms) (hf : Fits ms n) (hn : n ≤ 64) (k : Nat) (E : Env) (h : Heap) (hI : I59q h0 s m l ms n P c0 k E h) :
    wA FT HK b59L2 (E.keep [1, 4, 6, 8, 26, 27]) h (wRoundI (I59q h0 s m l ms n P c0) k (R59q h0 s m l ms n P c0)) := by
  obtain ⟨hk, ps, qs, q, ⟨hb, T, rfl, hq⟩, hE⟩ := hI
  rw [hE]
  cases qs with
  | nil =>
    have hl : lenS false q = some 0 := hq.len
    repeat' (first | refine w_seq ?_ | refine w_seqN ?_ | refine w_seqX ?_ | refine w_exit ?_ | refine w_ops ?_ | ((refine i_cond ?_); refine w_condF rfl ?_) | ((refine i_nil ?_); refine w_end7 rfl rfl rfl rfl rfl rfl rfl ?_) | ((refine i_cons ?_); first | refine k_len rfl hl ?_ | refine k_mv rfl ?_ | refine k_gtrF rfl rfl (by omega) ?_))
    exact w_roundIX ⟨rfl, ps, T, hb.out hm hv, rfl, _, _, rfl⟩
  | cons a r =>
    have hl : lenS false q = some ((r.length + 1 : Nat) : Int) := by have := hq.len; simpa using this
    obtain ⟨k, rfl⟩ : ∃ j, k = j + 1 := ⟨k - 1, by have := hb.cnt; simp at this; omega⟩
    obtain ⟨han, hpa⟩ := hb.qlab a (by simp)
    have hb2 := hb.pop
    obtain ⟨q2, h1, h2, h3⟩ := hq.from (k := 1) (by simp)
    have h1' : slice1 ((1 : Int)).toNat (((r.length + 1 : Nat) : Int)).toNat q = some q2 := by
      rw [Int.toNat_natCast]
      simpa using h1
    obtain ⟨id, off, cap, rfl, hr⟩ := hq.rd (i := 0) (v := .int .i64 (a : Nat)) (by simp)
    repeat' (first | refine w_seq ?_ | refine w_seqN ?_ | refine w_blk ?_ | refine w_skip ?_ | refine w_ops ?_ | ((refine i_cond ?_); refine w_condT rfl ?_) | ((refine i_nil ?_); first | refine w_end7 rfl rfl rfl rfl rfl rfl rfl ?_ | refine w_end8 rfl rfl rfl rfl rfl rfl rfl rfl ?_) | ((refine i_cons ?_); first | refine k_len rfl hl ?_ | refine k_idxA rfl rfl (by simp only [List.length_map, List.length_cons]; omega) ?_ | refine k_ld rfl hr ?_ | refine k_from rfl hl rfl (by omega) h1' ?_ | refine k_mv rfl ?_ | refine k_gtrT rfl rfl (by omega) ?_))
    refine w_loop (I59s h0 s m l ms n P c0 k a) (cntV 4 49) (R59s h0 s m l ms n P c0 k) ⟨0, ps, r, q2, by omega, ⟨hb2, T, rfl, by simpa using h2⟩, hpa, fun j hj => by omega, rfl⟩ (round59s h0 s m l ms n P c0 k a hs hm hv hf hn (by omega) han) ?_
    rintro ex E' h' ⟨rfl, ps2, qs2, q3, ⟨hb3, T3, rfl, hq3⟩, x, y, z, rfl⟩
    repeat' (first | refine w_blkN ?_ | refine w_blkX ?_)
    exact w_roundIN (Nat.lt_succ_self k) ⟨by omega, ps2, qs2, q3, ⟨hb3, T3, rfl, hq3⟩, rfl⟩

/-! ### All crossings -/
def I59c (h0 : Heap) (s m : SV) (l : Int) (ms : List Int) (n : Nat) (E : Env) (h : Heap) : Prop := ∃ (c P : Nat) (ps : List Int) (T : Heap), c ≤ n ∧ Bo ms n ps P c ∧ h = LH h0 s m l ps ++ T ∧
  E = [(1, some (.sc (.ptr h0.length 0))), (4, some (.sc (.slc (h0.length + 1) 0 n (some n)))), (6, some (.sc (.int .i64 (P : Nat)))), (26, some (.sc (.int .i64 (n : Nat)))), (27, some (.sc (.int .i64 (c : Nat))))]
def R59c (h0 : Heap) (s m : SV) (l : Int) (ms : List Int) (n : Nat) (ex : Ex) (E : Env) (h : Heap) : Prop := ex = .ex 2 ∧ ∃ (P : Nat) (ps : List Int) (T : Heap), Bo ms n ps P n ∧ h = LH h0 s m l ps ++ T ∧ ∃ a b c,
  E = [(1, some (.sc (.ptr h0.length 0))), (4, some (.sc (.slc (h0.length + 1) 0 n (some n)))), (6, some (.sc (.int .i64 (P : Nat)))), (26, a), (27, b), (28, c)]

theorem round59c (h0 : Heap) (s m : SV) (l : Int) (ms : List Int) (n : Nat) (hs : IsInts h0 m ms) (hm : Mates ms) (hv : Inv ms) (hf : Fits ms n) (hn : n ≤ 64) (E : Env) (h : Heap) (hI : I59c h0 s m l ms n E h) :
    wA FT HK b59L1 (E.keep [1, 4, 6, 26, 27]) h (wRound (I59c h0 s m l ms n) (cntV n 27) (cntV n 27 E h) (R59c h0 s m l ms n)) := by
  obtain ⟨c, P, ps, T, hc, hb, rfl, rfl⟩ := hI
  have hbl := hb.len
  have hPc := hb.num
  by_cases hlt : c < n
  · have hcl : c < ps.length := by omega
    by_cases hp : ps.getD c 0 = -1
    · have hb2 := hb.start hp hlt
      have hu : unl ps ≤ 64 := Nat.le_trans List.countP_le_length (by omega)
      repeat' (first | refine w_seq ?_ | refine w_seqN ?_ | refine w_blk ?_ | refine w_skip ?_ | refine w_ops ?_ | ((refine i_cond ?_); first | refine w_condT rfl ?_ | refine w_condF rfl ?_) | ((refine i_nil ?_); first | refine w_end6 rfl rfl rfl rfl rfl rfl ?_ | refine w_end7 rfl rfl rfl rfl rfl rfl rfl ?_) | ((refine i_cons ?_); first | refine k_idxA rfl rfl (by omega) ?_ | refine k_ld rfl (LH_rd T hcl (by omega)) ?_ | refine k_st rfl rfl (LH_wr T hcl (by omega)) ?_ | refine k_mv rfl ?_ | refine k_lssT rfl rfl (by omega) ?_ | refine k_geqF rfl rfl (by omega) ?_ | refine k_ok rfl rfl ?_))
      refine w_loopI (I59q h0 s m l ms n P c) (unl ps) (R59q h0 s m l ms n P c) ⟨hu, ps.set c P, [c], _, ⟨hb2, T ++ [.cells [.int .i64 (c : Nat)] true 1], by rw [← List.append_assoc]; rfl, ?_⟩, rfl⟩ (round59q h0 s m l ms n P c hs hm hv hf hn) ?_
      · refine .inr ⟨_, 0, some 1, [.int .i64 (c : Nat)], rfl, by simp, ?_, rfl, rfl, Nat.le_refl _⟩
        rw [List.getElem?_append_right (Nat.le_refl _)]
        simp; rfl
      rintro ex E' h' ⟨rfl, ps2, T2, hb3, rfl, x, y, rfl⟩
      repeat' (first | refine w_seqN ?_ | refine w_blkN ?_ | refine w_blkX ?_ | refine w_ops ?_ | ((refine i_nil ?_); refine w_end5 rfl rfl rfl rfl rfl ?_) | ((refine i_cons ?_); first | refine k_mv rfl ?_ | refine k_add rfl rfl (by omega) ?_))
      exact w_roundN ⟨c + 1, P + 1, ps2, T2, by omega, hb3, rfl, rfl⟩ (by simp [cntV, Env.get]; omega)
    · have hge : 0 ≤ ps.getD c 0 := by
        rcases hb.rng c hlt with h1 | ⟨p, h1, h2⟩
        · exact absurd h1 hp
        · omega
      repeat' (first | refine w_seq ?_ | refine w_seqN ?_ | refine w_seqX ?_ | refine w_blk ?_ | refine w_blkX ?_ | refine w_skip ?_ | refine w_exit ?_ | refine w_ops ?_ | ((refine i_cond ?_); refine w_condT rfl ?_) | ((refine i_nil ?_); first | refine w_end5 rfl rfl rfl rfl rfl ?_ | refine w_end6 rfl rfl rfl rfl rfl rfl ?_ | refine w_end7 rfl rfl rfl rfl rfl rfl rfl ?_) | ((refine i_cons ?_); first | refine k_idxA rfl rfl (by omega) ?_ | refine k_ld rfl (LH_rd T hcl (by omega)) ?_ | refine k_mv rfl ?_ | refine k_add rfl rfl (by omega) ?_ | refine k_lssT rfl rfl (by omega) ?_ | refine k_geqT rfl rfl (by omega) ?_))
      exact w_roundN ⟨c + 1, P, ps, T, by omega, hb.skip hp, rfl, rfl⟩ (by simp [cntV, Env.get]; omega)
  · have : c = n := by omega
    subst this
    repeat' (first | refine w_seq ?_ | refine w_seqN ?_ | refine w_seqX ?_ | refine w_exit ?_ | refine w_ops ?_ | ((refine i_cond ?_); refine w_condF rfl ?_) | ((refine i_nil ?_); refine w_end6 rfl rfl rfl rfl rfl rfl ?_) | ((refine i_cons ?_); refine k_lssF rfl rfl (by omega) ?_))
    exact w_roundX ⟨rfl, P, ps, T, hb, rfl, _, _, _, rfl⟩

theorem call59 (hk : HK 59 = none) (h0 : Heap) (s m : SV) (l : Int) (xs ms : List Int) (hx : IsInts h0 s xs) (hs : IsInts h0 m ms) (hm : Mates ms) (hv : Inv ms) (hf : Fits ms xs.length) (hn : xs.length ≤ 64) :
    ∃ v h', Cal FT HK 59 [.agg [s, m, .int .i64 l]] h0 v h' ∧ Ext h0 h' ∧ ∃ (P : Nat) (ps : List Int) (p : SV), v = .tup [.sc p, .sc (.int .i64 (P : Nat))] ∧ Own h0 h' p (ps.map (.int .i64)) ∧ Parts ms xs.length ps P ∧ P ≤ xs.length := by
  refine Cal.of (F := a59) hk rfl rfl ?_
  have hxl := IsSl.len (IsSl.ext hx ⟨[.cells [s, m, .int .i64 l] true 0], rfl⟩)
  repeat' (first | refine w_seq ?_ | refine w_seqN ?_ | refine w_blk ?_ | refine w_ops ?_ | ((refine i_nil ?_); first | refine w_end1 rfl ?_ | refine w_end2 rfl rfl ?_ | refine w_end4 rfl rfl rfl rfl ?_) | ((refine i_cons ?_); first | refine k_box0 rfl rfl ?_ | refine k_fldA rfl ?_ | refine k_ldL rfl rfl ?_ | refine k_len rfl hxl ?_ | refine k_mkL rfl rfl (by simp only [bigN]; omega) ?_ | refine k_mv rfl ?_ | refine k_len rfl rfl ?_))
  refine w_loop (I59a h0 s m l xs.length) (cntV xs.length 18) (R59a h0 s m l xs.length) ⟨0, Nat.zero_le _, by simp [LH], rfl⟩ (round59a h0 s m l xs.length hn) ?_
  rintro ex E' h' ⟨rfl, rfl, a, b, c, rfl⟩
  repeat' (first | refine w_seq ?_ | refine w_seqN ?_ | refine w_blk ?_ | refine w_blkX ?_ | refine w_ops ?_ | ((refine i_nil ?_); first | refine w_end3 rfl rfl rfl ?_ | refine w_end5 rfl rfl rfl rfl rfl ?_) | ((refine i_cons ?_); first | refine k_mv rfl ?_ | refine k_len rfl rfl ?_))
  refine w_loop (I59c h0 s m l ms xs.length) (cntV xs.length 27) (R59c h0 s m l ms xs.length) ⟨0, 0, _, [], by omega, Bo.init hf, rfl, rfl⟩ (round59c h0 s m l ms xs.length hs hm hv hf hn) ?_
  rintro ex E' h' ⟨rfl, P, ps, T, hb, rfl, a, b, c, rfl⟩
  have hPn := hb.num
  repeat' (first | refine w_seq ?_ | refine w_seqN ?_ | refine w_blkX ?_ | refine w_ret ?_ | refine w_ops ?_ | ((refine i_nil ?_); refine w_end2 rfl rfl ?_) | ((refine i_cons ?_); refine k_mv rfl ?_))
  refine ⟨.inr rfl, LH_ext T, P, ps, _, rfl, ?_, hb.parts, hPn⟩
  refine .inr ⟨_, some xs.length, ps.map (.int .i64), by rw [List.length_map, hb.len], by omega, LH_at T, List.take_length, by simp [Room, hb.len]⟩

end Go.Proofs.YtleoalcbgpjieaaDoor

