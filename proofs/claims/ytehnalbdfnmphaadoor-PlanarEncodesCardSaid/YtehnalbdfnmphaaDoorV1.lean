/- A valid diagram, in plain words; components numbered in any way. -/
import Derived.Test.YtehnalbdfnmphaaDoorRv2
namespace Go.Proofs.YtehnalbdfnmphaaDoor
open Go.Ab
set_option linter.unusedVariables false

/-- Each half-edge and its mate. -/
def MatesOk (xs ms : List Int) : Prop := ∀ h, h < ms.length → ∃ m : Nat, ms[h]? = some (m : Int) ∧ m < ms.length ∧ m ≠ h ∧ ms[m]? = some (h : Int) ∧ outB xs h ≠ outB xs m

structure Front (xs ms : List Int) (l : Int) : Prop where
  n64 : xs.length ≤ 64
  four : ms.length = 4 * xs.length
  l0 : 0 ≤ l
  l64 : l ≤ 64
  sgn : ∀ x ∈ xs, Sgn x
  ok : MatesOk xs ms

theorem Front.mates {xs ms : List Int} {l : Int} (h : Front xs ms l) : Mates ms :=
  ⟨by have := h.four; omega, by have := h.four; have := h.n64; omega, fun i hi => let ⟨m, h1, h2, _⟩ := h.ok i hi; ⟨m, h1, h2⟩⟩
theorem MatesOk.inv {xs ms : List Int} (h : MatesOk xs ms) : Inv ms := by
  intro i m hm
  obtain ⟨m2, h1, h2, h3, h4, _⟩ := h i (List.getElem?_eq_some_iff.1 hm).1
  rw [hm] at h1
  have := Option.some.inj h1
  have : m = m2 := by omega
  subst this
  exact h4
theorem Front.inv {xs ms : List Int} {l : Int} (h : Front xs ms l) : Inv ms := h.ok.inv
theorem Front.fits {xs ms : List Int} {l : Int} (h : Front xs ms l) : Fits ms xs.length := by
  have h1 := h.mates.fits
  have h2 := h.four
  exact ⟨by omega, h1.mate⟩

/-- Each component is on a sphere. -/
def Sph (ms : List Int) (n : Nat) : Prop := ∀ c, c < n → OkC (labIter ms n n) (leasts ms ms.length) c
/-- A valid diagram. -/
def PV (xs ms : List Int) (l : Int) : Prop := Front xs ms l ∧ Sph ms xs.length

theorem Reach.symm {ms : List Int} (hm : Mates ms) (hv : Inv ms) : ∀ {q c d : Nat}, Reach ms q c d → Reach ms q d c
  | 0, c, d, h => by cases h; rfl
  | q + 1, c, d, ⟨e, h1, h2⟩ => Reach.trans (Reach.symm hm hv h2) (⟨c, Step.symm hm hv h1, rfl⟩ : Reach ms 1 e c)

/-- The same label: one reaches the other. -/
theorem label_same {ms : List Int} {n : Nat} (hm : Mates ms) (hv : Inv ms) (hf : Fits ms n) {b c : Nat} (hb : b < n) (hc : c < n) :
    (labIter ms n n).getD b 0 = (labIter ms n n).getD c 0 ↔ ∃ q, Reach ms q b c := by
  obtain ⟨e1, h1, h2, ⟨q1, h3⟩, h4⟩ := label_spec hm hv hf hb
  obtain ⟨e2, g1, g2, ⟨q2, g3⟩, g4⟩ := label_spec hm hv hf hc
  rw [h1, g1]
  constructor
  · intro he
    have : e1 = e2 := by omega
    subst this
    exact ⟨_, h3.trans (Reach.symm hm hv g3)⟩
  · rintro ⟨q, hr⟩
    have a1 := h4 _ _ (hr.trans g3)
    have a2 := g4 _ _ ((Reach.symm hm hv hr).trans h3)
    omega

/-- Components, numbered from 0 on. -/
structure Parts (ms : List Int) (n : Nat) (ps : List Int) (P : Nat) : Prop where
  len : ps.length = n
  rng : ∀ c, c < n → ∃ p : Nat, ps.getD c 0 = (p : Int) ∧ p < P
  same : ∀ b c, b < n → c < n → (ps.getD b 0 = ps.getD c 0 ↔ ∃ q, Reach ms q b c)
  hit : ∀ p, p < P → ∃ c, c < n ∧ ps.getD c 0 = (p : Int)

theorem countP_range (ls : List Int) (f : Int → Bool) : ls.countP f = (List.range ls.length).countP fun i => f (ls.getD i 0) := by
  have h1 : ls = (List.range ls.length).map fun i => ls.getD i 0 := by
    refine List.ext_getElem? fun i => ?_
    by_cases hi : i < ls.length
    · simp [hi]
    · simp [hi]
  conv => lhs; rw [h1]
  rw [List.countP_map]; rfl

theorem parts_sph {ms ps : List Int} {n P : Nat} (hm : Mates ms) (hv : Inv ms) (hf : Fits ms n) (hp : Parts ms n ps P) :
    (∀ p : Nat, p < P → (((leasts ms ms.length).countP (labAt ps p) : Nat) : Int) - ((ps.countP (fun y => y == (p : Int)) : Nat) : Int) = 2) ↔ Sph ms n := by
  have hn4 := hf.n4
  have key : ∀ c p : Nat, c < n → (labIter ms n n).getD c 0 = (c : Int) → ps.getD c 0 = (p : Int) →
      (leasts ms ms.length).countP (labAt (labIter ms n n) c) = (leasts ms ms.length).countP (labAt ps p) ∧ (labIter ms n n).countP (fun y => y == (c : Int)) = ps.countP (fun y => y == (p : Int)) := by
    intro c p hc hl hpc
    have same : ∀ b, b < n → ((labIter ms n n).getD b 0 == (c : Int)) = (ps.getD b 0 == (p : Int)) := fun b hb => by
      have h1 := label_same hm hv hf hb hc
      have h2 := hp.same b c hb hc
      rw [hl] at h1
      rw [hpc] at h2
      rw [Bool.eq_iff_iff, beq_iff_eq, beq_iff_eq, h1, h2]
    constructor
    · refine List.countP_congr fun h hh => ?_
      have hlt : h < ms.length := by
        unfold leasts at hh
        simpa using (List.mem_filter.1 hh).1
      unfold labAt
      rw [same (h / 4) (by omega)]
    · rw [countP_range, countP_range ps, labIter_len, hp.len]
      refine List.countP_congr fun b hb => ?_
      rw [same b (by simpa using hb)]
  constructor
  · intro h c hc hl
    obtain ⟨p, h1, h2⟩ := hp.rng c hc
    obtain ⟨k1, k2⟩ := key c p hc hl h1
    have := h p h2
    rw [k1, k2]; omega
  · intro h p hpP
    obtain ⟨c, h1, h2⟩ := hp.hit p hpP
    obtain ⟨e, g1, g2, ⟨q, g3⟩, g4⟩ := label_spec hm hv hf h1
    have hle : (labIter ms n n).getD e 0 = (e : Int) := by
      rw [← g1]
      exact (label_same hm hv hf g2 h1).2 ⟨q, Reach.symm hm hv g3⟩
    have hpe : ps.getD e 0 = (p : Int) := by
      rw [← h2]
      exact (hp.same e c g2 h1).2 ⟨q, Reach.symm hm hv g3⟩
    obtain ⟨k1, k2⟩ := key e p g2 hle hpe
    have := h e g2 hle
    rw [k1, k2] at this
    omega

end Go.Proofs.YtehnalbdfnmphaaDoor
