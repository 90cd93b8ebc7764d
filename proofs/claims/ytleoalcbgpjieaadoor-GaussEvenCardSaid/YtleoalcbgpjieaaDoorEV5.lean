/- Each even set of edges bounds: plain. -/
import Derived.Test.YtleoalcbgpjieaaDoorEV3
namespace Go.Proofs.YtleoalcbgpjieaaDoor
open Go.Ab
set_option linter.unusedVariables false
variable {xs ms : List Int} {l : Int}

theorem cls_one {n : Nat} {L : Nat → Nat} (P : Ptn n L) {k : Nat} (hk : k < n) (h : ∀ c, c < n → L c = L k) : cls n L = 1 := by
  unfold cls
  rw [← countP_out (l := List.range n) (p := fun c => L c == c) (x := L k) List.nodup_range (List.mem_range.2 (P.lt k hk)) (by simp [P.id k hk])]
  have : (List.range n).countP (fun c => (L c == c) && !(c == L k)) = 0 := by
    rw [List.countP_eq_zero]
    intro c hc
    have := h c (List.mem_range.1 hc)
    simp only [Bool.and_eq_true, beq_iff_eq, Bool.not_eq_true', beq_eq_false_iff_ne, ne_eq, not_and, Decidable.not_not]
    intro e
    rw [← e]; exact this
  rw [this]
theorem smB_congr {f g : Nat → Bool} : ∀ {A : List Nat}, (∀ h ∈ A, f h = g h) → smB f A = smB g A
  | [], _ => rfl
  | a :: A, h => by rw [smB, smB, h a (.head _), smB_congr fun b hb => h b (.tail _ hb)]
/-- Even round each crossing. -/
def EvC (y : Nat → Bool) (n : Nat) : Prop := ∀ c, c < n → xor (y (4 * c)) (xor (y (4 * c + 1)) (xor (y (4 * c + 2)) (y (4 * c + 3)))) = false
theorem ev_sum {y S : Nat → Bool} : ∀ {n}, EvC y n → smB (fun h => y h && S (h / 4)) (List.range (4 * n)) = false
  | 0, _ => rfl
  | n + 1, he => by
    rw [range4, smB_app, ev_sum (n := n) fun c hc => he c (by omega)]
    have := he n (by omega)
    simp only [smB, show 4 * n / 4 = n by omega, show (4 * n + 1) / 4 = n by omega, show (4 * n + 2) / 4 = n by omega, show (4 * n + 3) / 4 = n by omega]
    revert this
    cases S n <;> cases y (4 * n) <;> cases y (4 * n + 1) <;> cases y (4 * n + 2) <;> cases y (4 * n + 3) <;> simp
theorem deg_none (hF : Front xs ms l) {y : Nat → Bool} (hy : ∀ h, h < ms.length → y (mateN ms h) = y h) (he : EvC y xs.length) (S : Nat → Bool) : smB (dgB (fun h => h / 4) (fun h => mateN ms h / 4) y S) (outs xs xs.length) = false := by
  have h1 := smB_edges hF fun h => y h && S (h / 4)
  rw [hF.four, ev_sum he] at h1
  rw [h1]
  refine smB_congr fun h hh => ?_
  have hh := ((outs_mem hF).1 hh).1
  show xor _ _ = xor _ (y (mateN ms h) && _)
  rw [hy h hh]
theorem ends_lt (hF : Front xs ms l) : ∀ h ∈ outs xs xs.length, h / 4 < xs.length ∧ mateN ms h / 4 < xs.length := fun h hh => by
  have h1 := ((outs_mem hF).1 hh).1
  have h2 := (hF.mateg h1).2.1
  have := hF.four
  exact ⟨by omega, by omega⟩
/-- Nothing on the edges off the tree: nothing at all. -/
theorem leaf_all (hF : Front xs ms l) {y : Nat → Bool} (hy : ∀ h, h < ms.length → y (mateN ms h) = y h) (he : EvC y xs.length) (hC : ∀ h ∈ krC (fun h => h / 4) (fun h => mateN ms h / 4) (outs xs xs.length), y h = false) : ∀ h, h < ms.length → y h = false := by
  have h1 := leaf (n := xs.length) (ends_lt hF) hC (deg_none hF hy he)
  intro h hh
  obtain ⟨_, b, c, _, e⟩ := hF.mateg hh
  cases ho : outB xs h with
  | true => exact h1 h ((outs_mem hF).2 ⟨hh, ho⟩)
  | false =>
    rw [← hy h hh]
    refine h1 _ ((outs_mem hF).2 ⟨b, ?_⟩)
    rw [ho] at e
    cases h2 : outB xs (mateN ms h) with
    | true => rfl
    | false => exact absurd h2.symm e
theorem krC_sub {p q : Nat → Nat} : ∀ {E : List Nat}, ∀ h ∈ krC p q E, h ∈ E
  | [], h, hh => by simp [krC] at hh
  | g :: E, h, hh => by
    unfold krC at hh
    split at hh
    · rcases List.mem_cons.1 hh with rfl | hh
      · exact .head _
      · exact .tail _ (krC_sub h hh)
    · exact .tail _ (krC_sub h hh)
end Go.Proofs.YtleoalcbgpjieaaDoor


namespace Go.Proofs.YtleoalcbgpjieaaDoor
open Go.Ab
set_option linter.unusedVariables false
variable {xs ms : List Int} {l : Int}

/-- The least half of a face, and its number. -/
noncomputable def fcL (ms : List Int) (h : Nat) : Nat := open Classical in if hh : ∃ t, t < ms.length ∧ Least (phi ms) t ∧ ∃ j, it (phi ms) j t = h then hh.choose else 0
noncomputable def fcI (ms : List Int) (h : Nat) : Nat := (leasts ms ms.length).idxOf (fcL ms h)
theorem fcL_at (hF : Front xs ms l) {h : Nat} (hh : h < ms.length) : fcL ms h < ms.length ∧ Least (phi ms) (fcL ms h) ∧ ∃ j, it (phi ms) j (fcL ms h) = h := by
  obtain ⟨t, j, a, b, c⟩ := orb_least (phi_inj hF.mates hF.inv) (fun h hh => hF.mates.phi_lt hh) h hh
  have hx : ∃ t, t < ms.length ∧ Least (phi ms) t ∧ ∃ j, it (phi ms) j t = h := ⟨t, a, b, j, c⟩
  unfold fcL
  rw [dif_pos hx]
  exact hx.choose_spec
theorem fcL_uniq (hF : Front xs ms l) {h t j : Nat} (ht : t < ms.length) (hl : Least (phi ms) t) (hj : it (phi ms) j t = h) : fcL ms h = t := by
  have hi := phi_inj hF.mates hF.inv
  have hlt : ∀ h, h < ms.length → phi ms h < ms.length := fun h hh => hF.mates.phi_lt hh
  have hh : h < ms.length := by rw [← hj]; exact it_lt hlt ht j
  obtain ⟨a, b, k, c⟩ := fcL_at hF hh
  obtain ⟨i, e1⟩ := orb_symm hi hlt ht hj
  obtain ⟨i2, e2⟩ := orb_symm hi hlt a c
  have h1 := hl (i2 + j)
  rw [it_add, hj, e2] at h1
  have h2 := b (i + k)
  rw [it_add, c, e1] at h2
  omega
theorem fcL_phi (hF : Front xs ms l) {h : Nat} (hh : h < ms.length) : fcL ms (phi ms h) = fcL ms h := by
  obtain ⟨a, b, k, c⟩ := fcL_at hF hh
  refine fcL_uniq hF a b (j := k + 1) ?_
  show phi ms (it (phi ms) k (fcL ms h)) = _
  rw [c]
theorem fcI_lt (hF : Front xs ms l) {h : Nat} (hh : h < ms.length) : fcI ms h < (leasts ms ms.length).length := by
  obtain ⟨a, b, _⟩ := fcL_at hF hh
  unfold fcI
  refine List.idxOf_lt_length_iff.2 ?_
  rw [leasts_F, leastsF_mem]
  exact ⟨a, b⟩
theorem idx_at : ∀ {L : List Nat} {k : Nat} (hk : k < L.length), L.Nodup → L.idxOf L[k] = k
  | x :: L, 0, _, _ => by simp [List.idxOf_cons]
  | x :: L, k + 1, hk, hn => by
    have hk2 : k < L.length := by simpa using hk
    have h1 := List.nodup_cons.1 hn
    have hne : x ≠ L[k] := fun e => h1.1 (e ▸ List.getElem_mem hk2)
    have ih := idx_at hk2 h1.2
    rw [List.getElem_cons_succ, List.idxOf_cons]
    have hb : (x == L[k]) = false := by simpa using hne
    rw [hb, ih]; rfl
theorem fcI_sur (hF : Front xs ms l) {k : Nat} (hk : k < (leasts ms ms.length).length) : ∃ h, h < ms.length ∧ fcI ms h = k := by
  have hm := List.getElem_mem hk
  have key : ∀ t, t ∈ leasts ms ms.length → t < ms.length ∧ Least (phi ms) t := fun t ht => by
    rw [leasts_F, leastsF_mem] at ht
    exact ht
  obtain ⟨a, b⟩ := key _ hm
  have e := fcL_uniq hF a b (j := 0) (h := (leasts ms ms.length)[k]) rfl
  refine ⟨_, a, ?_⟩
  unfold fcI
  rw [e]
  have nd : (leasts ms ms.length).Nodup := by
    rw [leasts_F]
    unfold leastsF
    exact List.Pairwise.filter _ List.nodup_range
  exact idx_at hk nd
/-- The face on the other side of a half: that of the half next to it. -/
theorem fcI_mate (hF : Front xs ms l) {h : Nat} (hh : h < ms.length) : fcI ms (mateN ms h) = fcI ms (turnN h 3) := by
  obtain ⟨_, b, c, _⟩ := hF.mateg hh
  have := fcL_phi hF b
  unfold fcI
  rw [← this]
  show (leasts ms ms.length).idxOf (fcL ms (turnN (mateN ms (mateN ms h)) 3)) = _
  rw [c]
/-- What the faces' colours tell of the edges is even round each crossing. -/
theorem ev_face (hF : Front xs ms l) (b : Nat → Bool) : EvC (fun h => xor (b (fcI ms h)) (b (fcI ms (mateN ms h)))) xs.length := by
  intro c hc
  have h4 := hF.four
  have e : ∀ d, d < 4 → fcI ms (mateN ms (4 * c + d)) = fcI ms (4 * c + (d + 3) % 4) := fun d hd => by
    rw [fcI_mate hF (by omega)]
    congr 1
    unfold turnN; omega
  have e0 := e 0 (by omega)
  rw [Nat.add_zero] at e0
  simp only [e0, e 1 (by omega), e 2 (by omega), e 3 (by omega)]
  simp only [show (0 + 3) % 4 = 3 by rfl, show (1 + 3) % 4 = 0 by rfl, show (2 + 3) % 4 = 1 by rfl, show (3 + 3) % 4 = 2 by rfl, Nat.add_zero]
  cases b (fcI ms (4 * c)) <;> cases b (fcI ms (4 * c + 1)) <;> cases b (fcI ms (4 * c + 2)) <;> cases b (fcI ms (4 * c + 3)) <;> rfl
end Go.Proofs.YtleoalcbgpjieaaDoor

