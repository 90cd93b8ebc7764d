/- Each even set of edges bounds; the chessboard: plain. -/
import Derived.Test.YtooafhbjbpaacaaPT4
namespace Go.Proofs.Ytooafhbjbpaacaa
open Go.Ab
set_option linter.unusedVariables false
variable {xs ms : List Int} {l : Int}

/-- The least half of a face, and its number. -/
noncomputable def fcL (ms : List Int) (h : Nat) : Nat := open Classical in if hh : ∃ t, t < ms.length ∧ Least (phi ms) t ∧ ∃ j, it (phi ms) j t = h then hh.choose else 0
noncomputable def fcI (ms : List Int) (h : Nat) : Nat := (leasts ms ms.length).idxOf (fcL ms h)
theorem fcL_at (hF : Front xs ms l) {h : Nat} (hh : h < ms.length) : fcL ms h < ms.length ∧ Least (phi ms) (fcL ms h) ∧ ∃ j, it (phi ms) j (fcL ms h) = h := by
  obtain ⟨t, j, a, b, c⟩ := orb_least (phi_inj hF.mates hF.inv) (fun h hh => hF.mates.phi_lt hh) h hh
  have hx : ∃ t, t < ms.length ∧ Least (phi ms) t ∧ ∃ j, it (phi ms) j t = h := ⟨t, a, b, j, c⟩
  unfold fcL
  rw [dif_pos hx]
  exact hx.choose_spec
theorem fcL_uniq (hF : Front xs ms l) {h t j : Nat} (ht : t < ms.length) (hl : Least (phi ms) t) (hj : it (phi ms) j t = h) : fcL ms h = t := by
  have hi := phi_inj hF.mates hF.inv
  have hlt : ∀ h, h < ms.length → phi ms h < ms.length := fun h hh => hF.mates.phi_lt hh
  have hh : h < ms.length := by rw [← hj]; exact it_lt hlt ht j
  obtain ⟨a, b, k, c⟩ := fcL_at hF hh
  obtain ⟨i, e1⟩ := orb_symm hi hlt ht hj
  obtain ⟨i2, e2⟩ := orb_symm hi hlt a c
  have h1 := hl (i2 + j)
  rw [it_add, hj, e2] at h1
  have h2 := b (i + k)
  rw [it_add, c, e1] at h2
  omega
theorem fcL_phi (hF : Front xs ms l) {h : Nat} (hh : h < ms.length) : fcL ms (phi ms h) = fcL ms h := by
  obtain ⟨a, b, k, c⟩ := fcL_at hF hh
  refine fcL_uniq hF a b (j := k + 1) ?_
  show phi ms (it (phi ms) k (fcL ms h)) = _
  rw [c]
theorem fcI_lt (hF : Front xs ms l) {h : Nat} (hh : h < ms.length) : fcI ms h < (leasts ms ms.length).length := by
  obtain ⟨a, b, _⟩ := fcL_at hF hh
  unfold fcI
  refine List.idxOf_lt_length_iff.2 ?_
  rw [leasts_F, leastsF_mem]
  exact ⟨a, b⟩
theorem idx_at : ∀ {L : List Nat} {k : Nat} (hk : k < L.length), L.Nodup → L.idxOf L[k] = k
  | x :: L, 0, _, _ => by simp [List.idxOf_cons]
  | x :: L, k + 1, hk, hn => by
    have hk2 : k < L.length := by simpa using hk
    have h1 := List.nodup_cons.1 hn
    have hne : x ≠ L[k] := fun e => h1.1 (e ▸ List.getElem_mem hk2)
    have ih := idx_at hk2 h1.2
    rw [List.getElem_cons_succ, List.idxOf_cons]
    have hb : (x == L[k]) = false := by simpa using hne
    rw [hb, ih]; rfl
theorem fcI_sur (hF : Front xs ms l) {k : Nat} (hk : k < (leasts ms ms.length).length) : ∃ h, h < ms.length ∧ fcI ms h = k := by
  have hm := List.getElem_mem hk
  have key : ∀ t, t ∈ leasts ms ms.length → t < ms.length ∧ Least (phi ms) t := fun t ht => by
    rw [leasts_F, leastsF_mem] at ht
    exact ht
  obtain ⟨a, b⟩ := key _ hm
  have e := fcL_uniq hF a b (j := 0) (h := (leasts ms ms.length)[k]) rfl
  refine ⟨_, a, ?_⟩
  unfold fcI
  rw [e]
  have nd : (leasts ms ms.length).Nodup := by
    rw [leasts_F]
    unfold leastsF
    exact List.Pairwise.filter _ List.nodup_range
  exact idx_at hk nd
/-- The face on the other side of a half: that of the half next to it. -/
theorem fcI_mate (hF : Front xs ms l) {h : Nat} (hh : h < ms.length) : fcI ms (mateN ms h) = fcI ms (turnN h 3) := by
  obtain ⟨_, b, c, _⟩ := hF.mateg hh
  have := fcL_phi hF b
  unfold fcI
  rw [← this]
  show (leasts ms ms.length).idxOf (fcL ms (turnN (mateN ms (mateN ms h)) 3)) = _
  rw [c]
/-- What the faces' colours tell of the edges is even round each crossing. -/
theorem ev_face (hF : Front xs ms l) (b : Nat → Bool) : EvC (fun h => xor (b (fcI ms h)) (b (fcI ms (mateN ms h)))) xs.length := by
  intro c hc
  have h4 := hF.four
  have e : ∀ d, d < 4 → fcI ms (mateN ms (4 * c + d)) = fcI ms (4 * c + (d + 3) % 4) := fun d hd => by
    rw [fcI_mate hF (by omega)]
    congr 1
    unfold turnN; omega
  have e0 := e 0 (by omega)
  rw [Nat.add_zero] at e0
  simp only [e0, e 1 (by omega), e 2 (by omega), e 3 (by omega)]
  simp only [show (0 + 3) % 4 = 3 by rfl, show (1 + 3) % 4 = 0 by rfl, show (2 + 3) % 4 = 1 by rfl, show (3 + 3) % 4 = 2 by rfl, Nat.add_zero]
  cases b (fcI ms (4 * c)) <;> cases b (fcI ms (4 * c + 1)) <;> cases b (fcI ms (4 * c + 2)) <;> cases b (fcI ms (4 * c + 3)) <;> rfl
theorem bounds (hF : Front xs ms l) (h1n : 1 ≤ xs.length) (hC : Conn xs.length ms) (hFc : (leasts ms ms.length).length = xs.length + 2) (x : Nat → Bool) (hx : ∀ h, h < ms.length → x (mateN ms h) = x h) (he : EvC x xs.length) :
    ∃ b : Nat → Bool, (∀ h, h < ms.length → b (phi ms h) = b h) ∧ ∀ h, h < ms.length → xor (b h) (b (mateN ms h)) = x h := by
  have h4 := hF.four
  have hlen := tree_len hF h1n hC
  have hsub : ∀ h ∈ krC (fun h => h / 4) (fun h => mateN ms h / 4) (outs xs xs.length), h < ms.length := fun h hh => ((outs_mem hF).1 (krC_sub h hh)).1
  have hleaf := fun (y : Nat → Bool) a b c => leaf_all (y := y) hF a b c
  generalize krC (fun h => h / 4) (fun h => mateN ms h / 4) (outs xs xs.length) = C at *
  have hE : ∀ h ∈ C, fcI ms h < (leasts ms ms.length).length ∧ fcI ms (mateN ms h) < (leasts ms ms.length).length := fun h hh => ⟨fcI_lt hF (hsub h hh), fcI_lt hF (hF.mateg (hsub h hh)).2.1⟩
  have P := kr_ptn (p := fcI ms) (q := fun h => fcI ms (mateN ms h)) hE
  have hj := kr_join (p := fcI ms) (q := fun h => fcI ms (mateN ms h)) hE
  have hcl := kr_cls (p := fcI ms) (q := fun h => fcI ms (mateN ms h)) hE
  have sy : ∀ (b : Nat → Bool) h, h < ms.length → xor (b (fcI ms (mateN ms h))) (b (fcI ms (mateN ms (mateN ms h)))) = xor (b (fcI ms h)) (b (fcI ms (mateN ms h))) := fun b h hh => by
    rw [(hF.mateg hh).2.2.1, Bool.xor_comm]
  -- the faces are one class
  have one : ∀ k, k < (leasts ms ms.length).length → krL (fcI ms) (fun h => fcI ms (mateN ms h)) C k = krL (fcI ms) (fun h => fcI ms (mateN ms h)) C (fcI ms 0) := by
    have hy := hleaf (fun h => xor (krL (fcI ms) (fun h => fcI ms (mateN ms h)) C (fcI ms h) == krL (fcI ms) (fun h => fcI ms (mateN ms h)) C (fcI ms 0)) (krL (fcI ms) (fun h => fcI ms (mateN ms h)) C (fcI ms (mateN ms h)) == krL (fcI ms) (fun h => fcI ms (mateN ms h)) C (fcI ms 0)))
      (sy fun k => krL (fcI ms) (fun h => fcI ms (mateN ms h)) C k == krL (fcI ms) (fun h => fcI ms (mateN ms h)) C (fcI ms 0))
      (ev_face hF fun k => krL (fcI ms) (fun h => fcI ms (mateN ms h)) C k == krL (fcI ms) (fun h => fcI ms (mateN ms h)) C (fcI ms 0))
      (fun h hh => by have := hj h hh; simp only [this, Bool.xor_self])
    generalize krL (fcI ms) (fun h => fcI ms (mateN ms h)) C = L at *
    have hb : ∀ h, h < ms.length → (L (fcI ms (mateN ms h)) == L (fcI ms 0)) = (L (fcI ms h) == L (fcI ms 0)) := fun h hh => by
      have h1 : xor (L (fcI ms h) == L (fcI ms 0)) (L (fcI ms (mateN ms h)) == L (fcI ms 0)) = false := hy h hh
      revert h1
      cases (L (fcI ms h) == L (fcI ms 0)) <;> cases (L (fcI ms (mateN ms h)) == L (fcI ms 0)) <;> simp
    have ht : ∀ h, h < ms.length → (L (fcI ms (turnN h 3)) == L (fcI ms 0)) = (L (fcI ms h) == L (fcI ms 0)) := fun h hh => by rw [← fcI_mate hF hh]; exact hb h hh
    have hcr : ∀ c, c < xs.length → ∀ d, d < 4 → (L (fcI ms (4 * c + d)) == L (fcI ms 0)) = (L (fcI ms (4 * c)) == L (fcI ms 0)) := fun c hc d hd => by
      have t1 := ht (4 * c) (by omega)
      have t2 := ht (4 * c + 3) (by omega)
      have t3 := ht (4 * c + 2) (by omega)
      rw [show turnN (4 * c) 3 = 4 * c + 3 by unfold turnN; omega] at t1
      rw [show turnN (4 * c + 3) 3 = 4 * c + 2 by unfold turnN; omega] at t2
      rw [show turnN (4 * c + 2) 3 = 4 * c + 1 by unfold turnN; omega] at t3
      have : d = 0 ∨ d = 1 ∨ d = 2 ∨ d = 3 := by omega
      rcases this with rfl | rfl | rfl | rfl
      · rfl
      · rw [t3, t2, t1]
      · rw [t2, t1]
      · exact t1
    have hall := hC (fun c => (L (fcI ms (4 * c)) == L (fcI ms 0)) = true) (by simp) fun h hh hk => by
      have h1 := hcr (h / 4) (by omega) (h % 4) (by omega)
      rw [show 4 * (h / 4) + h % 4 = h by omega] at h1
      have hm := (hF.mateg (h := h) (by omega)).2.1
      have h2 := hcr (mateN ms h / 4) (by omega) (mateN ms h % 4) (by omega)
      rw [show 4 * (mateN ms h / 4) + mateN ms h % 4 = mateN ms h by omega] at h2
      rw [← h2, hb h (by omega), h1]; exact hk
    intro k hk
    obtain ⟨h, hh, rfl⟩ := fcI_sur hF hk
    have h1 := hcr (h / 4) (by omega) (h % 4) (by omega)
    rw [show 4 * (h / 4) + h % 4 = h by omega, hall (h / 4) (by omega)] at h1
    simpa using h1
  have c1 := cls_one P (fcI_lt hF (h := 0) (by omega)) one
  obtain ⟨b, hb⟩ := build (p := fcI ms) (q := fun h => fcI ms (mateN ms h)) x hE (by omega)
  have hy := hleaf (fun h => xor (x h) (xor (b (fcI ms h)) (b (fcI ms (mateN ms h)))))
    (fun h hh => by
      have := sy b h hh
      simp only [hx h hh, this])
    (fun c hc => by
      have e1 := he c hc
      have e2 := ev_face hF b c hc
      simp only at e2 ⊢
      revert e1 e2
      generalize xor (b (fcI ms (4 * c))) (b (fcI ms (mateN ms (4 * c)))) = y0
      generalize xor (b (fcI ms (4 * c + 1))) (b (fcI ms (mateN ms (4 * c + 1)))) = y1
      generalize xor (b (fcI ms (4 * c + 2))) (b (fcI ms (mateN ms (4 * c + 2)))) = y2
      generalize xor (b (fcI ms (4 * c + 3))) (b (fcI ms (mateN ms (4 * c + 3)))) = y3
      cases x (4 * c) <;> cases x (4 * c + 1) <;> cases x (4 * c + 2) <;> cases x (4 * c + 3) <;> cases y0 <;> cases y1 <;> cases y2 <;> cases y3 <;> simp)
    (fun h hh => by rw [hb h hh]; simp)
  refine ⟨fun h => b (fcI ms h), fun h hh => ?_, fun h hh => ?_⟩
  · show b (fcI ms (phi ms h)) = b (fcI ms h)
    unfold fcI
    rw [fcL_phi hF hh]
  · have := hy h hh
    simp only at this ⊢
    revert this
    cases x h <;> cases xor (b (fcI ms h)) (b (fcI ms (mateN ms h))) <;> simp
end Go.Proofs.Ytooafhbjbpaacaa
