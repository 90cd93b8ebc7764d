/- Each even set of edges bounds, however many pieces there are: plain. -/
import Derived.Test.YtleoalcbgpjieaaDoorEV5
import Derived.Test.YtleoalcbgpjieaaDoorEV0
namespace Go.Proofs.YtleoalcbgpjieaaDoor
open Go.Ab
set_option linter.unusedVariables false
variable {xs ms : List Int} {l : Int}

/-- As many classes at most as there are names that tell them apart. -/
theorem cls_le {n P : Nat} {L : Nat → Nat} (R : Nat → Nat → Prop) (hf : ∀ c, c < n → ∃ p, p < P ∧ R c p) (hi : ∀ c d p, c < n → d < n → R c p → R d p → L c = L d) : cls n L ≤ P := by
  have hx : ∀ c, ∃ p, c < n → p < P ∧ R c p := fun c => by
    by_cases h : c < n
    · obtain ⟨p, h1, h2⟩ := hf c h
      exact ⟨p, fun _ => ⟨h1, h2⟩⟩
    · exact ⟨0, fun h2 => absurd h2 h⟩
  have h1 : cls n L = ((List.range n).filter fun c => L c == c).length := List.countP_eq_length_filter
  have nd : (((List.range n).filter fun c => L c == c).map fun c => (hx c).choose).Nodup := by
    unfold List.Nodup
    rw [List.pairwise_map]
    refine List.Pairwise.imp_of_mem ?_ (List.Pairwise.filter _ List.nodup_range)
    intro a b ha hb hab he
    obtain ⟨a1, a2⟩ := List.mem_filter.1 ha
    obtain ⟨b1, b2⟩ := List.mem_filter.1 hb
    have a2 : L a = a := by simpa using a2
    have b2 : L b = b := by simpa using b2
    have q1 := (hx a).choose_spec (List.mem_range.1 a1)
    have q2 := (hx b).choose_spec (List.mem_range.1 b1)
    rw [← he] at q2
    have := hi a b _ (List.mem_range.1 a1) (List.mem_range.1 b1) q1.2 q2.2
    rw [a2, b2] at this
    exact hab this
  have := fit_len (T := List.range P) nd fun y hy => by
    obtain ⟨a, ha, rfl⟩ := List.mem_map.1 hy
    exact List.mem_range.2 ((hx a).choose_spec (List.mem_range.1 (List.mem_filter.1 ha).1)).1
  rw [List.length_map, List.length_range] at this
  omega
/-- The pieces can be numbered. -/
theorem parts_ex {n : Nat} (hm : Mates ms) (hv : Inv ms) (hf : Fits ms n) : ∃ ps P, Parts ms n ps P := by
  have lb : ∀ c, c < n → ∃ e : Nat, (labIter ms n n).getD c 0 = (e : Int) ∧ e < n ∧ (labIter ms n n).getD e 0 = (e : Int) := fun c hc => by
    obtain ⟨e, h1, h2, ⟨q, h3⟩, h4⟩ := label_spec hm hv hf hc
    refine ⟨e, h1, h2, ?_⟩
    rw [← h1]
    exact (label_same hm hv hf h2 hc).2 ⟨q, Reach.symm hm hv h3⟩
  have R0 : ∀ e : Nat, e ∈ ((List.range n).filter fun c => (labIter ms n n).getD c 0 == ((c : Nat) : Int)) ↔ e < n ∧ (labIter ms n n).getD e 0 = (e : Int) := fun e => by
    simp [List.mem_filter]
  have nd : ((List.range n).filter fun c => (labIter ms n n).getD c 0 == ((c : Nat) : Int)).Nodup := List.Pairwise.filter _ List.nodup_range
  generalize hR : ((List.range n).filter fun c => (labIter ms n n).getD c 0 == ((c : Nat) : Int)) = R at *
  have gd : ∀ c, c < n → ((List.range n).map fun c => ((R.idxOf ((labIter ms n n).getD c 0).toNat : Nat) : Int)).getD c 0 = ((R.idxOf ((labIter ms n n).getD c 0).toNat : Nat) : Int) := fun c hc => by
    simp [List.getD, hc]
  refine ⟨(List.range n).map fun c => ((R.idxOf ((labIter ms n n).getD c 0).toNat : Nat) : Int), R.length, by simp, fun c hc => ?_, fun b c hb hc => ?_, fun p hp => ?_⟩
  · obtain ⟨e, h1, h2, h3⟩ := lb c hc
    refine ⟨_, gd c hc, List.idxOf_lt_length_iff.2 ?_⟩
    rw [h1]
    exact (R0 e).2 ⟨h2, h3⟩
  · rw [gd b hb, gd c hc, ← label_same hm hv hf hb hc]
    obtain ⟨e, h1, h2, h3⟩ := lb b hb
    obtain ⟨f, g1, g2, g3⟩ := lb c hc
    rw [h1, g1]
    constructor
    · intro he
      have he : R.idxOf e = R.idxOf f := by
        simp only [Int.toNat_natCast] at he
        omega
      have k1 := List.getElem_idxOf (List.idxOf_lt_length_iff.2 ((R0 e).2 ⟨h2, h3⟩))
      have k2 := List.getElem_idxOf (List.idxOf_lt_length_iff.2 ((R0 f).2 ⟨g2, g3⟩))
      simp only [he] at k1
      rw [← k1, k2]
    · intro he
      have : e = f := by omega
      rw [this]
  · have hm := List.getElem_mem hp
    obtain ⟨h1, h2⟩ := (R0 _).1 hm
    refine ⟨R[p], h1, ?_⟩
    rw [gd _ h1, h2]
    have := idx_at hp nd
    simp only [Int.toNat_natCast, this]
theorem reach_inv {α : Type} {T : Nat → α} (hT : ∀ h, h < ms.length → T (h / 4) = T (mateN ms h / 4)) : ∀ {q c d : Nat}, Reach ms q c d → T c = T d
  | 0, c, d, h => by cases h; rfl
  | q + 1, c, d, ⟨e, ⟨h, h1, h2, h3⟩, h4⟩ => by
    rw [← reach_inv hT h4, ← h2, ← h3]
    exact hT h h1
theorem kr_mate (hF : Front xs ms l) {h : Nat} (hh : h < ms.length) : krL (fun h => h / 4) (fun h => mateN ms h / 4) (outs xs xs.length) (h / 4) = krL (fun h => h / 4) (fun h => mateN ms h / 4) (outs xs xs.length) (mateN ms h / 4) := by
  have hj := kr_join (n := xs.length) (ends_lt hF)
  obtain ⟨_, b, c, _, e⟩ := hF.mateg hh
  cases ho : outB xs h with
  | true => exact hj h ((outs_mem hF).2 ⟨hh, ho⟩)
  | false =>
    have h2 : outB xs (mateN ms h) = true := by
      rw [ho] at e
      cases h2 : outB xs (mateN ms h) with
      | true => rfl
      | false => exact absurd h2.symm e
    have := hj _ ((outs_mem hF).2 ⟨b, h2⟩)
    simp only [c] at this
    exact this.symm
theorem cotree_len (hF : Front xs ms l) {ps : List Int} {P : Nat} (hp : Parts ms xs.length ps P) : (krC (fun h => h / 4) (fun h => mateN ms h / 4) (outs xs xs.length)).length ≤ xs.length + P := by
  have hcl := kr_cls (n := xs.length) (ends_lt hF)
  have hln := kr_len (p := fun h => h / 4) (q := fun h => mateN ms h / 4) (E := outs xs xs.length)
  rw [outs_len hF.sgn (Nat.le_refl _)] at hln
  have := cls_le (n := xs.length) (P := P) (L := krL (fun h => h / 4) (fun h => mateN ms h / 4) (outs xs xs.length)) (fun c p => ps.getD c 0 = (p : Int)) (fun c hc => let ⟨p, h1, h2⟩ := hp.rng c hc; ⟨p, h2, h1⟩)
    (fun c d p hc hd h1 h2 => by
      obtain ⟨q, hq⟩ := (hp.same c d hc hd).1 (h1.trans h2.symm)
      exact reach_inv (fun h hh => kr_mate hF hh) hq)
  omega
theorem bounds (hF : Front xs ms l) (hS : Sph ms xs.length) (x : Nat → Bool) (hx : ∀ h, h < ms.length → x (mateN ms h) = x h) (he : EvC x xs.length) :
    ∃ b : Nat → Bool, (∀ h, h < ms.length → b (phi ms h) = b h) ∧ ∀ h, h < ms.length → xor (b h) (b (mateN ms h)) = x h := by
  have h4 := hF.four
  obtain ⟨ps, N, hp⟩ := parts_ex hF.mates hF.inv hF.fits
  have hFc := euler hF.mates hF.inv hF.fits hp hS
  have hlen := cotree_len hF hp
  have hsub : ∀ h ∈ krC (fun h => h / 4) (fun h => mateN ms h / 4) (outs xs xs.length), h < ms.length := fun h hh => ((outs_mem hF).1 (krC_sub h hh)).1
  have hleaf := fun (y : Nat → Bool) a b c => leaf_all (y := y) hF a b c
  generalize krC (fun h => h / 4) (fun h => mateN ms h / 4) (outs xs xs.length) = C at *
  have hE : ∀ h ∈ C, fcI ms h < (leasts ms ms.length).length ∧ fcI ms (mateN ms h) < (leasts ms ms.length).length := fun h hh => ⟨fcI_lt hF (hsub h hh), fcI_lt hF (hF.mateg (hsub h hh)).2.1⟩
  have P := kr_ptn (p := fcI ms) (q := fun h => fcI ms (mateN ms h)) hE
  have hj := kr_join (p := fcI ms) (q := fun h => fcI ms (mateN ms h)) hE
  have hcl := kr_cls (p := fcI ms) (q := fun h => fcI ms (mateN ms h)) hE
  have hkl := kr_len (p := fcI ms) (q := fun h => fcI ms (mateN ms h)) (E := C)
  have sy : ∀ (b : Nat → Bool) h, h < ms.length → xor (b (fcI ms (mateN ms h))) (b (fcI ms (mateN ms (mateN ms h)))) = xor (b (fcI ms h)) (b (fcI ms (mateN ms h))) := fun b h hh => by
    rw [(hF.mateg hh).2.2.1, Bool.xor_comm]
  -- the faces of a piece are one class
  have one : ∀ h g, h < ms.length → g < ms.length → (∃ q, Reach ms q (h / 4) (g / 4)) → krL (fcI ms) (fun h => fcI ms (mateN ms h)) C (fcI ms h) = krL (fcI ms) (fun h => fcI ms (mateN ms h)) C (fcI ms g) := by
    intro h0 g0 hh0 hg0 hr
    have hy := hleaf (fun h => xor (krL (fcI ms) (fun h => fcI ms (mateN ms h)) C (fcI ms h) == krL (fcI ms) (fun h => fcI ms (mateN ms h)) C (fcI ms h0)) (krL (fcI ms) (fun h => fcI ms (mateN ms h)) C (fcI ms (mateN ms h)) == krL (fcI ms) (fun h => fcI ms (mateN ms h)) C (fcI ms h0)))
      (sy fun k => krL (fcI ms) (fun h => fcI ms (mateN ms h)) C k == krL (fcI ms) (fun h => fcI ms (mateN ms h)) C (fcI ms h0))
      (ev_face hF fun k => krL (fcI ms) (fun h => fcI ms (mateN ms h)) C k == krL (fcI ms) (fun h => fcI ms (mateN ms h)) C (fcI ms h0))
      (fun h hh => by have := hj h hh; simp only [this, Bool.xor_self])
    generalize krL (fcI ms) (fun h => fcI ms (mateN ms h)) C = L at *
    have hb : ∀ h, h < ms.length → (L (fcI ms (mateN ms h)) == L (fcI ms h0)) = (L (fcI ms h) == L (fcI ms h0)) := fun h hh => by
      have h1 : xor (L (fcI ms h) == L (fcI ms h0)) (L (fcI ms (mateN ms h)) == L (fcI ms h0)) = false := hy h hh
      revert h1
      cases (L (fcI ms h) == L (fcI ms h0)) <;> cases (L (fcI ms (mateN ms h)) == L (fcI ms h0)) <;> simp
    have ht : ∀ h, h < ms.length → (L (fcI ms (turnN h 3)) == L (fcI ms h0)) = (L (fcI ms h) == L (fcI ms h0)) := fun h hh => by rw [← fcI_mate hF hh]; exact hb h hh
    have hcr : ∀ c, c < xs.length → ∀ d, d < 4 → (L (fcI ms (4 * c + d)) == L (fcI ms h0)) = (L (fcI ms (4 * c)) == L (fcI ms h0)) := fun c hc d hd => by
      have t1 := ht (4 * c) (by omega)
      have t2 := ht (4 * c + 3) (by omega)
      have t3 := ht (4 * c + 2) (by omega)
      rw [show turnN (4 * c) 3 = 4 * c + 3 by unfold turnN; omega] at t1
      rw [show turnN (4 * c + 3) 3 = 4 * c + 2 by unfold turnN; omega] at t2
      rw [show turnN (4 * c + 2) 3 = 4 * c + 1 by unfold turnN; omega] at t3
      have : d = 0 ∨ d = 1 ∨ d = 2 ∨ d = 3 := by omega
      rcases this with rfl | rfl | rfl | rfl
      · rfl
      · rw [t3, t2, t1]
      · rw [t2, t1]
      · exact t1
    have at4 : ∀ h, h < ms.length → (L (fcI ms h) == L (fcI ms h0)) = (L (fcI ms (4 * (h / 4))) == L (fcI ms h0)) := fun h hh => by
      have h1 := hcr (h / 4) (by omega) (h % 4) (by omega)
      rwa [show 4 * (h / 4) + h % 4 = h by omega] at h1
    obtain ⟨q, hq⟩ := hr
    have := reach_inv (T := fun c => (L (fcI ms (4 * c)) == L (fcI ms h0))) (fun h hh => by
      rw [← at4 h hh, ← at4 _ (hF.mateg hh).2.1, hb h hh]) hq
    rw [← at4 h0 hh0, ← at4 g0 hg0] at this
    simp only [beq_self_eq_true] at this
    exact (by simpa using this : L (fcI ms g0) = L (fcI ms h0)).symm
  have hps : ∀ h, h < ms.length → h / 4 < xs.length := fun h hh => by omega
  have c1 := cls_le (P := N) (L := krL (fcI ms) (fun h => fcI ms (mateN ms h)) C) (n := (leasts ms ms.length).length) (fun k p => ∃ h, h < ms.length ∧ fcI ms h = k ∧ ps.getD (h / 4) 0 = (p : Int))
    (fun k hk => by
      obtain ⟨h, h1, h2⟩ := fcI_sur hF hk
      obtain ⟨p, h3, h5⟩ := hp.rng (h / 4) (hps h h1)
      exact ⟨p, h5, h, h1, h2, h3⟩)
    (by
      rintro c d p - - ⟨h, h1, rfl, h3⟩ ⟨g, g1, rfl, g3⟩
      exact one h g h1 g1 ((hp.same _ _ (hps h h1) (hps g g1)).1 (h3.trans g3.symm)))
  obtain ⟨b, hb⟩ := build (p := fcI ms) (q := fun h => fcI ms (mateN ms h)) x hE (by omega)
  have hy := hleaf (fun h => xor (x h) (xor (b (fcI ms h)) (b (fcI ms (mateN ms h)))))
    (fun h hh => by
      have := sy b h hh
      simp only [hx h hh, this])
    (fun c hc => by
      have e1 := he c hc
      have e2 := ev_face hF b c hc
      simp only at e2 ⊢
      revert e1 e2
      generalize xor (b (fcI ms (4 * c))) (b (fcI ms (mateN ms (4 * c)))) = y0
      generalize xor (b (fcI ms (4 * c + 1))) (b (fcI ms (mateN ms (4 * c + 1)))) = y1
      generalize xor (b (fcI ms (4 * c + 2))) (b (fcI ms (mateN ms (4 * c + 2)))) = y2
      generalize xor (b (fcI ms (4 * c + 3))) (b (fcI ms (mateN ms (4 * c + 3)))) = y3
      cases x (4 * c) <;> cases x (4 * c + 1) <;> cases x (4 * c + 2) <;> cases x (4 * c + 3) <;> cases y0 <;> cases y1 <;> cases y2 <;> cases y3 <;> simp)
    (fun h hh => by rw [hb h hh]; simp)
  refine ⟨fun h => b (fcI ms h), fun h hh => ?_, fun h hh => ?_⟩
  · show b (fcI ms (phi ms h)) = b (fcI ms h)
    unfold fcI
    rw [fcL_phi hF hh]
  · have := hy h hh
    simp only at this ⊢
    revert this
    cases x h <;> cases xor (b (fcI ms h)) (b (fcI ms (mateN ms h))) <;> simp
end Go.Proofs.YtleoalcbgpjieaaDoor
