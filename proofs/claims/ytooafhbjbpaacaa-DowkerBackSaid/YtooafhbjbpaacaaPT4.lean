/- What is even everywhere and lies on a tree is nothing; what is built along a tree: plain. -/
import Derived.Test.YtooafhbjbpaacaaPT1
import Derived.Test.YtooafhbjbpaacaaM1
import Derived.Test.YtooafhbjbpaacaaI1
namespace Go.Proofs.Ytooafhbjbpaacaa
set_option linter.unusedVariables false
variable {n : Nat} {p q : Nat → Nat}

/-- A sum of bits. -/
def smB (f : Nat → Bool) : List Nat → Bool
  | [] => false
  | h :: E => xor (f h) (smB f E)
theorem smB_none {f : Nat → Bool} : ∀ {E : List Nat}, (∀ h ∈ E, f h = false) → smB f E = false
  | [], _ => rfl
  | h :: E, hE => by rw [smB, hE h (.head _), smB_none fun g hg => hE g (.tail _ hg)]; rfl
/-- How often an edge ends in S, if it is taken. -/
def dgB (p q : Nat → Nat) (y S : Nat → Bool) (h : Nat) : Bool := xor (y h && S (p h)) (y h && S (q h))
theorem leaf : ∀ {E : List Nat} {y : Nat → Bool}, (∀ h ∈ E, p h < n ∧ q h < n) → (∀ h ∈ krC p q E, y h = false) → (∀ S, smB (dgB p q y S) E = false) → ∀ h ∈ E, y h = false
  | [], _, _, _, _, h, hh => by simp at hh
  | g :: E, y, hE, hC, hd, h, hh => by
    have hE2 : ∀ h ∈ E, p h < n ∧ q h < n := fun g hg => hE g (.tail _ hg)
    have hg0 : y g = false := by
      by_cases e : krL p q E (p g) = krL p q E (q g)
      · refine hC g ?_
        rw [krC, if_pos e]; exact .head _
      · have hS := hd fun c => krL p q E c == krL p q E (p g)
        rw [smB, smB_none (E := E) fun k hk => ?_] at hS
        · simp only [dgB, beq_self_eq_true, Bool.and_true, Bool.xor_false] at hS
          have : (krL p q E (q g) == krL p q E (p g)) = false := by simpa using fun h => e h.symm
          rw [this] at hS
          simpa using hS
        · simp only [dgB]
          rw [kr_join hE2 k hk]; simp
    rcases List.mem_cons.1 hh with rfl | hh
    · exact hg0
    · refine leaf hE2 (fun k hk => ?_) (fun S => ?_) h hh
      · refine hC k ?_
        rw [krC]; split
        · exact .tail _ hk
        · exact hk
      · have := hd S
        rw [smB] at this
        have e : dgB p q y S g = false := by simp [dgB, hg0]
        rw [e] at this
        simpa using this
/-- If each edge joins two classes when it is added, any wish can be met. -/
theorem build : ∀ {E : List Nat} (x : Nat → Bool), (∀ h ∈ E, p h < n ∧ q h < n) → (krT p q E).length = E.length → ∃ b : Nat → Bool, ∀ h ∈ E, xor (b (p h)) (b (q h)) = x h
  | [], _, _, _ => ⟨fun _ => false, fun h hh => by simp at hh⟩
  | g :: E, x, hE, hT => by
    have hE2 : ∀ h ∈ E, p h < n ∧ q h < n := fun g hg => hE g (.tail _ hg)
    have hlen := kr_len (p := p) (q := q) (E := E)
    have hne : ¬ krL p q E (p g) = krL p q E (q g) := fun e => by
      rw [krT, if_pos e, List.length_cons] at hT
      omega
    rw [krT, if_neg hne, List.length_cons, List.length_cons] at hT
    obtain ⟨b, hb⟩ := build x hE2 (by omega)
    by_cases e : xor (b (p g)) (b (q g)) = x g
    · exact ⟨b, fun h hh => (List.mem_cons.1 hh).elim (fun h => by rw [h]; exact e) (hb h)⟩
    · refine ⟨fun c => xor (b c) (krL p q E c == krL p q E (p g)), fun h hh => ?_⟩
      rcases List.mem_cons.1 hh with rfl | hh
      · have h2 : (krL p q E (q h) == krL p q E (p h)) = false := by simpa using fun h => hne h.symm
        simp only [beq_self_eq_true, h2]
        cases h3 : b (p h) <;> cases h4 : b (q h) <;> cases h5 : x h <;> simp_all
      · show xor (xor (b (p h)) _) (xor (b (q h)) _) = _
        rw [kr_join hE2 h hh, ← hb h hh]
        cases b (p h) <;> cases b (q h) <;> cases (krL p q E (q h) == krL p q E (p g)) <;> rfl
end Go.Proofs.Ytooafhbjbpaacaa


namespace Go.Proofs.Ytooafhbjbpaacaa
open Go.Ab
set_option linter.unusedVariables false
variable {xs ms : List Int} {l : Int}

/-- The outgoing halves below 4 n. -/
def outs (xs : List Int) (n : Nat) : List Nat := (List.range (4 * n)).filter (outB xs)
theorem range4 (n : Nat) : List.range (4 * (n + 1)) = List.range (4 * n) ++ [4 * n, 4 * n + 1, 4 * n + 2, 4 * n + 3] := by
  rw [show 4 * (n + 1) = 4 * n + 4 by omega, List.range_add]
  rfl
theorem outs_len (hs : ∀ x ∈ xs, Sgn x) : ∀ {n}, n ≤ xs.length → (outs xs n).length = 2 * n
  | 0, _ => rfl
  | n + 1, hn => by
    have ih := outs_len hs (n := n) (by omega)
    unfold outs at ih ⊢
    rw [range4, List.filter_append, List.length_append, ih]
    have hx : xs[n]? = some (xs.getD n 0) := by simp [List.getD, show n < xs.length by omega]
    have hsg := hs _ (List.mem_of_getElem? hx)
    have e : ∀ d, d < 4 → outB xs (4 * n + d) = outB [xs.getD n 0] d := fun d hd => by
      unfold outB
      rw [show (4 * n + d) / 4 = n by omega, show (4 * n + d) % 4 = d by omega, show d / 4 = 0 by omega, show d % 4 = d by omega]
      rfl
    have e0 := e 0 (by omega)
    rw [Nat.add_zero] at e0
    simp only [List.filter_cons, List.filter_nil, e0, e 1 (by omega), e 2 (by omega), e 3 (by omega)]
    rcases hsg with h | h <;> rw [h] <;> rfl
theorem outs_mem (hF : Front xs ms l) {h : Nat} : h ∈ outs xs xs.length ↔ h < ms.length ∧ outB xs h = true := by
  unfold outs
  rw [List.mem_filter, List.mem_range, hF.four]
theorem smB_perm {f : Nat → Bool} {A B : List Nat} (h : A.Perm B) : smB f A = smB f B := by
  induction h with
  | nil => rfl
  | cons x _ ih => rw [smB, smB, ih]
  | swap x y l => rw [smB, smB, smB, smB]; cases f x <;> cases f y <;> cases smB f l <;> rfl
  | trans _ _ i1 i2 => rw [i1, i2]
theorem smB_app {f : Nat → Bool} : ∀ {A B : List Nat}, smB f (A ++ B) = xor (smB f A) (smB f B)
  | [], B => by simp [smB]
  | a :: A, B => by
    show xor (f a) (smB f (A ++ B)) = _
    rw [smB_app, smB]; cases f a <;> cases smB f A <;> cases smB f B <;> rfl
theorem smB_map {f : Nat → Bool} {g : Nat → Nat} : ∀ {A : List Nat}, smB f (A.map g) = smB (fun h => f (g h)) A
  | [] => rfl
  | a :: A => by rw [List.map_cons, smB, smB, smB_map]
theorem smB_xor {f g : Nat → Bool} : ∀ {A : List Nat}, smB (fun h => xor (f h) (g h)) A = xor (smB f A) (smB g A)
  | [] => rfl
  | a :: A => by
    rw [smB, smB, smB, smB_xor]
    cases f a <;> cases g a <;> cases smB f A <;> cases smB g A <;> rfl
/-- All halves: the outgoing ones and their mates. -/
theorem all_perm (hF : Front xs ms l) : (List.range ms.length).Perm (outs xs xs.length ++ (outs xs xs.length).map (mateN ms)) := by
  have hm : ∀ h, h < ms.length → mateN ms h < ms.length ∧ mateN ms (mateN ms h) = h ∧ outB xs h ≠ outB xs (mateN ms h) := fun h hh => by
    obtain ⟨_, b, c, _, e⟩ := hF.mateg hh
    exact ⟨b, c, e⟩
  have no : (outs xs xs.length).Nodup := List.Pairwise.filter _ List.nodup_range
  rw [List.perm_ext_iff_of_nodup List.nodup_range ?_]
  · intro h
    rw [List.mem_append, outs_mem hF, List.mem_range, List.mem_map]
    constructor
    · intro hh
      cases ho : outB xs h with
      | true => exact .inl ⟨hh, rfl⟩
      | false =>
        obtain ⟨b, c, e⟩ := hm h hh
        refine .inr ⟨mateN ms h, (outs_mem hF).2 ⟨b, ?_⟩, c⟩
        rw [ho] at e
        cases h2 : outB xs (mateN ms h) with
        | true => rfl
        | false => exact absurd h2.symm e
    · rintro (⟨a, _⟩ | ⟨g, hg, rfl⟩)
      · exact a
      · exact (hm g ((outs_mem hF).1 hg).1).1
  · rw [List.nodup_append]
    refine ⟨no, ?_, fun a ha b hb e => ?_⟩
    · unfold List.Nodup
      rw [List.pairwise_map]
      refine List.Pairwise.imp_of_mem ?_ no
      intro a b ha hb hab he
      have h1 := (hm a ((outs_mem hF).1 ha).1).2.1
      have h2 := (hm b ((outs_mem hF).1 hb).1).2.1
      rw [he, h2] at h1
      exact hab h1.symm
    · obtain ⟨g, hg, rfl⟩ := List.mem_map.1 hb
      have h1 := (outs_mem hF).1 ha
      have h2 := (outs_mem hF).1 hg
      have h3 := (hm g h2.1).2.2
      rw [← e, h1.2, h2.2] at h3
      exact h3 rfl
/-- A sum over all halves is one over the edges. -/
theorem smB_edges (hF : Front xs ms l) (f : Nat → Bool) : smB f (List.range ms.length) = smB (fun h => xor (f h) (f (mateN ms h))) (outs xs xs.length) := by
  rw [smB_perm (all_perm hF), smB_app, smB_map, smB_xor]
end Go.Proofs.Ytooafhbjbpaacaa



namespace Go.Proofs.Ytooafhbjbpaacaa
open Go.Ab
set_option linter.unusedVariables false
variable {xs ms : List Int} {l : Int}

theorem cls_one {n : Nat} {L : Nat → Nat} (P : Ptn n L) {k : Nat} (hk : k < n) (h : ∀ c, c < n → L c = L k) : cls n L = 1 := by
  unfold cls
  rw [← countP_out (l := List.range n) (p := fun c => L c == c) (x := L k) List.nodup_range (List.mem_range.2 (P.lt k hk)) (by simp [P.id k hk])]
  have : (List.range n).countP (fun c => (L c == c) && !(c == L k)) = 0 := by
    rw [List.countP_eq_zero]
    intro c hc
    have := h c (List.mem_range.1 hc)
    simp only [Bool.and_eq_true, beq_iff_eq, Bool.not_eq_true', beq_eq_false_iff_ne, ne_eq, not_and, Decidable.not_not]
    intro e
    rw [← e]; exact this
  rw [this]
theorem smB_congr {f g : Nat → Bool} : ∀ {A : List Nat}, (∀ h ∈ A, f h = g h) → smB f A = smB g A
  | [], _ => rfl
  | a :: A, h => by rw [smB, smB, h a (.head _), smB_congr fun b hb => h b (.tail _ hb)]
/-- Even round each crossing. -/
def EvC (y : Nat → Bool) (n : Nat) : Prop := ∀ c, c < n → xor (y (4 * c)) (xor (y (4 * c + 1)) (xor (y (4 * c + 2)) (y (4 * c + 3)))) = false
theorem ev_sum {y S : Nat → Bool} : ∀ {n}, EvC y n → smB (fun h => y h && S (h / 4)) (List.range (4 * n)) = false
  | 0, _ => rfl
  | n + 1, he => by
    rw [range4, smB_app, ev_sum (n := n) fun c hc => he c (by omega)]
    have := he n (by omega)
    simp only [smB, show 4 * n / 4 = n by omega, show (4 * n + 1) / 4 = n by omega, show (4 * n + 2) / 4 = n by omega, show (4 * n + 3) / 4 = n by omega]
    revert this
    cases S n <;> cases y (4 * n) <;> cases y (4 * n + 1) <;> cases y (4 * n + 2) <;> cases y (4 * n + 3) <;> simp
theorem deg_none (hF : Front xs ms l) {y : Nat → Bool} (hy : ∀ h, h < ms.length → y (mateN ms h) = y h) (he : EvC y xs.length) (S : Nat → Bool) : smB (dgB (fun h => h / 4) (fun h => mateN ms h / 4) y S) (outs xs xs.length) = false := by
  have h1 := smB_edges hF fun h => y h && S (h / 4)
  rw [hF.four, ev_sum he] at h1
  rw [h1]
  refine smB_congr fun h hh => ?_
  have hh := ((outs_mem hF).1 hh).1
  show xor _ _ = xor _ (y (mateN ms h) && _)
  rw [hy h hh]
theorem ends_lt (hF : Front xs ms l) : ∀ h ∈ outs xs xs.length, h / 4 < xs.length ∧ mateN ms h / 4 < xs.length := fun h hh => by
  have h1 := ((outs_mem hF).1 hh).1
  have h2 := (hF.mateg h1).2.1
  have := hF.four
  exact ⟨by omega, by omega⟩
/-- Nothing on the edges off the tree: nothing at all. -/
theorem leaf_all (hF : Front xs ms l) {y : Nat → Bool} (hy : ∀ h, h < ms.length → y (mateN ms h) = y h) (he : EvC y xs.length) (hC : ∀ h ∈ krC (fun h => h / 4) (fun h => mateN ms h / 4) (outs xs xs.length), y h = false) : ∀ h, h < ms.length → y h = false := by
  have h1 := leaf (n := xs.length) (ends_lt hF) hC (deg_none hF hy he)
  intro h hh
  obtain ⟨_, b, c, _, e⟩ := hF.mateg hh
  cases ho : outB xs h with
  | true => exact h1 h ((outs_mem hF).2 ⟨hh, ho⟩)
  | false =>
    rw [← hy h hh]
    refine h1 _ ((outs_mem hF).2 ⟨b, ?_⟩)
    rw [ho] at e
    cases h2 : outB xs (mateN ms h) with
    | true => rfl
    | false => exact absurd h2.symm e
theorem krC_sub {p q : Nat → Nat} : ∀ {E : List Nat}, ∀ h ∈ krC p q E, h ∈ E
  | [], h, hh => by simp [krC] at hh
  | g :: E, h, hh => by
    unfold krC at hh
    split at hh
    · rcases List.mem_cons.1 hh with rfl | hh
      · exact .head _
      · exact .tail _ (krC_sub h hh)
    · exact .tail _ (krC_sub h hh)
/-- The tree has an edge less than there are crossings. -/
theorem tree_len (hF : Front xs ms l) (h1n : 1 ≤ xs.length) (hC : Conn xs.length ms) : (krC (fun h => h / 4) (fun h => mateN ms h / 4) (outs xs xs.length)).length = xs.length + 1 := by
  have P := kr_ptn (n := xs.length) (ends_lt hF)
  have hj := kr_join (n := xs.length) (ends_lt hF)
  have hcl := kr_cls (n := xs.length) (ends_lt hF)
  have hln := kr_len (p := fun h => h / 4) (q := fun h => mateN ms h / 4) (E := outs xs xs.length)
  rw [outs_len hF.sgn (Nat.le_refl _)] at hln
  have h4 := hF.four
  have hall := hC (fun c => krL (fun h => h / 4) (fun h => mateN ms h / 4) (outs xs xs.length) c = krL (fun h => h / 4) (fun h => mateN ms h / 4) (outs xs xs.length) 0) rfl fun h hh hk => by
    have hh' : h < ms.length := by omega
    obtain ⟨_, b, c, _, e⟩ := hF.mateg hh'
    cases ho : outB xs h with
    | true => rw [← hk]; exact (hj h ((outs_mem hF).2 ⟨hh', ho⟩)).symm
    | false =>
      have h2 : outB xs (mateN ms h) = true := by
        rw [ho] at e
        cases h2 : outB xs (mateN ms h) with
        | true => rfl
        | false => exact absurd h2.symm e
      have := hj _ ((outs_mem hF).2 ⟨b, h2⟩)
      simp only [c] at this
      rw [← hk]; exact this
  have := cls_one P (k := 0) (by omega) hall
  omega
end Go.Proofs.Ytooafhbjbpaacaa

