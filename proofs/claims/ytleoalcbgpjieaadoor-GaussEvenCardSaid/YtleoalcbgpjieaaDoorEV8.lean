/- The visits of a code, crossing by crossing; two strands cross an even number of times: plain. -/
import Derived.Test.YtleoalcbgpjieaaDoorEV7
namespace Go.Proofs.YtleoalcbgpjieaaDoor
open Go.Ab
set_option linter.unusedVariables false
variable {xs ms : List Int} {l : Int}

/-! ### Places: the i-th list's k-th element -/
section
variable {α β : Type}
def rowG (i : Nat) : Nat → List α → List (α × Nat × Nat)
  | _, [] => []
  | k, v :: r => (v, i, k) :: rowG i (k + 1) r
def allG : Nat → List (List α) → List (α × Nat × Nat)
  | _, [] => []
  | i, c :: C => rowG i 0 c ++ allG (i + 1) C
theorem rowG_app (i : Nat) : ∀ (k : Nat) (a b : List α), rowG i k (a ++ b) = rowG i k a ++ rowG i (k + a.length) b
  | k, [], b => by simp [rowG]
  | k, v :: a, b => by
    simp only [List.cons_append, rowG, rowG_app i (k + 1) a b, List.length_cons]
    rw [show k + 1 + a.length = k + (a.length + 1) by omega]
theorem allG_app : ∀ (i : Nat) (A B : List (List α)), allG i (A ++ B) = allG i A ++ allG (i + A.length) B
  | i, [], B => by simp [allG]
  | i, c :: A, B => by
    simp only [List.cons_append, allG, allG_app (i + 1) A B, List.length_cons, List.append_assoc]
    rw [show i + 1 + A.length = i + (A.length + 1) by omega]
theorem rowG_map (f : α → β) (i : Nat) : ∀ (k : Nat) (a : List α), rowG i k (a.map f) = (rowG i k a).map fun t => (f t.1, t.2)
  | k, [] => rfl
  | k, v :: a => by simp only [List.map_cons, rowG, rowG_map f i (k + 1) a]
theorem allG_map (f : α → β) : ∀ (i : Nat) (A : List (List α)), allG i (A.map fun c => c.map f) = (allG i A).map fun t => (f t.1, t.2)
  | i, [] => rfl
  | i, c :: A => by simp only [List.map_cons, allG, List.map_append, rowG_map, allG_map f (i + 1) A]
theorem rowG_mem {i : Nat} : ∀ {k : Nat} {a : List α} {g : α} {i' k' : Nat}, (g, i', k') ∈ rowG i k a ↔ i' = i ∧ k ≤ k' ∧ a[k' - k]? = some g
  | k, [], g, i', k' => by simp [rowG]
  | k, v :: a, g, i', k' => by
    rw [rowG, List.mem_cons, rowG_mem (k := k + 1)]
    constructor
    · rintro (h | ⟨h1, h2, h3⟩)
      · simp only [Prod.mk.injEq] at h
        obtain ⟨rfl, rfl, rfl⟩ := h
        simp
      · refine ⟨h1, by omega, ?_⟩
        rw [show k' - k = (k' - (k + 1)) + 1 by omega, List.getElem?_cons_succ]; exact h3
    · rintro ⟨rfl, h2, h3⟩
      by_cases e : k' = k
      · subst e
        simp at h3
        exact .inl (by rw [h3])
      · refine .inr ⟨rfl, by omega, ?_⟩
        rw [show k' - k = (k' - (k + 1)) + 1 by omega, List.getElem?_cons_succ] at h3; exact h3
theorem allG_mem : ∀ {n : Nat} {A : List (List α)} {g : α} {i k : Nat}, (g, i, k) ∈ allG n A ↔ n ≤ i ∧ ∃ L, A[i - n]? = some L ∧ L[k]? = some g
  | n, [], g, i, k => by simp [allG]
  | n, c :: A, g, i, k => by
    rw [allG, List.mem_append, rowG_mem, allG_mem (n := n + 1)]
    constructor
    · rintro (⟨rfl, -, h⟩ | ⟨h1, L, h2, h3⟩)
      · refine ⟨Nat.le_refl _, c, by simp, by simpa using h⟩
      · refine ⟨by omega, L, ?_, h3⟩
        rw [show i - n = (i - (n + 1)) + 1 by omega, List.getElem?_cons_succ]; exact h2
    · rintro ⟨h1, L, h2, h3⟩
      by_cases e : i = n
      · subst e
        simp at h2
        subst h2
        exact .inl ⟨rfl, Nat.zero_le _, by simpa using h3⟩
      · refine .inr ⟨by omega, L, ?_, h3⟩
        rw [show i - n = (i - (n + 1)) + 1 by omega, List.getElem?_cons_succ] at h2; exact h2
theorem rowG_fst (i : Nat) : ∀ (k : Nat) (a : List α), (rowG i k a).map (·.1) = a
  | k, [] => rfl
  | k, v :: a => by simp only [rowG, List.map_cons, rowG_fst i (k + 1) a]
theorem allG_fst : ∀ (n : Nat) (A : List (List α)), (allG n A).map (·.1) = A.flatten
  | n, [] => rfl
  | n, c :: A => by simp only [allG, List.map_append, rowG_fst, allG_fst (n + 1) A, List.flatten_cons]
/-- Before, in the order of the lists. -/
def Bef (a b : α × Nat × Nat) : Prop := a.2.1 < b.2.1 ∨ (a.2.1 = b.2.1 ∧ a.2.2 < b.2.2)
theorem rowG_bef (i : Nat) : ∀ (k : Nat) (a : List α), (rowG i k a).Pairwise Bef
  | k, [] => .nil
  | k, v :: a => by
    rw [rowG, List.pairwise_cons]
    refine ⟨?_, rowG_bef i (k + 1) a⟩
    rintro ⟨g, i', k'⟩ h
    obtain ⟨rfl, h1, -⟩ := rowG_mem.1 h
    exact .inr ⟨rfl, by show k < k'; omega⟩
theorem allG_bef : ∀ (n : Nat) (A : List (List α)), (allG n A).Pairwise Bef
  | n, [] => .nil
  | n, c :: A => by
    rw [allG, List.pairwise_append]
    refine ⟨rowG_bef n 0 c, allG_bef (n + 1) A, ?_⟩
    rintro ⟨g, i, k⟩ h ⟨g', i', k'⟩ h'
    obtain ⟨rfl, -, -⟩ := rowG_mem.1 h
    obtain ⟨h1, -⟩ := allG_mem.1 h'
    exact .inl (by show i < i'; omega)
end
/-- The visits with their places. -/
def visT (C : List (List Vis)) : List (Int × Nat × Nat) := (allG 0 C).map fun t => (t.1.1, t.2)
/-- What is noted of a crossing. -/
def conP (W : List (Int × Nat × Nat)) (c : Int) : List Int := (W.filter fun t => t.1 == c).flatMap fun t => [((t.2.1 : Nat) : Int), ((t.2.2 : Nat) : Int)]
theorem conP_app (W : List (Int × Nat × Nat)) (t : Int × Nat × Nat) (c : Int) : conP (W ++ [t]) c = conP W c ++ if t.1 = c then [((t.2.1 : Nat) : Int), ((t.2.2 : Nat) : Int)] else [] := by
  unfold conP
  rw [List.filter_append, List.flatMap_append]
  congr 1
  by_cases h : t.1 = c <;> simp [h]
theorem conP_none {W : List (Int × Nat × Nat)} {c : Int} (h : c ∉ W.map (·.1)) : conP W c = [] := by
  unfold conP
  have : (W.filter fun t => t.1 == c) = [] := by
    rw [List.filter_eq_nil_iff]
    intro t ht e
    exact h (List.mem_map.2 ⟨t, ht, by simpa using e⟩)
  rw [this]; rfl
theorem conP_len (W : List (Int × Nat × Nat)) (c : Int) : (conP W c).length ≤ 2 * W.length := by
  have key : ∀ V : List (Int × Nat × Nat), (V.flatMap fun t => [((t.2.1 : Nat) : Int), ((t.2.2 : Nat) : Int)]).length = 2 * V.length := fun V => by
    induction V with
    | nil => rfl
    | cons t V ih => rw [List.flatMap_cons, List.length_append, ih, List.length_cons]; simp; omega
  unfold conP
  rw [key]
  have := List.length_filter_le (fun t : Int × Nat × Nat => t.1 == c) W
  omega

/-! ### The two visits of a crossing -/
theorem visT_code (Ls : List (List Nat)) : visT (codeC Ls) = (allG 0 Ls).map fun t => (((t.1 : Nat) : Int) / 4, t.2) := by
  unfold visT
  have : codeC Ls = Ls.map fun c => c.map visH := rfl
  rw [this, allG_map, List.map_map]
  rfl
theorem two_out (hF : Front xs ms l) {Ls : List (List Nat)} (hC : Cov xs ms Ls) {c : Nat} (hc : c < xs.length) : ∃ e, (e = 1 ∨ e = 3) ∧ (Ls.flatten.filter fun g => g / 4 == c).Perm [4 * c + 2, 4 * c + e] := by
  have h4 := hF.four
  have hx : xs[c]? = some (xs.getD c 0) := by simp [List.getD, hc]
  have hs := hF.sgn _ (List.mem_of_getElem? hx)
  have key : ∀ e, (e = 1 ∧ xs.getD c 0 = 1) ∨ (e = 3 ∧ xs.getD c 0 = -1) → (Ls.flatten.filter fun g => g / 4 == c).Perm [4 * c + 2, 4 * c + e] := by
    intro e he
    rw [List.perm_ext_iff_of_nodup (List.Pairwise.filter _ hC.nd) (by simp; omega)]
    intro g
    rw [List.mem_filter, hC.mem, beq_iff_eq]
    simp only [List.mem_cons, List.not_mem_nil, or_false]
    constructor
    · rintro ⟨⟨h1, h2⟩, h3⟩
      have := out_slot hF h1 h2
      rw [h3] at this
      rcases this with h | ⟨h, h'⟩ | ⟨h, h'⟩
      · left; omega
      · right; rcases he with ⟨rfl, q⟩ | ⟨rfl, q⟩
        · omega
        · rw [q] at h'; cases h'
      · right; rcases he with ⟨rfl, q⟩ | ⟨rfl, q⟩
        · rw [q] at h'; cases h'
        · omega
    · rintro (rfl | rfl)
      · refine ⟨⟨by omega, ?_⟩, by omega⟩
        rw [outB_at (by omega)]; rfl
      · rcases he with ⟨rfl, q⟩ | ⟨rfl, q⟩
        · refine ⟨⟨by omega, ?_⟩, by omega⟩
          rw [outB_at (by omega), q]; rfl
        · refine ⟨⟨by omega, ?_⟩, by omega⟩
          rw [outB_at (by omega), q]; rfl
  rcases hs with h | h
  · exact ⟨1, .inl rfl, key 1 (.inl ⟨rfl, h⟩)⟩
  · exact ⟨3, .inr rfl, key 3 (.inr ⟨rfl, h⟩)⟩
theorem two_at (hF : Front xs ms l) {Ls : List (List Nat)} (hC : Cov xs ms Ls) {c : Nat} (hc : c < xs.length) : ∃ g0 i0 k0 g1 i1 k1, (allG 0 Ls).filter (fun t => t.1 / 4 == c) = [(g0, i0, k0), (g1, i1, k1)] ∧ g0 / 4 = c ∧ g1 / 4 = c ∧
    (g1 = turnN g0 1 ∨ g1 = turnN g0 3) ∧ (i0 < i1 ∨ (i0 = i1 ∧ k0 < k1)) := by
  obtain ⟨e, he, hp⟩ := two_out hF hC hc
  have hb : ((allG 0 Ls).filter (fun t => t.1 / 4 == c)).Pairwise Bef := List.Pairwise.filter _ (allG_bef 0 Ls)
  have hm : ((allG 0 Ls).filter (fun t => t.1 / 4 == c)).map (·.1) = Ls.flatten.filter fun g => g / 4 == c := by
    rw [← allG_fst 0 Ls, List.filter_map]; rfl
  rw [← hm] at hp
  generalize (allG 0 Ls).filter (fun t => t.1 / 4 == c) = F at hp hb
  match F, hp, hb with
  | [], hp, _ => exact absurd hp.length_eq (by simp)
  | [_], hp, _ => exact absurd hp.length_eq (by simp)
  | _ :: _ :: _ :: _, hp, _ => exact absurd hp.length_eq (by simp)
  | [(g0, i0, k0), (g1, i1, k1)], hp, hb =>
    have hb2 : Bef (g0, i0, k0) (g1, i1, k1) := by
      rw [List.pairwise_cons] at hb
      exact hb.1 _ (by simp)
    simp only [List.map_cons, List.map_nil] at hp
    have h0 : g0 = 4 * c + 2 ∨ g0 = 4 * c + e := by have := hp.mem_iff (a := g0); simpa using this
    have h1 : g1 = 4 * c + 2 ∨ g1 = 4 * c + e := by have := hp.mem_iff (a := g1); simpa using this
    have hne : g0 ≠ g1 := by
      have := hp.symm.nodup (by simp; omega)
      simpa using this
    refine ⟨g0, i0, k0, g1, i1, k1, rfl, by omega, by omega, ?_, hb2⟩
    unfold turnN
    rcases h0 with rfl | rfl <;> rcases h1 with rfl | rfl <;> rcases he with rfl | rfl <;> omega
theorem conP_at (hF : Front xs ms l) {Ls : List (List Nat)} {c : Nat} {g0 i0 k0 g1 i1 k1 : Nat} (h : (allG 0 Ls).filter (fun t => t.1 / 4 == c) = [(g0, i0, k0), (g1, i1, k1)]) : conP (visT (codeC Ls)) (c : Int) = [(i0 : Int), (k0 : Int), (i1 : Int), (k1 : Int)] := by
  unfold conP
  rw [visT_code, List.filter_map]
  have e : (fun t : Nat × Nat × Nat => t.1 / 4 == c) = ((fun t : Int × Nat × Nat => t.1 == (c : Int)) ∘ fun t : Nat × Nat × Nat => (((t.1 : Nat) : Int) / 4, t.2)) := by
    funext t
    rw [Bool.eq_iff_iff]
    simp only [Function.comp, beq_iff_eq]
    omega
  rw [← e, h]
  rfl
theorem vis_keys (hF : Front xs ms l) {Ls : List (List Nat)} (hC : Cov xs ms Ls) {c : Int} : c ∈ (visT (codeC Ls)).map (·.1) ↔ ∃ k : Nat, c = (k : Int) ∧ k < xs.length := by
  have h4 := hF.four
  rw [visT_code, List.map_map]
  have e : (allG 0 Ls).map ((fun t : Int × Nat × Nat => t.1) ∘ fun t : Nat × Nat × Nat => (((t.1 : Nat) : Int) / 4, t.2)) = Ls.flatten.map fun g : Nat => ((g : Nat) : Int) / 4 := by
    rw [← allG_fst 0 Ls, List.map_map]; rfl
  rw [e, List.mem_map]
  constructor
  · rintro ⟨g, hg, rfl⟩
    have := (hC.mem g).1 hg
    exact ⟨g / 4, by omega, by omega⟩
  · rintro ⟨k, rfl, hk⟩
    refine ⟨4 * k + 2, (hC.mem _).2 ⟨by omega, ?_⟩, by omega⟩
    rw [outB_at (by omega)]; rfl

/-! ### The uses -/
structure Vis4 (xs ms : List Int) (Ls : List (List Nat)) : Prop where
  cov : Cov xs ms Ls
  st : ∀ L ∈ Ls, ∃ s, s < ms.length ∧ Cyc (psi ms) s L
theorem strs_vis4 (hF : Front xs ms l) : Vis4 xs ms (strs xs ms) := ⟨strs_cov hF, fun L hL => by
  unfold strs at hL
  obtain ⟨s, hs, rfl⟩ := List.mem_map.1 hL
  exact ⟨s, (starts_mem.1 hs).1, (cyc_is hF.mates hF.inv (starts_mem.1 hs).1).1⟩⟩
theorem cyc_getk {f : Nat → Nat} {s : Nat} {L : List Nat} (h : Cyc f s L) {k g : Nat} (hk : L[k]? = some g) : g = it f k s := by
  obtain ⟨m, rfl, -, -⟩ := h
  unfold orbN at hk
  rw [List.getElem?_map] at hk
  have hl := (List.getElem?_eq_some_iff.1 (show (List.range (m + 1))[k]? = some k from by
    cases hr : (List.range (m + 1))[k]? with
    | none => rw [hr] at hk; cases hk
    | some y =>
      have := List.getElem?_eq_some_iff.1 hr
      obtain ⟨q, e⟩ := this
      simp at e
      rw [e])).1
  rw [List.getElem?_range (by simpa using hl)] at hk
  simpa using hk.symm
/-- A strand's two visits to a crossing are an odd number apart. -/
theorem self_odd (hF : Front xs ms l) (hS : Sph ms xs.length) {Ls : List (List Nat)} (hV : Vis4 xs ms Ls) {L : List Nat} (hL : L ∈ Ls) {g0 k0 g1 k1 : Nat} (h0 : L[k0]? = some g0) (h1 : L[k1]? = some g1) (ht : g1 = turnN g0 1 ∨ g1 = turnN g0 3) : k0 % 2 ≠ k1 % 2 := by
  obtain ⟨s, hs, hc⟩ := hV.st L hL
  obtain ⟨b, b1, b2⟩ := chess hF hS
  have e0 := cyc_getk hc h0
  have e1 := cyc_getk hc h1
  have l0 : g0 < ms.length := by rw [e0]; exact hF.mates.pit_lt hs _
  have l1 : g1 < ms.length := by rw [e1]; exact hF.mates.pit_lt hs _
  have hb := chess_it hF b1 l1 l0 ht
  rw [e0, e1, b2 s hs, b2 s hs] at hb
  intro he
  rw [he] at hb
  revert hb
  cases b s <;> cases decide (k1 % 2 = 1) <;> simp
theorem smB_par {f : Nat → Bool} : ∀ {L : List Nat}, smB f L = decide ((L.filter f).length % 2 = 1)
  | [] => rfl
  | a :: L => by
    rw [smB, smB_par (L := L), List.filter_cons]
    cases h : f a with
    | false => simp
    | true =>
      simp only [if_true, List.length_cons]
      have : (L.filter f).length % 2 = 0 ∨ (L.filter f).length % 2 = 1 := by omega
      rcases this with e | e
      · rw [e, show ((L.filter f).length + 1) % 2 = 1 by omega]; rfl
      · rw [e, show ((L.filter f).length + 1) % 2 = 0 by omega]; rfl
/-- The components that meet, if there are two. -/
def prL : List Int → Option (Int × Int)
  | [a, _, b, _] => if a ≠ b then some (a, b) else none
  | _ => none
theorem count_filterMap {α β : Type} [BEq β] [LawfulBEq β] (f : α → Option β) (q : β) : ∀ L : List α, (L.filterMap f).count q = (L.filter fun c => f c == some q).length
  | [] => rfl
  | a :: L => by
    rw [List.filterMap_cons, List.filter_cons]
    cases h : f a with
    | none => simp [count_filterMap f q L]
    | some b =>
      simp only [List.count_cons, count_filterMap f q L]
      by_cases e : b = q
      · subst e; simp
      · have h1 : (b == q) = false := by simpa using e
        have h2 : (some b == some q) = false := by simpa using e
        rw [h1, h2]; simp
theorem even_pairs (hF : Front xs ms l) (hS : Sph ms xs.length) {Ls : List (List Nat)} (hV : Vis4 xs ms Ls) (q : Int × Int) : ((List.range xs.length).filterMap fun c : Nat => prL (conP (visT (codeC Ls)) (c : Int))).count q % 2 = 0 := by
  rw [count_filterMap]
  generalize hR : ((List.range xs.length).filter fun c : Nat => prL (conP (visT (codeC Ls)) (c : Int)) == some q) = R
  have hRm : ∀ c, c ∈ R ↔ c < xs.length ∧ prL (conP (visT (codeC Ls)) (c : Int)) = some q := fun c => by
    rw [← hR, List.mem_filter, List.mem_range, beq_iff_eq]
  have hRn : R.Nodup := by rw [← hR]; exact List.Pairwise.filter _ List.nodup_range
  clear hR
  have hfl := hV.cov.nd
  -- what a crossing of these two looks like
  have look : ∀ c, c < xs.length → prL (conP (visT (codeC Ls)) (c : Int)) = some q → ∃ g0 i k0 g1 j k1, (allG 0 Ls).filter (fun t => t.1 / 4 == c) = [(g0, i, k0), (g1, j, k1)] ∧ g0 / 4 = c ∧ g1 / 4 = c ∧ (g1 = turnN g0 1 ∨ g1 = turnN g0 3) ∧ i < j ∧ q = ((i : Int), (j : Int)) := by
    intro c hc hp
    obtain ⟨g0, i, k0, g1, j, k1, h1, h2, h3, h4, h5⟩ := two_at hF hV.cov hc
    rw [conP_at hF h1] at hp
    simp only [prL] at hp
    split at hp
    · rename_i hne
      have := Option.some.inj hp
      exact ⟨g0, i, k0, g1, j, k1, h1, h2, h3, h4, by omega, this.symm⟩
    · cases hp
  by_cases hne : R = []
  · rw [hne]; rfl
  obtain ⟨c0, hc0⟩ := List.exists_mem_of_ne_nil R hne
  obtain ⟨hc1, hc2⟩ := (hRm c0).1 hc0
  obtain ⟨g0, i, k0, g1, j, k1, h1, h2, h3, h4, hij, rfl⟩ := look c0 hc1 hc2
  obtain ⟨-, L, hL, hL0⟩ := allG_mem.1 (show (g0, i, k0) ∈ allG 0 Ls from (List.mem_filter.1 (by rw [h1]; simp : (g0, i, k0) ∈ (allG 0 Ls).filter fun t => t.1 / 4 == c0)).1)
  obtain ⟨-, M, hM, hM0⟩ := allG_mem.1 (show (g1, j, k1) ∈ allG 0 Ls from (List.mem_filter.1 (by rw [h1]; simp : (g1, j, k1) ∈ (allG 0 Ls).filter fun t => t.1 / 4 == c0)).1)
  rw [Nat.sub_zero] at hL hM
  obtain ⟨s, hs, hcL⟩ := hV.st L (List.mem_of_getElem? hL)
  obtain ⟨t, ht, hcM⟩ := hV.st M (List.mem_of_getElem? hM)
  have hev := meet_even hF hS hs ht hcL hcM
  rw [smB_par] at hev
  have outL : ∀ g ∈ L, g < ms.length ∧ outB xs g = true := fun g hg => (hV.cov.mem g).1 (List.mem_flatten.2 ⟨L, List.mem_of_getElem? hL, hg⟩)
  have outM : ∀ g ∈ M, g < ms.length ∧ outB xs g = true := fun g hg => (hV.cov.mem g).1 (List.mem_flatten.2 ⟨M, List.mem_of_getElem? hM, hg⟩)
  have place : ∀ {g : Nat}, g ∈ L → ∃ k, (g, i, k) ∈ allG 0 Ls := fun {g} hg => by
    obtain ⟨k, hk⟩ := List.mem_iff_getElem?.1 hg
    exact ⟨k, allG_mem.2 ⟨Nat.zero_le _, L, by simpa using hL, hk⟩⟩
  have placeM : ∀ {g : Nat}, g ∈ M → ∃ k, (g, j, k) ∈ allG 0 Ls := fun {g} hg => by
    obtain ⟨k, hk⟩ := List.mem_iff_getElem?.1 hg
    exact ⟨k, allG_mem.2 ⟨Nat.zero_le _, M, by simpa using hM, hk⟩⟩
  have h4n := hF.four
  -- the strand that crosses g is the first one
  have cross : ∀ g ∈ M, onS xs ms L (turnN g 1) = true ↔ ∃ g', g' ∈ L ∧ (g' = turnN g 1 ∨ g' = turnN g 3) := by
    intro g hg
    obtain ⟨gl, go⟩ := outM g hg
    have t1 : turnN g 1 < ms.length := by unfold turnN; omega
    have t3 : turnN g 3 < ms.length := by unfold turnN; omega
    have e13 : onS xs ms L (turnN g 3) = onS xs ms L (turnN g 1) := by rw [← turn12]; exact onS_turn hF hs hcL t1
    constructor
    · intro h
      cases ho : outB xs (turnN g 1) with
      | true =>
        rw [onS_out ho] at h
        exact ⟨_, by simpa using h, .inl rfl⟩
      | false =>
        have h3 : outB xs (turnN g 3) = true := by rw [← turn12, out_turn hF t1, ho]; rfl
        rw [← e13, onS_out h3] at h
        exact ⟨_, by simpa using h, .inr rfl⟩
    · rintro ⟨g', hg', rfl | rfl⟩
      · rw [onS_out (outL _ hg').2]; simpa using hg'
      · rw [← e13, onS_out (outL _ hg').2]; simpa using hg'
  have hp : R.Perm ((M.filter fun g => onS xs ms L (turnN g 1)).map (· / 4)) := by
    rw [List.perm_ext_iff_of_nodup hRn ?_]
    · intro c
      rw [hRm, List.mem_map]
      constructor
      · rintro ⟨a1, a2⟩
        obtain ⟨u0, i', n0, u1, j', n1, b1, b2, b3, b4, b5, b6⟩ := look c a1 a2
        simp only [Prod.mk.injEq] at b6
        have ei : i' = i := by omega
        have ej : j' = j := by omega
        subst ei ej
        obtain ⟨-, L', hL', hu0⟩ := allG_mem.1 (show (u0, i', n0) ∈ allG 0 Ls from (List.mem_filter.1 (by rw [b1]; simp : (u0, i', n0) ∈ (allG 0 Ls).filter fun t => t.1 / 4 == c)).1)
        obtain ⟨-, M', hM', hu1⟩ := allG_mem.1 (show (u1, j', n1) ∈ allG 0 Ls from (List.mem_filter.1 (by rw [b1]; simp : (u1, j', n1) ∈ (allG 0 Ls).filter fun t => t.1 / 4 == c)).1)
        rw [Nat.sub_zero, hL] at hL'
        rw [Nat.sub_zero, hM] at hM'
        obtain rfl := Option.some.inj hL'
        obtain rfl := Option.some.inj hM'
        have m1 := List.mem_of_getElem? hu1
        have m0 := List.mem_of_getElem? hu0
        refine ⟨u1, List.mem_filter.2 ⟨m1, (cross u1 m1).2 ⟨u0, m0, ?_⟩⟩, b3⟩
        rcases b4 with b4 | b4 <;> subst b4
        · right; unfold turnN; omega
        · left; unfold turnN; omega
      · rintro ⟨g, hg, rfl⟩
        obtain ⟨m1, m2⟩ := List.mem_filter.1 hg
        obtain ⟨g', n1, n2⟩ := (cross g m1).1 m2
        obtain ⟨gl, go⟩ := outM g m1
        have hc : g / 4 < xs.length := by omega
        have hg4 : g' / 4 = g / 4 := by rcases n2 with rfl | rfl <;> exact turn_4 _ _
        obtain ⟨k, hk⟩ := placeM m1
        obtain ⟨k', hk'⟩ := place n1
        obtain ⟨u0, i', n0, u1, j', n3, b1, b2, b3, b4, b5⟩ := two_at hF hV.cov hc
        have in1 : (g, j, k) ∈ [(u0, i', n0), (u1, j', n3)] := by rw [← b1]; exact List.mem_filter.2 ⟨hk, by simp⟩
        have in2 : (g', i, k') ∈ [(u0, i', n0), (u1, j', n3)] := by rw [← b1]; exact List.mem_filter.2 ⟨hk', by simp [hg4]⟩
        simp only [List.mem_cons, Prod.mk.injEq, List.not_mem_nil, or_false] at in1 in2
        have : i' = i ∧ j' = j := by omega
        obtain ⟨rfl, rfl⟩ := this
        refine ⟨hc, ?_⟩
        rw [conP_at hF b1]
        simp only [prL]
        rw [if_pos (by omega)]
    · unfold List.Nodup
      rw [List.pairwise_map]
      have hMn : M.Nodup := by
        have := hfl
        unfold List.Nodup at this
        rw [List.pairwise_flatten] at this
        exact this.1 M (List.mem_of_getElem? hM)
      refine List.Pairwise.imp_of_mem ?_ (List.Pairwise.filter _ hMn)
      intro a b ha hb hab he
      obtain ⟨a1, a2⟩ := List.mem_filter.1 ha
      obtain ⟨b1, b2⟩ := List.mem_filter.1 hb
      obtain ⟨ka, hka⟩ := placeM a1
      obtain ⟨kb, hkb⟩ := placeM b1
      obtain ⟨g', n1, n2⟩ := (cross a a1).1 a2
      obtain ⟨k', hk'⟩ := place n1
      obtain ⟨gl, go⟩ := outM a a1
      have hc : a / 4 < xs.length := by omega
      have hg4 : g' / 4 = a / 4 := by rcases n2 with rfl | rfl <;> exact turn_4 _ _
      obtain ⟨u0, i', n0, u1, j', n3, c1, c2, c3, c4, c5⟩ := two_at hF hV.cov hc
      have in1 : (a, j, ka) ∈ [(u0, i', n0), (u1, j', n3)] := by rw [← c1]; exact List.mem_filter.2 ⟨hka, by simp⟩
      have in2 : (b, j, kb) ∈ [(u0, i', n0), (u1, j', n3)] := by rw [← c1]; exact List.mem_filter.2 ⟨hkb, by simp [he]⟩
      have in3 : (g', i, k') ∈ [(u0, i', n0), (u1, j', n3)] := by rw [← c1]; exact List.mem_filter.2 ⟨hk', by simp [hg4]⟩
      simp only [List.mem_cons, Prod.mk.injEq, List.not_mem_nil, or_false] at in1 in2 in3
      omega
  have hlen := hp.length_eq
  rw [List.length_map] at hlen
  rw [hlen]
  have : ¬ (M.filter fun g => onS xs ms L (turnN g 1)).length % 2 = 1 := by simpa using hev
  omega
end Go.Proofs.YtleoalcbgpjieaaDoor
