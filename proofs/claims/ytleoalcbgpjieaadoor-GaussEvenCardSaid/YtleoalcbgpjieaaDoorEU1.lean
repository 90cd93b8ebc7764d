/- Cycles of a map of numbers, joined and parted by exchanges: plain. -/
import Derived.Test.YtleoalcbgpjieaaDoorFaces2
namespace Go.Proofs.YtleoalcbgpjieaaDoor
set_option linter.unusedVariables false

/-! ### Partitions that are merged -/
/-- Each node below n has a representative. -/
structure Ptn (n : Nat) (L : Nat → Nat) : Prop where
  lt : ∀ c, c < n → L c < n
  id : ∀ c, c < n → L (L c) = L c
def mrg (L : Nat → Nat) (a b c : Nat) : Nat := if L c = L a then L b else L c
def cls (n : Nat) (L : Nat → Nat) : Nat := (List.range n).countP fun c => L c == c
theorem Ptn.mrg {n : Nat} {L : Nat → Nat} (P : Ptn n L) {a b : Nat} (ha : a < n) (hb : b < n) : Ptn n (mrg L a b) := by
  refine ⟨fun c hc => ?_, fun c hc => ?_⟩
  · show (if L c = L a then L b else L c) < n
    split
    · exact P.lt b hb
    · exact P.lt c hc
  · show (if L (if L c = L a then L b else L c) = L a then L b else L (if L c = L a then L b else L c)) = if L c = L a then L b else L c
    by_cases h : L c = L a
    · rw [if_pos h, P.id b hb]; split <;> rfl
    · rw [if_neg h, P.id c hc, if_neg h]
theorem countP_out {l : List Nat} {p : Nat → Bool} {x : Nat} (hn : l.Nodup) (hx : x ∈ l) (hp : p x = true) : l.countP (fun c => p c && !(c == x)) + 1 = l.countP p := by
  induction l with
  | nil => simp at hx
  | cons y l ih =>
    have hn2 := List.nodup_cons.1 hn
    rw [List.countP_cons, List.countP_cons]
    by_cases h : y = x
    · subst h
      have e : l.countP (fun c => p c && !(c == y)) = l.countP p := by
        refine List.countP_congr fun z hz => ?_
        have : z ≠ y := fun e => hn2.1 (e ▸ hz)
        simp [this]
      rw [e]; simp [hp]
    · have hxl : x ∈ l := (List.mem_cons.1 hx).resolve_left fun e => h e.symm
      have := ih hn2.2 hxl
      have e : (p y && !(y == x)) = p y := by simp [h]
      rw [e]; omega
theorem mrg_cls {n : Nat} {L : Nat → Nat} (P : Ptn n L) {a b : Nat} (ha : a < n) (hb : b < n) (h : L a ≠ L b) : cls n (mrg L a b) + 1 = cls n L := by
  unfold cls
  rw [← countP_out (l := List.range n) (p := fun c => L c == c) (x := L a) List.nodup_range (List.mem_range.2 (P.lt a ha)) (by simp [P.id a ha])]
  congr 1
  refine List.countP_congr fun c hc => ?_
  have hcn := List.mem_range.1 hc
  simp only [mrg, Bool.and_eq_true, beq_iff_eq, Bool.not_eq_true', beq_eq_false_iff_ne, ne_eq]
  by_cases e : L c = L a
  · rw [if_pos e]
    constructor
    · intro h1
      exfalso
      apply h
      rw [← e, ← h1, P.id b hb]
    · rintro ⟨h1, h2⟩
      exact absurd (h1.symm.trans e) h2
  · rw [if_neg e]
    constructor
    · intro h1
      exact ⟨h1, fun h2 => e (by rw [h2, P.id a ha])⟩
    · exact fun h1 => h1.1

theorem mrg_keep {L : Nat → Nat} {a b u v : Nat} (h : L u = L v) : mrg L a b u = mrg L a b v := by
  unfold mrg; rw [h]
theorem mrg_both {L : Nat → Nat} {a b : Nat} : mrg L a b a = mrg L a b b := by
  unfold mrg
  rw [if_pos rfl]
  split <;> rfl
theorem mrg_of {L : Nat → Nat} {a b u : Nat} (h : L u = L a ∨ L u = L b) : mrg L a b u = L b := by
  unfold mrg
  rcases h with h | h
  · rw [if_pos h]
  · rw [h]; split <;> rfl
theorem mrg_same {n : Nat} {L : Nat → Nat} {a b : Nat} (h : L a = L b) : cls n (mrg L a b) = cls n L := by
  unfold cls
  refine List.countP_congr fun c _ => ?_
  unfold mrg
  by_cases e : L c = L a
  · rw [if_pos e, ← h, ← e]
  · rw [if_neg e]

/-! ### Cycles -/
def swp (a b x : Nat) : Nat := if x = a then b else if x = b then a else x
theorem swp_a (a b : Nat) : swp a b a = b := if_pos rfl
theorem swp_b (a b : Nat) : swp a b b = a := by
  unfold swp
  by_cases h : b = a
  · rw [if_pos h, h]
  · rw [if_neg h, if_pos rfl]
theorem swp_o {a b x : Nat} (h1 : x ≠ a) (h2 : x ≠ b) : swp a b x = x := by unfold swp; rw [if_neg h1, if_neg h2]
/-- From x through a list to z. -/
def Ch (f : Nat → Nat) : Nat → List Nat → Nat → Prop
  | x, [], z => f x = z
  | x, y :: r, z => f x = y ∧ Ch f y r z
theorem ch_app {f : Nat → Nat} {b z : Nat} {B : List Nat} : ∀ {A : List Nat} {x : Nat}, Ch f x (A ++ b :: B) z ↔ Ch f x A b ∧ Ch f b B z
  | [], x => by simp [Ch]
  | y :: A, x => by simp only [List.cons_append, Ch, ch_app (A := A), and_assoc]
theorem ch_congr {f g : Nat → Nat} {z : Nat} : ∀ {A : List Nat} {x : Nat}, (∀ u ∈ x :: A, f u = g u) → Ch f x A z → Ch g x A z
  | [], x, h, hc => by
    show g x = z
    rw [← h x (by simp)]; exact hc
  | y :: A, x, h, hc => ⟨by rw [← h x (by simp)]; exact hc.1, ch_congr (fun u hu => h u (by simp only [List.mem_cons] at hu ⊢; exact .inr hu)) hc.2⟩
theorem ch_start {f g : Nat → Nat} {z x y : Nat} (h : g y = f x) : ∀ {A : List Nat}, (∀ u ∈ A, f u = g u) → Ch f x A z → Ch g y A z
  | [], _, hc => by show g y = z; rw [h]; exact hc
  | w :: A, hA, hc => ⟨by rw [h]; exact hc.1, ch_congr hA hc.2⟩
abbrev Cy := Nat × List Nat
def pt (c : Cy) : List Nat := c.1 :: c.2
def pts (Ls : List Cy) : List Nat := Ls.flatMap pt
theorem pts_cons (c : Cy) (R : List Cy) : pts (c :: R) = pt c ++ pts R := rfl
theorem mem_pts {Ls : List Cy} {x : Nat} : x ∈ pts Ls ↔ ∃ c ∈ Ls, x ∈ pt c := List.mem_flatMap
theorem pts_perm {A B : List Cy} (h : A.Perm B) : (pts A).Perm (pts B) := List.Perm.flatMap_right _ h
/-- The cycles of f on the points T. -/
structure CR (f : Nat → Nat) (Ls : List Cy) (T : List Nat) : Prop where
  ch : ∀ c ∈ Ls, Ch f c.1 c.2 c.1
  pm : (pts Ls).Perm T
/-- A cycle, from another point on. -/
theorem ch_rot {f : Nat → Nat} {c : Cy} (h : Ch f c.1 c.2 c.1) {a : Nat} (ha : a ∈ pt c) : ∃ A, Ch f a A a ∧ (pt c).Perm (a :: A) := by
  obtain ⟨x, X⟩ := c
  rcases List.mem_cons.1 ha with rfl | ha
  · exact ⟨X, h, .refl _⟩
  · obtain ⟨U, V, rfl⟩ := List.append_of_mem ha
    obtain ⟨h1, h2⟩ := ch_app.1 h
    refine ⟨V ++ x :: U, ch_app.2 ⟨h2, h1⟩, ?_⟩
    show (x :: (U ++ a :: V)).Perm (a :: (V ++ x :: U))
    have e1 : (x :: (U ++ a :: V)).Perm ((a :: V) ++ (x :: U)) := by
      rw [← List.cons_append]; exact List.perm_append_comm
    exact e1
theorem CR.congr {f g : Nat → Nat} {Ls : List Cy} {T : List Nat} (R : CR f Ls T) (h : ∀ u ∈ T, f u = g u) : CR g Ls T :=
  ⟨fun c hc => ch_congr (fun u hu => h u (R.pm.mem_iff.1 (mem_pts.2 ⟨c, hc, hu⟩))) (R.ch c hc), R.pm⟩
/-- Two points are exchanged: two cycles are joined, or one is parted. -/
theorem CR.step {f : Nat → Nat} {Ls : List Cy} {T : List Nat} (hT : T.Nodup) (R : CR f Ls T) {a b : Nat} (ha : a ∈ T) (hb : b ∈ T) (hab : a ≠ b) :
    ∃ Ls', CR (fun x => f (swp a b x)) Ls' T ∧ (∀ c' ∈ Ls', (∃ c ∈ Ls, ∀ u ∈ pt c', u ∈ pt c) ∨ ∀ u ∈ pt c', ∃ c ∈ Ls, u ∈ pt c ∧ (a ∈ pt c ∨ b ∈ pt c)) ∧
      ((Ls'.length + 1 = Ls.length) ∨ (Ls'.length = Ls.length + 1 ∧ ∃ c ∈ Ls, a ∈ pt c ∧ b ∈ pt c)) := by
  obtain ⟨c, hc, hac⟩ := mem_pts.1 (R.pm.mem_iff.2 ha)
  obtain ⟨A, hA, pA⟩ := ch_rot (R.ch c hc) hac
  have p1 := List.perm_cons_erase hc
  generalize hR : Ls.erase c = R1 at p1
  have hR1 : ∀ d ∈ R1, d ∈ Ls := fun d hd => by rw [← hR] at hd; exact List.mem_of_mem_erase hd
  have pp : ((a :: A) ++ pts R1).Perm T := by
    have h1 := pts_perm p1
    rw [pts_cons] at h1
    exact ((pA.symm.append_right _).trans h1.symm).trans R.pm
  have nd := pp.symm.nodup hT
  rw [List.nodup_append] at nd
  obtain ⟨n1, n2, n3⟩ := nd
  have aA : a ∉ A := (List.nodup_cons.1 n1).1
  by_cases hbc : b ∈ pt c
  · have hbA : b ∈ A := by
      rcases List.mem_cons.1 (pA.mem_iff.1 hbc) with h | h
      · exact absurd h.symm hab
      · exact h
    obtain ⟨U, V, rfl⟩ := List.append_of_mem hbA
    obtain ⟨h1, h2⟩ := ch_app.1 hA
    have nA := (List.nodup_cons.1 n1).2
    rw [List.nodup_append] at nA
    obtain ⟨m1, m2, m3⟩ := nA
    have bV : b ∉ V := (List.nodup_cons.1 m2).1
    have bU : b ∉ U := fun h => m3 b h b (by simp) rfl
    have aU : a ∉ U := fun h => aA (by simp [h])
    have aV : a ∉ V := fun h => aA (by simp [h])
    have off : ∀ (W : List Nat), a ∉ W → b ∉ W → ∀ u ∈ W, f u = f (swp a b u) := fun W h3 h4 u hu => by
      rw [swp_o (x := u) (fun e => h3 (by rw [← e]; exact hu)) (fun e => h4 (by rw [← e]; exact hu))]
    have pU : (pt (a, V) ++ pt (b, U)).Perm (a :: (U ++ b :: V)) := by
      show (a :: (V ++ b :: U)).Perm (a :: (U ++ b :: V))
      refine List.Perm.cons a ?_
      have e1 : (V ++ b :: U).Perm ((b :: U) ++ V) := List.perm_append_comm
      have e2 : ((b :: U) ++ V).Perm (U ++ b :: V) := by
        show (b :: (U ++ V)).Perm (U ++ b :: V)
        exact List.perm_middle.symm
      exact e1.trans e2
    refine ⟨(a, V) :: (b, U) :: R1, ⟨fun d hd => ?_, ?_⟩, fun d hd => .inl ?_, .inr ⟨?_, c, hc, hac, hbc⟩⟩
    · rcases List.mem_cons.1 hd with rfl | hd
      · exact ch_start (by simp only [swp_a]) (off V aV bV) h2
      · rcases List.mem_cons.1 hd with rfl | hd
        · exact ch_start (by simp only [swp_b]) (off U aU bU) h1
        · refine ch_congr (fun u hu => ?_) (R.ch d (hR1 d hd))
          have hu2 : u ∈ pts R1 := mem_pts.2 ⟨d, hd, hu⟩
          rw [swp_o (fun e => n3 a (by simp) u hu2 e.symm) (fun e => n3 b (by simp) u hu2 e.symm)]
    · rw [pts_cons, pts_cons, ← List.append_assoc]
      exact (pU.append_right _).trans pp
    · rcases List.mem_cons.1 hd with rfl | hd
      · exact ⟨c, hc, fun u hu => pA.mem_iff.2 (pU.mem_iff.1 (List.mem_append_left _ hu))⟩
      · rcases List.mem_cons.1 hd with rfl | hd
        · exact ⟨c, hc, fun u hu => pA.mem_iff.2 (pU.mem_iff.1 (List.mem_append_right _ hu))⟩
        · exact ⟨d, hR1 d hd, fun u hu => hu⟩
    · rw [p1.length_eq]; simp
  · have hbR : b ∈ pts R1 := by
      rcases List.mem_append.1 (pp.mem_iff.2 hb) with h | h
      · exact absurd (pA.mem_iff.2 h) hbc
      · exact h
    obtain ⟨c2, hc2, hb2⟩ := mem_pts.1 hbR
    obtain ⟨B, hB, pB⟩ := ch_rot (R.ch c2 (hR1 c2 hc2)) hb2
    have p2 := List.perm_cons_erase hc2
    generalize hR2e : R1.erase c2 = R2 at p2
    have hR2 : ∀ d ∈ R2, d ∈ Ls := fun d hd => by rw [← hR2e] at hd; exact hR1 d (List.mem_of_mem_erase hd)
    have pq : ((b :: B) ++ pts R2).Perm (pts R1) := by
      have h1 := pts_perm p2
      rw [pts_cons] at h1
      exact (pB.symm.append_right _).trans h1.symm
    have nq := pq.symm.nodup n2
    rw [List.nodup_append] at nq
    obtain ⟨m1, m2, m3⟩ := nq
    have bB : b ∉ B := (List.nodup_cons.1 m1).1
    have aB : a ∉ B := fun h => n3 a (by simp) a (pq.mem_iff.1 (by simp [h])) rfl
    have bA : b ∉ A := fun h => n3 b (by simp [h]) b (pq.mem_iff.1 (by simp)) rfl
    have off : ∀ (W : List Nat), a ∉ W → b ∉ W → ∀ u ∈ W, f u = f (swp a b u) := fun W h3 h4 u hu => by
      rw [swp_o (x := u) (fun e => h3 (by rw [← e]; exact hu)) (fun e => h4 (by rw [← e]; exact hu))]
    have pU : (pt (a, B ++ b :: A)).Perm ((a :: A) ++ (b :: B)) := by
      show (a :: (B ++ b :: A)).Perm (a :: (A ++ b :: B))
      refine List.Perm.cons a ?_
      have e1 : (B ++ b :: A).Perm ((b :: A) ++ B) := List.perm_append_comm
      have e2 : ((b :: A) ++ B).Perm (A ++ b :: B) := by
        show (b :: (A ++ B)).Perm (A ++ b :: B)
        exact List.perm_middle.symm
      exact e1.trans e2
    refine ⟨(a, B ++ b :: A) :: R2, ⟨fun d hd => ?_, ?_⟩, fun d hd => ?_, .inl ?_⟩
    · rcases List.mem_cons.1 hd with rfl | hd
      · exact ch_app.2 ⟨ch_start (by simp only [swp_a]) (off B aB bB) hB, ch_start (by simp only [swp_b]) (off A aA bA) hA⟩
      · refine ch_congr (fun u hu => ?_) (R.ch d (hR2 d hd))
        have hu2 : u ∈ pts R2 := mem_pts.2 ⟨d, hd, hu⟩
        have hu1 : u ∈ pts R1 := pq.mem_iff.1 (List.mem_append_right _ hu2)
        rw [swp_o (fun e => n3 a (by simp) u hu1 e.symm) (fun e => m3 b (by simp) u hu2 e.symm)]
    · rw [pts_cons]
      refine (pU.append_right _).trans ?_
      rw [List.append_assoc]
      exact (pq.append_left _).trans pp
    · rcases List.mem_cons.1 hd with rfl | hd
      · refine .inr fun u hu => ?_
        rcases List.mem_append.1 (pU.mem_iff.1 hu) with h | h
        · exact ⟨c, hc, pA.mem_iff.2 h, .inl hac⟩
        · exact ⟨c2, hR1 c2 hc2, pB.mem_iff.2 h, .inr hb2⟩
      · exact .inl ⟨d, hR2 d hd, fun u hu => hu⟩
    · have q1 := p1.length_eq
      have q2 := p2.length_eq
      simp only [List.length_cons] at q1 q2 ⊢
      omega

/-! ### Exchanges, one after the other -/
structure SW (n : Nat) (T : List Nat) (f L : Nat → Nat) (k : Nat) : Prop where
  p : Ptn n L
  c : ∃ Ls, CR f Ls T ∧ (∀ c ∈ Ls, ∀ u ∈ pt c, ∀ v ∈ pt c, L u = L v) ∧ Ls.length + 2 * n ≤ k + 2 * cls n L + T.length ∧ (Ls.length + T.length + k) % 2 = 0
theorem cls_id (n : Nat) : cls n (fun c => c) = n := by
  unfold cls
  rw [List.countP_eq_length.2 (by simp), List.length_range]
theorem SW.start (n : Nat) (T : List Nat) : SW n T (fun x => x) (fun x => x) 0 := by
  refine ⟨⟨fun c h => h, fun c h => rfl⟩, T.map fun x => (x, []), ⟨fun c hc => ?_, ?_⟩, fun c hc u hu v hv => ?_, ?_, ?_⟩
  · obtain ⟨x, hx, rfl⟩ := List.mem_map.1 hc
    exact rfl
  · have : pts (T.map fun x => (x, [])) = T := by
      unfold pts
      rw [List.flatMap_map]
      show T.flatMap (fun x => [x]) = T
      induction T with
      | nil => rfl
      | cons t r ih => rw [List.flatMap_cons, ih]; rfl
    rw [this]
  · obtain ⟨x, hx, rfl⟩ := List.mem_map.1 hc
    simp only [pt, List.mem_cons, List.not_mem_nil, or_false] at hu hv
    rw [hu, hv]
  · rw [cls_id, List.length_map]; omega
  · rw [List.length_map]; omega
theorem SW.step {n : Nat} {T : List Nat} {f L : Nat → Nat} {k : Nat} (hT : T.Nodup) (hn : ∀ x ∈ T, x < n) (S : SW n T f L k) {a b : Nat} (ha : a ∈ T) (hb : b ∈ T) (hab : a ≠ b) : SW n T (fun x => f (swp a b x)) (mrg L a b) (k + 1) := by
  obtain ⟨P, Ls, R, hL, hc, hp⟩ := S
  obtain ⟨Ls', R', hr, hl⟩ := R.step hT ha hb hab
  refine ⟨P.mrg (hn a ha) (hn b hb), Ls', R', fun c' hc' u hu v hv => ?_, ?_, ?_⟩
  · rcases hr c' hc' with ⟨c, h1, h2⟩ | h
    · exact mrg_keep (hL c h1 u (h2 u hu) v (h2 v hv))
    · have key : ∀ w ∈ pt c', mrg L a b w = L b := fun w hw => by
        obtain ⟨c, h1, h2, h3⟩ := h w hw
        refine mrg_of ?_
        rcases h3 with h3 | h3
        · exact .inl (hL c h1 w h2 a h3)
        · exact .inr (hL c h1 w h2 b h3)
      rw [key u hu, key v hv]
  · by_cases e : L a = L b
    · rw [mrg_same e]
      rcases hl with hl | ⟨hl, -⟩ <;> omega
    · have h1 := mrg_cls P (hn a ha) (hn b hb) e
      rcases hl with hl | ⟨hl, c, c1, c2, c3⟩
      · omega
      · exact absurd (hL c c1 a c2 b c3) e
  · rcases hl with hl | ⟨hl, -⟩ <;> omega
def cmpS (f : Nat → Nat) (W : List (Nat × Nat)) : Nat → Nat := W.foldl (fun f w x => f (swp w.1 w.2 x)) f
theorem SW.all {n : Nat} {T : List Nat} (hT : T.Nodup) (hn : ∀ x ∈ T, x < n) : ∀ (W : List (Nat × Nat)) {f L : Nat → Nat} {k : Nat}, SW n T f L k → (∀ w ∈ W, w.1 ∈ T ∧ w.2 ∈ T ∧ w.1 ≠ w.2) →
    ∃ L', SW n T (cmpS f W) L' (k + W.length) ∧ (∀ w ∈ W, L' w.1 = L' w.2) ∧ ∀ u v, L u = L v → L' u = L' v
  | [], f, L, k, S, _ => ⟨L, S, by simp, fun u v h => h⟩
  | w :: W, f, L, k, S, h => by
    obtain ⟨h1, h2, h3⟩ := h w (by simp)
    obtain ⟨L', S', g1, g2⟩ := SW.all hT hn W (S.step hT hn h1 h2 h3) (fun v hv => h v (by simp [hv]))
    refine ⟨L', ?_, fun v hv => ?_, fun u v e => g2 u v (mrg_keep e)⟩
    · rw [List.length_cons, show k + (W.length + 1) = k + 1 + W.length by omega]; exact S'
    · rcases List.mem_cons.1 hv with rfl | hv
      · exact g2 _ _ mrg_both
      · exact g1 v hv
/-- All points hang together: few classes are left. -/
theorem cls_conn {n : Nat} {T : List Nat} (hT : T.Nodup) (hn : ∀ x ∈ T, x < n) {L : Nat → Nat} {t : Nat} (ht : t ∈ T) (hL : ∀ u ∈ T, L u = L t) : cls n L + T.length ≤ n + 1 := by
  have h1 : cls n L = ((List.range n).filter fun c => L c == c).length := List.countP_eq_length_filter
  have h2 : ((List.range n).filter fun c => L c == c).length ≤ (L t :: (List.range n).filter fun c => decide (c ∉ T)).length := by
    refine fit_len (List.Pairwise.filter _ List.nodup_range) fun c hc => ?_
    obtain ⟨c1, c2⟩ := List.mem_filter.1 hc
    have c2 : L c = c := by simpa using c2
    by_cases hcT : c ∈ T
    · rw [← c2, hL c hcT]; exact List.mem_cons_self
    · exact List.mem_cons_of_mem _ (List.mem_filter.2 ⟨c1, by simpa using hcT⟩)
  have h3 : (T ++ (List.range n).filter fun c => decide (c ∉ T)).length ≤ (List.range n).length := by
    refine fit_len ?_ fun c hc => ?_
    · rw [List.nodup_append]
      exact ⟨hT, List.Pairwise.filter _ List.nodup_range, fun a ha b hb e => by
        have := (List.mem_filter.1 hb).2
        simp only [decide_eq_true_eq] at this
        exact this (e ▸ ha)⟩
    · rcases List.mem_append.1 hc with h | h
      · exact List.mem_range.2 (hn c h)
      · exact (List.mem_filter.1 h).1
  rw [List.length_append, List.length_range] at h3
  rw [List.length_cons] at h2
  omega
end Go.Proofs.YtleoalcbgpjieaaDoor
