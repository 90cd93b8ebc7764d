/- A part has at most two faces more than crossings, and an even number of both; the genus: plain. -/
import Derived.Test.YtleoalcbgpjieaaDoorEU2
namespace Go.Proofs.YtleoalcbgpjieaaDoor
set_option linter.unusedVariables false

def four (c : Nat) : List Nat := [4 * c, 4 * c + 1, 4 * c + 2, 4 * c + 3]
theorem mem_four {c h : Nat} : h ∈ four c ↔ h / 4 = c := by
  unfold four
  simp only [List.mem_cons, List.not_mem_nil, or_false]; omega
theorem mem_fours {Cs : List Nat} {h : Nat} : h ∈ Cs.flatMap four ↔ h / 4 ∈ Cs := by
  rw [List.mem_flatMap]
  constructor
  · rintro ⟨c, hc, h4⟩; rw [mem_four.1 h4]; exact hc
  · exact fun h4 => ⟨_, h4, mem_four.2 rfl⟩
theorem fours_nodup : ∀ {Cs : List Nat}, Cs.Nodup → (Cs.flatMap four).Nodup
  | [], _ => List.nodup_nil
  | c :: Cs, h => by
    obtain ⟨h1, h2⟩ := List.nodup_cons.1 h
    rw [List.flatMap_cons, List.nodup_append]
    refine ⟨by simp [four], fours_nodup h2, fun a ha b hb e => ?_⟩
    subst e
    have := mem_fours.1 hb
    rw [mem_four.1 ha] at this
    exact h1 this
theorem fours_len (Cs : List Nat) : (Cs.flatMap four).length = 4 * Cs.length := by
  induction Cs with
  | nil => rfl
  | cons c r ih => rw [List.flatMap_cons, List.length_append, ih, List.length_cons]; simp [four]; omega
theorem wCs_len (Cs : List Nat) : (Cs.flatMap wC).length = 3 * Cs.length := by
  induction Cs with
  | nil => rfl
  | cons c r ih => rw [List.flatMap_cons, List.length_append, ih, List.length_cons]; simp [wC]; omega
/-- Half of the ends of edges come first. -/
theorem half {T : List Nat} (hT : T.Nodup) {μ : Nat → Nat} (h1 : ∀ x ∈ T, μ x ∈ T) (h2 : ∀ x ∈ T, μ (μ x) = x) (h3 : ∀ x ∈ T, μ x ≠ x) : 2 * (T.filter fun x => decide (x < μ x)).length = T.length := by
  have e1 : T.length = (T.filter fun x => decide (x < μ x)).length + (T.filter fun x => !decide (x < μ x)).length := by
    have : ∀ (l : List Nat), l.length = (l.filter fun x => decide (x < μ x)).length + (l.filter fun x => !decide (x < μ x)).length := by
      intro l
      induction l with
      | nil => rfl
      | cons x l ih =>
        by_cases hx : x < μ x
        · rw [List.filter_cons_of_pos (by simpa using hx), List.filter_cons_of_neg (by simpa using hx), List.length_cons, List.length_cons]; omega
        · rw [List.filter_cons_of_neg (by simpa using hx), List.filter_cons_of_pos (by simpa using hx), List.length_cons, List.length_cons]; omega
    exact this T
  have minj : ∀ (l : List Nat), (∀ x ∈ l, x ∈ T) → l.Nodup → (l.map μ).Nodup := fun l hl hn => by
    unfold List.Nodup
    rw [List.pairwise_map]
    refine List.Pairwise.imp_of_mem ?_ hn
    intro a b ha hb hab e
    exact hab (by rw [← h2 a (hl a ha), e, h2 b (hl b hb)])
  have a1 := fit_len (T := T.filter fun x => !decide (x < μ x)) (minj (T.filter fun x => decide (x < μ x)) (fun x hx => (List.mem_filter.1 hx).1) (List.Pairwise.filter _ hT)) fun y hy => by
    obtain ⟨x, hx, rfl⟩ := List.mem_map.1 hy
    obtain ⟨x1, x2⟩ := List.mem_filter.1 hx
    refine List.mem_filter.2 ⟨h1 x x1, ?_⟩
    have x2 : x < μ x := by simpa using x2
    rw [h2 x x1]
    simp; omega
  have a2 := fit_len (T := T.filter fun x => decide (x < μ x)) (minj (T.filter fun x => !decide (x < μ x)) (fun x hx => (List.mem_filter.1 hx).1) (List.Pairwise.filter _ hT)) fun y hy => by
    obtain ⟨x, hx, rfl⟩ := List.mem_map.1 hy
    obtain ⟨x1, x2⟩ := List.mem_filter.1 hx
    refine List.mem_filter.2 ⟨h1 x x1, ?_⟩
    have x2 : ¬ x < μ x := by simpa using x2
    have := h3 x x1
    rw [h2 x x1]
    simp; omega
  rw [List.length_map] at a1 a2
  omega
/-- A part: its faces and its crossings. -/
theorem part_euler {ms ps : List Int} {n P : Nat} (hm : Mates ms) (hv : Inv ms) (hf : Fits ms n) (hfix : ∀ x, x < ms.length → mateN ms x ≠ x) (hp : Parts ms n ps P) (p : Nat) (hpP : p < P) :
    (leasts ms ms.length).countP (labAt ps p) ≤ ps.countP (fun y => y == (p : Int)) + 2 ∧ ((leasts ms ms.length).countP (labAt ps p) + ps.countP (fun y => y == (p : Int))) % 2 = 0 := by
  have h4 := hf.n4
  let Cs := (List.range n).filter fun c => ps.getD c 0 == (p : Int)
  have hCs : ∀ c, c ∈ Cs ↔ c < n ∧ ps.getD c 0 = (p : Int) := fun c => by simp [Cs, List.mem_filter]
  have nCs : Cs.Nodup := List.Pairwise.filter _ List.nodup_range
  have lCs : ps.countP (fun y => y == (p : Int)) = Cs.length := by rw [countP_range, hp.len, List.countP_eq_length_filter]
  rw [lCs]
  let T := Cs.flatMap four
  have hT : T.Nodup := fours_nodup nCs
  have lT : T.length = 4 * Cs.length := fours_len Cs
  have mT : ∀ h, h ∈ T ↔ h / 4 ∈ Cs := fun h => mem_fours
  have tlt : ∀ x ∈ T, x < ms.length := fun x hx => by have := ((hCs _).1 ((mT x).1 hx)).1; omega
  have mate : ∀ x, x < ms.length → mateN ms x < ms.length ∧ mateN ms (mateN ms x) = x := fun x hx => by
    obtain ⟨m, m1, m2⟩ := hm.get x hx
    have e : mateN ms x = m := by unfold mateN; rw [getD_at m1]; simp
    have e2 := hv x m m1
    have e3 : mateN ms m = x := by unfold mateN; rw [getD_at e2]; simp
    rw [e]; exact ⟨m2, e3⟩
  have stT : ∀ x ∈ T, mateN ms x ∈ T := fun x hx => by
    have hx2 := (hCs _).1 ((mT x).1 hx)
    have hl := tlt x hx
    refine (mT _).2 ((hCs _).2 ⟨by have := (mate x hl).1; omega, ?_⟩)
    rw [← hx2.2]
    exact ((hp.same (x / 4) (mateN ms x / 4) hx2.1 (by have := (mate x hl).1; omega)).2 ⟨1, mateN ms x / 4, ⟨x, hl, rfl, rfl⟩, rfl⟩).symm
  let D := T.filter fun x => decide (x < mateN ms x)
  have hD : ∀ x, x ∈ D ↔ x ∈ T ∧ x < mateN ms x := fun x => by simp [D, List.mem_filter]
  have lD : 2 * D.length = T.length := half hT stT (fun x hx => (mate x (tlt x hx)).2) fun x hx => hfix x (tlt x hx)
  have inD : ∀ x ∈ T, x ∈ D ∨ mateN ms x ∈ D := fun x hx => by
    have h1 := hfix x (tlt x hx)
    by_cases h2 : x < mateN ms x
    · exact .inl ((hD x).2 ⟨hx, h2⟩)
    · exact .inr ((hD _).2 ⟨stT x hx, by rw [(mate x (tlt x hx)).2]; omega⟩)
  let W := Cs.flatMap wC ++ D.map fun h => (h, mateN ms h)
  have lW : W.length = 3 * Cs.length + D.length := by
    show (Cs.flatMap wC ++ D.map fun h => (h, mateN ms h)).length = _
    rw [List.length_append, wCs_len, List.length_map]
  have hW : ∀ w ∈ W, w.1 ∈ T ∧ w.2 ∈ T ∧ w.1 ≠ w.2 := fun w hw => by
    rcases List.mem_append.1 hw with hw | hw
    · obtain ⟨c, hc, hwc⟩ := List.mem_flatMap.1 hw
      unfold wC at hwc
      simp only [List.mem_cons, List.not_mem_nil, or_false] at hwc
      have key : ∀ i, i < 4 → 4 * c + i ∈ T := fun i hi => (mT _).2 (by rw [show (4 * c + i) / 4 = c by omega]; exact hc)
      rcases hwc with rfl | rfl | rfl
      · exact ⟨key 0 (by omega), key 1 (by omega), by simp only; omega⟩
      · exact ⟨key 0 (by omega), key 2 (by omega), by simp only; omega⟩
      · exact ⟨key 0 (by omega), key 3 (by omega), by simp only; omega⟩
    · obtain ⟨h, hh, rfl⟩ := List.mem_map.1 hw
      obtain ⟨h1, h2⟩ := (hD h).1 hh
      exact ⟨h1, stT h h1, by simp only; omega⟩
  obtain ⟨L, S, hL, -⟩ := SW.all hT tlt W (SW.start ms.length T) hW
  obtain ⟨-, Ls, R, -, hle, hpar⟩ := S
  -- the map is that of the faces
  have hfun : ∀ x ∈ T, cmpS (fun x => x) W x = phi ms x := fun x hx => by
    have hl := tlt x hx
    have g1 : ∀ y ∈ T, cmpS (fun x => x) (Cs.flatMap wC) y = turnN y 3 := fun y hy => by
      rw [cmp_turn Cs _ nCs (fun z _ => rfl) y, if_pos ((mT y).1 hy)]
    show cmpS (fun x => x) (Cs.flatMap wC ++ D.map fun h => (h, mateN ms h)) x = _
    rw [cmp_app, cmp_mate ms mate _ D (cmpS (fun x => x) (Cs.flatMap wC)) (List.Pairwise.filter _ hT) (fun h hh => ⟨tlt h ((hD h).1 hh).1, ((hD h).1 hh).2⟩) (fun y _ _ => rfl) x hl, if_pos (inD x hx), g1 _ (stT x hx)]
    rfl
  have R' := R.congr hfun
  have hcnt := R'.count hT (M := (leasts ms ms.length).filter (labAt ps p)) (List.Pairwise.filter _ (List.Pairwise.filter _ List.nodup_range)) fun h => by
    have hl : h ∈ leasts ms ms.length ↔ h < ms.length ∧ Least (phi ms) h := by unfold leasts; simp [List.mem_filter]
    rw [List.mem_filter, hl, mT, hCs]
    unfold labAt
    rw [beq_iff_eq]
    constructor
    · rintro ⟨⟨a, b⟩, c⟩; exact ⟨⟨by omega, c⟩, b⟩
    · rintro ⟨⟨a, c⟩, b⟩; exact ⟨⟨by omega, b⟩, c⟩
  rw [List.countP_eq_length_filter, hcnt]
  -- all hangs together
  obtain ⟨c0, k1, k2⟩ := hp.hit p hpP
  have hc0 : c0 ∈ Cs := (hCs c0).2 ⟨k1, k2⟩
  have slots : ∀ c ∈ Cs, ∀ i, i < 4 → L (4 * c + i) = L (4 * c) := fun c hc i hi => by
    have key : ∀ w ∈ wC c, L w.1 = L w.2 := fun w hw => hL w (List.mem_append_left _ (List.mem_flatMap.2 ⟨c, hc, hw⟩))
    have a1 := key (4 * c, 4 * c + 1) (by simp [wC])
    have a2 := key (4 * c, 4 * c + 2) (by simp [wC])
    have a3 := key (4 * c, 4 * c + 3) (by simp [wC])
    have : i = 0 ∨ i = 1 ∨ i = 2 ∨ i = 3 := by omega
    rcases this with rfl | rfl | rfl | rfl
    · rfl
    · exact a1.symm
    · exact a2.symm
    · exact a3.symm
  have slot : ∀ x ∈ T, L x = L (4 * (x / 4)) := fun x hx => by
    have := slots (x / 4) ((mT x).1 hx) (x % 4) (by omega)
    rwa [show 4 * (x / 4) + x % 4 = x by omega] at this
  have lm : ∀ x ∈ T, L x = L (mateN ms x) := fun x hx => by
    rcases inD x hx with h | h
    · exact hL (x, mateN ms x) (List.mem_append_right _ (List.mem_map.2 ⟨x, h, rfl⟩))
    · have := hL (mateN ms x, mateN ms (mateN ms x)) (List.mem_append_right _ (List.mem_map.2 ⟨_, h, rfl⟩))
      simp only [(mate x (tlt x hx)).2] at this
      exact this.symm
  have reach : ∀ q c d, c ∈ Cs → Reach ms q c d → L (4 * c) = L (4 * d) := by
    intro q
    induction q with
    | zero => intro c d hc h; cases h; rfl
    | succ q ih =>
      intro c d hc h
      obtain ⟨e, ⟨x, x1, x2, x3⟩, hr⟩ := h
      have hx : x ∈ T := (mT x).2 (by rw [x2]; exact hc)
      have he : e ∈ Cs := by rw [← x3]; exact (mT _).1 (stT x hx)
      have a1 := slot x hx
      have a2 := slot _ (stT x hx)
      rw [x2] at a1
      rw [x3] at a2
      rw [← a1, lm x hx, a2]
      exact ih e d he hr
  have hconn := cls_conn hT tlt (t := 4 * c0) ((mT _).2 (by rw [show 4 * c0 / 4 = c0 by omega]; exact hc0)) (L := L) fun u hu => by
    obtain ⟨u1, u2⟩ := (hCs _).1 ((mT u).1 hu)
    obtain ⟨q, hq⟩ := (hp.same c0 (u / 4) k1 u1).1 (by rw [k2, u2])
    rw [slot u hu, reach q c0 (u / 4) hc0 hq]
  omega
/-! ### Sums over the parts -/
def sumP (f : Nat → Nat) : Nat → Nat
  | 0 => 0
  | n + 1 => sumP f n + f n
theorem sumP_add (f g : Nat → Nat) : ∀ n, sumP (fun p => f p + g p) n = sumP f n + sumP g n
  | 0 => rfl
  | n + 1 => by simp only [sumP, sumP_add f g n]; omega
theorem sumP_one (k : Nat) : ∀ n, sumP (fun p => if p = k then 1 else 0) n = if k < n then 1 else 0
  | 0 => rfl
  | n + 1 => by
    simp only [sumP, sumP_one k n]
    by_cases h : n = k
    · subst h; rw [if_neg (by omega), if_pos rfl, if_pos (by omega)]
    · rw [if_neg h]
      by_cases h2 : k < n
      · rw [if_pos h2, if_pos (by omega)]
      · rw [if_neg h2, if_neg (by omega)]
theorem sumP_congr {f g : Nat → Nat} : ∀ {n : Nat}, (∀ p, p < n → f p = g p) → sumP f n = sumP g n
  | 0, _ => rfl
  | n + 1, h => by simp only [sumP]; rw [sumP_congr fun p hp => h p (by omega), h n (by omega)]
theorem sumP_zero : ∀ n, sumP (fun _ => 0) n = 0
  | 0 => rfl
  | n + 1 => by simp [sumP, sumP_zero n]
theorem count_sum {α : Type} {P : Nat} (key : α → Int) : ∀ (l : List α), (∀ x ∈ l, ∃ p : Nat, key x = (p : Int) ∧ p < P) → l.length = sumP (fun p => l.countP fun x => key x == (p : Int)) P
  | [], _ => by simp [sumP_zero]
  | x :: l, h => by
    obtain ⟨k, k1, k2⟩ := h x (by simp)
    have ih := count_sum key l fun y hy => h y (by simp [hy])
    rw [List.length_cons, ih]
    have e : ∀ p, p < P → (x :: l).countP (fun y => key y == (p : Int)) = l.countP (fun y => key y == (p : Int)) + if p = k then 1 else 0 := fun p _ => by
      rw [List.countP_cons]
      congr 1
      by_cases hpk : p = k
      · subst hpk; rw [if_pos (by simp [k1]), if_pos rfl]
      · rw [if_neg (by rw [k1, beq_iff_eq]; omega), if_neg hpk]
    rw [sumP_congr e, sumP_add, sumP_one, if_pos k2]
theorem genus_sum {ms ps : List Int} {n P : Nat} (hm : Mates ms) (hv : Inv ms) (hf : Fits ms n) (hfix : ∀ x, x < ms.length → mateN ms x ≠ x) (hp : Parts ms n ps P) : ∀ K, K ≤ P →
    sumP (fun p => (leasts ms ms.length).countP (labAt ps p)) K ≤ 2 * K + sumP (fun p => ps.countP fun y => y == (p : Int)) K ∧ (sumP (fun p => (leasts ms ms.length).countP (labAt ps p)) K + sumP (fun p => ps.countP fun y => y == (p : Int)) K) % 2 = 0 ∧
    (sumP (fun p => (leasts ms ms.length).countP (labAt ps p)) K = 2 * K + sumP (fun p => ps.countP fun y => y == (p : Int)) K → ∀ p, p < K → (leasts ms ms.length).countP (labAt ps p) = ps.countP (fun y => y == (p : Int)) + 2)
  | 0, _ => ⟨Nat.zero_le _, rfl, fun _ p hp => absurd hp (Nat.not_lt_zero _)⟩
  | K + 1, hK => by
    obtain ⟨a, b, c⟩ := genus_sum hm hv hf hfix hp K (by omega)
    obtain ⟨d, e⟩ := part_euler hm hv hf hfix hp K hK
    simp only [sumP]
    refine ⟨by omega, by omega, fun h p hpk => ?_⟩
    by_cases h2 : p = K
    · subst h2; omega
    · exact c (by omega) p (by omega)
/-- The genus is not negative, and 0 only if the diagram is plane. -/
theorem genus_ok {ms ps : List Int} {n P : Nat} (hm : Mates ms) (hv : Inv ms) (hf : Fits ms n) (hfix : ∀ x, x < ms.length → mateN ms x ≠ x) (hp : Parts ms n ps P) :
    0 ≤ (2 * (P : Int) + n - (leasts ms ms.length).length).tdiv 2 ∧ ((2 * (P : Int) + n - (leasts ms ms.length).length).tdiv 2 = 0 → 2 * (P : Int) + n - (leasts ms ms.length).length = 0 ∧ Sph ms n) := by
  have h4 := hf.n4
  obtain ⟨a, b, c⟩ := genus_sum hm hv hf hfix hp P (Nat.le_refl _)
  have e1 : ps.length = sumP (fun p => ps.countP fun y => y == (p : Int)) P := by
    have := count_sum (P := P) (fun y : Int => y) ps fun x hx => by
      obtain ⟨i, hi⟩ := List.getElem?_of_mem hx
      have hil := (List.getElem?_eq_some_iff.1 hi).1
      obtain ⟨p, p1, p2⟩ := hp.rng i (by rw [← hp.len]; exact hil)
      rw [getD_at hi] at p1
      exact ⟨p, p1, p2⟩
    exact this
  have e2 : (leasts ms ms.length).length = sumP (fun p => (leasts ms ms.length).countP (labAt ps p)) P := by
    have := count_sum (P := P) (fun h : Nat => ps.getD (h / 4) 0) (leasts ms ms.length) fun x hx => by
      unfold leasts at hx
      have := List.mem_range.1 (List.mem_filter.1 hx).1
      exact hp.rng (x / 4) (by omega)
    exact this
  rw [hp.len] at e1
  rw [← e1, ← e2] at a b c
  have ha : 0 ≤ 2 * (P : Int) + n - (leasts ms ms.length).length := by omega
  rw [Int.tdiv_eq_ediv_of_nonneg ha]
  refine ⟨by omega, fun h => ⟨by omega, (parts_sph hm hv hf hp).1 fun p hpP => ?_⟩⟩
  have := c (by omega) p hpP
  omega
end Go.Proofs.YtleoalcbgpjieaaDoor
