/- A bound on the coefficients of an exact quotient, by interpolation at ten small numbers. Plain. -/
import Derived.Test.YtlnjddjobbhcaaaDoorLP1
import Derived.Test.YtlnjddjobbhcaaaDoorEX9
import Derived.Test.YtlnjddjobbhcaaaDoorLP3
namespace Go.Proofs.YtlnjddjobbhcaaaDoor
set_option linter.unusedVariables false
/-- The value. -/
def ev : List Int → Int → Int
  | [], _ => 0
  | c :: r, t => c + t * ev r t
/-- The values of the tails: the quotient by X - a. -/
def qt (a : Int) : List Int → List Int
  | [] => []
  | d :: r => ev (d :: r) a :: qt a r
theorem qt_len (a : Int) : ∀ l, (qt a l).length = l.length
  | [] => rfl
  | d :: r => by simp only [qt, List.length_cons, qt_len a r]
theorem ev_qt (a t : Int) : ∀ (c : Int) (l : List Int), ev (c :: l) t - ev (c :: l) a = (t - a) * ev (qt a l) t
  | c, [] => by simp [ev, qt]
  | c, d :: r => by
    have ih := ev_qt a t d r
    show c + t * ev (d :: r) t - (c + a * ev (d :: r) a) = (t - a) * (ev (d :: r) a + t * ev (qt a r) t)
    rw [Int.mul_add, show (t - a) * (t * ev (qt a r) t) = t * ((t - a) * ev (qt a r) t) by rw [← Int.mul_assoc, ← Int.mul_assoc, Int.mul_comm t (t - a)], ← ih, Int.mul_sub, Int.sub_mul]
    omega
theorem natAbs_mul_le {a b : Int} {A B : Nat} (h1 : a.natAbs ≤ A) (h2 : b.natAbs ≤ B) : (a * b).natAbs ≤ A * B := by
  rw [Int.natAbs_mul]; exact Nat.mul_le_mul h1 h2
theorem qt_coef (a : Int) (M : Nat) : ∀ (l : List Int), (∀ c ∈ qt a l, c.natAbs ≤ M) → (ev l a).natAbs ≤ M ∧ ∀ c ∈ l, c.natAbs ≤ (1 + a.natAbs) * M
  | [], h => ⟨by simp [ev], by simp⟩
  | d :: r, h => by
    have h0 := h _ (.head _)
    have ih := qt_coef a M r fun c hc => h c (.tail _ hc)
    refine ⟨h0, fun c hc => ?_⟩
    rcases List.mem_cons.1 hc with rfl | hc
    · have h1 : (a * ev r a).natAbs ≤ a.natAbs * M := natAbs_mul_le (Nat.le_refl _) ih.1
      have h2 : (c + a * ev r a).natAbs ≤ M := h0
      rw [Nat.add_mul, Nat.one_mul]
      omega
    · exact ih.2 c hc
def dn (a : Int) (B : Nat) (u : Int × Nat) : Int × Nat := (u.1, (u.2 + B) / (u.1 - a).natAbs)
def bdN : Nat → List (Int × Nat) → Nat
  | 0, _ => 0
  | _, [] => 0
  | n + 1, (a, B) :: T => (1 + a.natAbs) * bdN n (T.map (dn a B)) + B
theorem coef_bd : ∀ (n : Nat) (T : List (Int × Nat)) (s : List Int), s.length ≤ n → n ≤ T.length → (∀ u ∈ T, (ev s u.1).natAbs ≤ u.2) → (T.map (·.1)).Nodup → ∀ c ∈ s, c.natAbs ≤ bdN n T
  | 0, T, s, h1, h2, h3, h4, c, hc => by
    have : s = [] := List.eq_nil_of_length_eq_zero (by omega)
    subst this; cases hc
  | n + 1, [], s, h1, h2, h3, h4, c, hc => by simp at h2
  | n + 1, (a, B) :: T, [], h1, h2, h3, h4, c, hc => by cases hc
  | n + 1, (a, B) :: T, c0 :: l, h1, h2, h3, h4, c, hc => by
    have hB : (ev (c0 :: l) a).natAbs ≤ B := h3 _ (.head _)
    have h4' := List.nodup_cons.1 h4
    have ih := coef_bd n (T.map (dn a B)) (qt a l) (by rw [qt_len]; simp at h1; omega) (by simp at h2 ⊢; omega) (fun u hu => by
      obtain ⟨v, hv, rfl⟩ := List.mem_map.1 hu
      have e := ev_qt a v.1 c0 l
      have hv' := h3 v (.tail _ hv)
      have hne : v.1 - a ≠ 0 := fun e0 => h4'.1 (List.mem_map.2 ⟨v, hv, by simp only; omega⟩)
      show (ev (qt a l) v.1).natAbs ≤ (v.2 + B) / (v.1 - a).natAbs
      rw [Nat.le_div_iff_mul_le (by omega), Nat.mul_comm, ← Int.natAbs_mul, ← e]
      omega) (by rw [List.map_map]; exact h4'.2)
    obtain ⟨k1, k2⟩ := qt_coef a _ l ih
    show c.natAbs ≤ (1 + a.natAbs) * bdN n (T.map (dn a B)) + B
    rcases List.mem_cons.1 hc with rfl | hc
    · have e : ev (c :: l) a = c + a * ev l a := rfl
      have h5 : (a * ev l a).natAbs ≤ a.natAbs * bdN n (T.map (dn a B)) := natAbs_mul_le (Nat.le_refl _) k1
      rw [Nat.add_mul, Nat.one_mul]
      omega
    · exact Nat.le_trans (k2 c hc) (by omega)
/-- A polynomial that is not zero has fewer roots than coefficients. -/
theorem roots : ∀ (n : Nat) (y : List Int), y.length = n → (∃ c ∈ y, c ≠ 0) → ∀ N : List Int, N.Nodup → N.countP (fun x => ev y x == 0) < n
  | 0, y, h, ⟨c, hc, _⟩, N, hN => by
    have : y = [] := List.eq_nil_of_length_eq_zero h
    subst this; cases hc
  | n + 1, [], h, ⟨c, hc, _⟩, N, hN => by cases hc
  | n + 1, c0 :: l, h, hne, N, hN => by
    induction N with
    | nil => simp
    | cons a N ih =>
      have hN' := List.nodup_cons.1 hN
      rw [List.countP_cons]
      by_cases h0 : ev (c0 :: l) a = 0
      · have hq : ∃ c ∈ qt a l, c ≠ 0 := Classical.byContradiction fun hno => by
          have hz : ∀ c ∈ qt a l, c.natAbs ≤ 0 := fun c hc => by
            have : ¬ c ≠ 0 := fun h => hno ⟨c, hc, h⟩
            omega
          obtain ⟨k1, k2⟩ := qt_coef a 0 l hz
          have e : ev (c0 :: l) a = c0 + a * ev l a := rfl
          have e1 : ev l a = 0 := by omega
          rw [e1, Int.mul_zero] at e
          obtain ⟨c, hc, hcn⟩ := hne
          rcases List.mem_cons.1 hc with rfl | hc
          · omega
          · have := k2 c hc
            simp at this
            exact hcn this
        have h1 := roots n (qt a l) (by rw [qt_len]; simpa using h) hq N hN'.2
        have h2 : N.countP (fun x => ev (c0 :: l) x == 0) ≤ N.countP (fun x => ev (qt a l) x == 0) := List.countP_mono_left fun x hx hz => by
          have e := ev_qt a x c0 l
          simp only [beq_iff_eq] at hz ⊢
          rw [hz, h0] at e
          have hxa : x - a ≠ 0 := fun e0 => hN'.1 (by rwa [show a = x by omega])
          rcases Int.mul_eq_zero.1 e.symm with e1 | e1
          · omega
          · exact e1
        split <;> omega
      · rw [if_neg (by simpa using h0)]
        exact ih hN'.2
def subs {α : Type} : List α → List (List α)
  | [] => [[]]
  | x :: r => subs r ++ (subs r).map (x :: ·)
theorem filter_subs {α : Type} (p : α → Bool) : ∀ l : List α, l.filter p ∈ subs l
  | [] => .head _
  | x :: r => by
    have ih := filter_subs p r
    simp only [List.filter, subs]
    split
    · exact List.mem_append_right _ (List.mem_map.2 ⟨_, ih, rfl⟩)
    · exact List.mem_append_left _ ih
def pw (a : Nat) : Nat → Nat
  | 0 => 0
  | n + 1 => 1000 + a * pw a n
def nds : List (Int × Nat) := [1, -1, 2, -2, 3, -3, 4, -4, 5, -5].map fun x : Int => (x, pw x.natAbs 10)
theorem bd_all : ∀ T ∈ subs nds, bdN T.length T ≤ 100000000000 := by
  have : (subs nds).all (fun T => decide (bdN T.length T ≤ 100000000000)) = true := by decide +kernel
  intro T hT
  exact of_decide_eq_true (List.all_eq_true.1 this T hT)
theorem ev_bd (x : Int) : ∀ (n : Nat) (p : List Int), p.length ≤ n → (∀ c ∈ p, c.natAbs ≤ 1000) → (ev p x).natAbs ≤ pw x.natAbs n
  | 0, p, h, hc => by
    have : p = [] := List.eq_nil_of_length_eq_zero (by omega)
    subst this; simp [ev]
  | n + 1, [], h, hc => by simp [ev]
  | n + 1, c :: r, h, hc => by
    have ih := ev_bd x n r (by simpa using h) fun d hd => hc d (.tail _ hd)
    have h1 := hc c (.head _)
    have h2 : (x * ev r x).natAbs ≤ x.natAbs * pw x.natAbs n := natAbs_mul_le (Nat.le_refl _) ih
    show (c + x * ev r x).natAbs ≤ 1000 + x.natAbs * pw x.natAbs n
    omega
/-- The coefficients of a quotient. -/
theorem quot_bd {p y s : List Int} (hp : p.length ≤ 10) (hc : ∀ c ∈ p, c.natAbs ≤ 1000) (hy : ∃ c ∈ y, c ≠ 0) (hl : s.length + y.length ≤ 11) (h : ∀ t, ev s t * ev y t = ev p t) : ∀ c ∈ s, c.natAbs ≤ 100000000000 := by
  intro c hs
  have hr := roots y.length y rfl hy (nds.map (·.1)) (by decide)
  have e1 := List.length_eq_countP_add_countP (fun u : Int × Nat => !(ev y u.1 == 0)) (l := nds)
  rw [List.countP_map] at hr
  have e2 : nds.countP (fun u => decide ¬ ((!(ev y u.1 == 0)) = true)) = nds.countP ((fun x => ev y x == 0) ∘ (·.1)) := List.countP_congr fun u _ => by simp
  have e3 : nds.length = 10 := rfl
  have e4 : (nds.filter (fun u : Int × Nat => !(ev y u.1 == 0))).length = nds.countP (fun u : Int × Nat => !(ev y u.1 == 0)) := List.countP_eq_length_filter.symm
  refine Nat.le_trans (coef_bd _ (nds.filter fun u => !(ev y u.1 == 0)) s ?_ (Nat.le_refl _) (fun u hu => ?_) ?_ c hs) (bd_all _ (filter_subs _ _))
  · omega
  · obtain ⟨h1, h2⟩ := List.mem_filter.1 hu
    obtain ⟨x, -, rfl⟩ := List.mem_map.1 h1
    have h3 := ev_bd x 10 p hp hc
    rw [← h, Int.natAbs_mul] at h3
    have h4 : ev y x ≠ 0 := by simpa using h2
    have h5 : 1 ≤ (ev y x).natAbs := by omega
    exact Nat.le_trans (Nat.le_mul_of_pos_right _ h5) h3
  · exact List.Nodup.sublist ((List.filter_sublist).map _) (by decide)
end Go.Proofs.YtlnjddjobbhcaaaDoor


namespace Go.Proofs.YtlnjddjobbhcaaaDoor
set_option linter.unusedVariables false
theorem S_putM (g : Int → Int) (e v : Int) : ∀ M : List Tm, S g (putM e v M) = S g M + v * g e
  | [] => by simp [putM, S]
  | u :: r => by
    unfold putM
    split
    · simp only [S]; rw [S_putM g e v r]; omega
    split
    · rename_i h1 h2
      simp only [S]
      rw [h2, Int.add_mul]; omega
    · simp only [S]; omega
theorem S_putAll (g : Int → Int) : ∀ (L M : List Tm), S g (putAll L M) = S g M + S g L
  | [], M => by simp [putAll, S]
  | t :: L, M => by
    show S g (putAll L (putM t.1 t.2 M)) = _
    rw [S_putAll g L, S_putM]
    simp only [S]; omega
theorem S_mt (g : Int → Int) (a : Tm) : ∀ Q : List Tm, S g (Q.map (mt a)) = a.2 * S (fun b => g (a.1 + b)) Q
  | [] => by simp [S]
  | b :: Q => by
    simp only [List.map_cons, S, mt]
    rw [S_mt g a Q, Int.mul_add, Int.mul_assoc]
theorem S_mulAll (g : Int → Int) (Q : List Tm) : ∀ (P M : List Tm), S g (mulAll P Q M) = S g M + S2 g P Q
  | [], M => by simp [mulAll, S2, S]
  | a :: P, M => by
    show S g (mulAll P Q (putAll (Q.map (mt a)) M)) = _
    rw [S_mulAll g Q P, S_putAll, S_mt]
    simp only [S2, S]; omega
theorem S_nz (g : Int → Int) : ∀ M : List Tm, S g (M.filter nzT) = S g M
  | [] => rfl
  | u :: r => by
    rw [List.filter_cons]
    split
    · simp only [S]; rw [S_nz g r]
    · rename_i h
      have : u.2 = 0 := by simpa [nzT] using h
      simp only [S]; rw [S_nz g r, this]; omega
def Asc (l : List Tm) : Prop := l.Pairwise fun a b => a.1 < b.1
theorem putM_mem {e v : Int} : ∀ {M : List Tm} {u : Tm}, u ∈ putM e v M → u.1 = e ∨ ∃ w ∈ M, w.1 = u.1
  | [], u, h => by simp [putM] at h; subst h; exact .inl rfl
  | a :: r, u, h => by
    unfold putM at h
    split at h
    · rcases List.mem_cons.1 h with rfl | h
      · exact .inr ⟨_, .head _, rfl⟩
      · rcases putM_mem h with h | ⟨w, hw, e⟩
        · exact .inl h
        · exact .inr ⟨w, .tail _ hw, e⟩
    split at h
    · rcases List.mem_cons.1 h with rfl | h
      · exact .inl rfl
      · exact .inr ⟨u, .tail _ h, rfl⟩
    · rcases List.mem_cons.1 h with rfl | h
      · exact .inl rfl
      · exact .inr ⟨u, h, rfl⟩
theorem putM_asc {e v : Int} : ∀ {M : List Tm}, Asc M → Asc (putM e v M)
  | [], h => by simp [putM, Asc]
  | a :: r, h => by
    have h' := List.pairwise_cons.1 h
    unfold putM
    split
    · rename_i h1
      refine List.pairwise_cons.2 ⟨fun u hu => ?_, putM_asc h'.2⟩
      rcases putM_mem hu with h2 | ⟨w, hw, e2⟩
      · omega
      · have := h'.1 w hw; omega
    split
    · rename_i h1 h2
      exact List.pairwise_cons.2 ⟨fun u hu => by have := h'.1 u hu; simp only; omega, h'.2⟩
    · rename_i h1 h2
      refine List.pairwise_cons.2 ⟨fun u hu => ?_, h⟩
      rcases List.mem_cons.1 hu with rfl | hu
      · simp only; omega
      · have := h'.1 u hu; simp only; omega
theorem putAll_asc : ∀ {L M : List Tm}, Asc M → Asc (putAll L M)
  | [], M, h => h
  | t :: L, M, h => putAll_asc (L := L) (putM_asc h)
theorem mulAll_asc {Q : List Tm} : ∀ {P M : List Tm}, Asc M → Asc (mulAll P Q M)
  | [], M, h => h
  | a :: P, M, h => mulAll_asc (P := P) (putAll_asc h)
theorem Asc.can {M : List Tm} (h : Asc M) : Can (M.filter nzT) := ⟨List.Pairwise.filter _ h, fun t ht => by simpa [nzT] using (List.mem_filter.1 ht).2⟩
/-- The reference's polynomial of sums: it is big, or it says what the sums say. -/
theorem colP_spec {M : List Tm} (h : Asc M) : colP M = bigP ∨ (colP M).big = false ∧ Pok (colP M) ∧ (∀ g, S g (colP M).ts = S g M) := by
  unfold colP
  split
  · rename_i ha
    refine .inr ⟨rfl, ⟨by simp, h.can, fun t ht => ?_, fun t ht => ?_⟩, fun g => S_nz g M⟩
    · have h2 := List.mem_filter.1 ht
      exact (ha t h2.1 (by simpa [nzT] using h2.2)).1
    · have h2 := List.mem_filter.1 ht
      exact (ha t h2.1 (by simpa [nzT] using h2.2)).2
  · exact .inl rfl
end Go.Proofs.YtlnjddjobbhcaaaDoor


namespace Go.Proofs.YtlnjddjobbhcaaaDoor
set_option linter.unusedVariables false
def dense (l : List Tm) : Nat → Int → List Int
  | 0, _ => []
  | n + 1, lo => cf l lo :: dense l n (lo + 1)
theorem dense_len (l : List Tm) : ∀ n lo, (dense l n lo).length = n
  | 0, _ => rfl
  | n + 1, lo => by simp [dense, dense_len l n]
theorem dense_mem {l : List Tm} : ∀ {n : Nat} {lo c : Int}, c ∈ dense l n lo → ∃ e, c = cf l e
  | n + 1, lo, c, h => by
    rcases List.mem_cons.1 h with rfl | h
    · exact ⟨_, rfl⟩
    · exact dense_mem h
theorem mem_dense {l : List Tm} : ∀ {n : Nat} {lo e : Int}, lo ≤ e → e < lo + n → cf l e ∈ dense l n lo
  | 0, lo, e, h1, h2 => by omega
  | n + 1, lo, e, h1, h2 => by
    by_cases h : e = lo
    · subst h; exact .head _
    · exact .tail _ (mem_dense (by omega) (by omega))
def pwF (t lo e : Int) : Int := if lo ≤ e then t ^ (e - lo).toNat else 0
theorem pwF_step (t lo e : Int) : pwF t lo e = dl lo e + t * pwF t (lo + 1) e := by
  unfold pwF dl
  by_cases h : e = lo
  · subst h
    rw [if_pos (Int.le_refl _), if_pos rfl, if_neg (by omega), show (e - e).toNat = 0 by omega]
    simp
  · rw [if_neg h]
    by_cases h2 : lo + 1 ≤ e
    · rw [if_pos h2, if_pos (by omega), show (e - lo).toNat = (e - (lo + 1)).toNat + 1 by omega, Int.pow_succ, Int.mul_comm t]; omega
    · rw [if_neg h2, if_neg (by omega)]; simp
theorem ev_dense (t : Int) (l : List Tm) : ∀ (n : Nat) (lo : Int), (∀ u ∈ l, u.1 < lo + n) → ev (dense l n lo) t = S (pwF t lo) l
  | 0, lo, h => by
    rw [S_congr (g := fun _ => 0) fun u hu => by unfold pwF; rw [if_neg]; have := h u hu; omega, S_zero]
    rfl
  | n + 1, lo, h => by
    have ih := ev_dense t l n (lo + 1) fun u hu => by have := h u hu; omega
    show cf l lo + t * ev (dense l n (lo + 1)) t = _
    rw [ih, show S (pwF t lo) l = S (fun x => dl lo x + t * pwF t (lo + 1) x) l from S_congr fun u hu => pwF_step t lo u.1, S_add, S_mul]
    rfl
theorem pwF_mul {t la lb a b : Int} (ha : la ≤ a) (hb : lb ≤ b) : pwF t (la + lb) (a + b) = pwF t la a * pwF t lb b := by
  unfold pwF
  rw [if_pos ha, if_pos hb, if_pos (by omega), ← Int.pow_add, show (a + b - (la + lb)).toNat = (a - la).toNat + (b - lb).toNat by omega]
theorem S_mulr (f : Int → Int) (c : Int) (l : List Tm) : S (fun x => f x * c) l = S f l * c := by
  rw [Int.mul_comm, ← S_mul]
  exact S_congr fun t _ => Int.mul_comm _ _
theorem S2_pw {t la lb : Int} {p q : List Tm} (hp : ∀ u ∈ p, la ≤ u.1) (hq : ∀ u ∈ q, lb ≤ u.1) : S2 (pwF t (la + lb)) p q = S (pwF t la) p * S (pwF t lb) q := by
  unfold S2
  rw [← S_mulr]
  refine S_congr fun a ha => ?_
  rw [← S_mul]
  exact S_congr fun b hb => pwF_mul (hp a ha) (hq b hb)
/-- The coefficients of an exact quotient of terms. -/
theorem quot_cf {p y s : List Tm} {la lb : Int} {m k : Nat} (hm : ∀ g, S g p = S2 g s y) (hs : ∀ u ∈ s, la ≤ u.1 ∧ u.1 < la + m) (hy : ∀ u ∈ y, lb ≤ u.1 ∧ u.1 < lb + k) (hp : ∀ u ∈ p, u.1 < la + lb + 10) (hmk : m + k ≤ 11)
    (hpc : ∀ e, (cf p e).natAbs ≤ 1000) (hy0 : ∃ e, lb ≤ e ∧ e < lb + k ∧ cf y e ≠ 0) : ∀ e, la ≤ e → e < la + m → (cf s e).natAbs ≤ 100000000000 := by
  intro e h1 h2
  refine quot_bd (p := dense p 10 (la + lb)) (y := dense y k lb) (s := dense s m la) (by rw [dense_len]; omega) (fun c hc => ?_) ?_ (by rw [dense_len, dense_len]; exact hmk) (fun t => ?_) _ (mem_dense h1 h2)
  · obtain ⟨e, rfl⟩ := dense_mem hc
    exact hpc e
  · obtain ⟨e, a, b, c⟩ := hy0
    exact ⟨_, mem_dense a b, c⟩
  · rw [ev_dense t s m la fun u hu => (hs u hu).2, ev_dense t y k lb fun u hu => (hy u hu).2, ev_dense t p 10 (la + lb) hp, hm, S2_pw (fun u hu => (hs u hu).1) fun u hu => (hy u hu).1]
end Go.Proofs.YtlnjddjobbhcaaaDoor


