/- Laurent polynomials as lists of terms: plain. -/
import Derived.Test.YtofknpknogfijaaGreatDoorAb2
namespace Go.Proofs.YtofknpknogfijaaGreatDoor
set_option linter.unusedVariables false

/-- A term: its exponent, and its coefficient. -/
abbrev Tm := Int × Int
/-- The sum of the coefficients times what f says of the exponents. -/
def S (f : Int → Int) : List Tm → Int
  | [] => 0
  | t :: r => t.2 * f t.1 + S f r
theorem S_app (f : Int → Int) : ∀ a b, S f (a ++ b) = S f a + S f b
  | [], b => by simp [S]
  | t :: a, b => by simp [S, S_app f a b, Int.add_assoc]
theorem S_congr {f g : Int → Int} : ∀ {l : List Tm}, (∀ t ∈ l, f t.1 = g t.1) → S f l = S g l
  | [], _ => rfl
  | t :: r, h => by
    simp only [S]
    rw [h t (.head _), S_congr fun u hu => h u (.tail _ hu)]
theorem S_zero : ∀ l, S (fun _ => 0) l = 0
  | [] => rfl
  | t :: r => by simp [S, S_zero r]
/-- One at e, else nothing. -/
def dl (e x : Int) : Int := if x = e then 1 else 0
theorem dl_self (e : Int) : dl e e = 1 := if_pos rfl
theorem dl_ne {e x : Int} (h : x ≠ e) : dl e x = 0 := if_neg h
/-- The coefficient of e. -/
def cf (l : List Tm) (e : Int) : Int := S (dl e) l
theorem cf_none {l : List Tm} {e : Int} (h : ∀ t ∈ l, t.1 ≠ e) : cf l e = 0 := by
  unfold cf
  rw [S_congr (g := fun _ => 0) fun t ht => dl_ne (h t ht), S_zero]
theorem cf_cons (t : Tm) (r : List Tm) (e : Int) : cf (t :: r) e = t.2 * dl e t.1 + cf r e := rfl
theorem cf_app (a b : List Tm) (e : Int) : cf (a ++ b) e = cf a e + cf b e := S_app _ _ _
/-- Rising exponents, and no coefficient 0. -/
structure Can (l : List Tm) : Prop where
  asc : l.Pairwise fun a b => a.1 < b.1
  nz : ∀ t ∈ l, t.2 ≠ 0
theorem Can.nil : Can [] := ⟨.nil, by simp⟩
theorem Can.tail {t : Tm} {r : List Tm} (h : Can (t :: r)) : Can r := ⟨(List.pairwise_cons.1 h.asc).2, fun u hu => h.nz u (.tail _ hu)⟩
theorem Can.lt {t : Tm} {r : List Tm} (h : Can (t :: r)) : ∀ u ∈ r, t.1 < u.1 := (List.pairwise_cons.1 h.asc).1
theorem Can.cons {t : Tm} {r : List Tm} (h : Can r) (h0 : t.2 ≠ 0) (hl : ∀ u ∈ r, t.1 < u.1) : Can (t :: r) :=
  ⟨List.pairwise_cons.2 ⟨hl, h.asc⟩, fun u hu => (List.mem_cons.1 hu).elim (fun e => by rw [e]; exact h0) (h.nz u)⟩
theorem Can.cf_head {t : Tm} {r : List Tm} (h : Can (t :: r)) : cf (t :: r) t.1 = t.2 := by
  rw [cf_cons, dl_self, cf_none fun u hu => by have := h.lt u hu; omega]; omega
theorem Can.cf_low {t : Tm} {r : List Tm} (h : Can (t :: r)) {e : Int} (he : e < t.1) : cf (t :: r) e = 0 := by
  refine cf_none fun u hu => ?_
  rcases List.mem_cons.1 hu with rfl | hu
  · omega
  · have := h.lt u hu; omega
/-- The coefficients tell the polynomial. -/
theorem Can.ext : ∀ {p q : List Tm}, Can p → Can q → (∀ e, cf p e = cf q e) → p = q
  | [], [], _, _, _ => rfl
  | [], u :: q, _, hq, h => by
    have := h u.1
    rw [hq.cf_head] at this
    exact absurd this.symm (hq.nz u (.head _))
  | t :: p, [], hp, _, h => by
    have := h t.1
    rw [hp.cf_head] at this
    exact absurd this (hp.nz t (.head _))
  | t :: p, u :: q, hp, hq, h => by
    have h1 : t.1 = u.1 := by
      rcases Int.lt_trichotomy t.1 u.1 with hlt | he | hgt
      · have := h t.1
        rw [hp.cf_head, hq.cf_low hlt] at this
        exact absurd this (hp.nz t (.head _))
      · exact he
      · have := h u.1
        rw [hq.cf_head, hp.cf_low hgt] at this
        exact absurd this.symm (hq.nz u (.head _))
    have h2 : t.2 = u.2 := by
      have := h t.1
      rw [hp.cf_head, h1, hq.cf_head] at this
      exact this
    have h3 : t = u := Prod.ext h1 h2
    subst h3
    rw [Can.ext hp.tail hq.tail fun e => by have := h e; rw [cf_cons, cf_cons] at this; omega]
/-- A coefficient, if there is one. -/
def put (e c : Int) : List Tm := if c = 0 then [] else [(e, c)]
theorem S_put (f : Int → Int) (e c : Int) : S f (put e c) = c * f e := by
  unfold put
  split
  · rename_i h; simp [S, h]
  · simp [S]
theorem put_mem {e c : Int} {t : Tm} (h : t ∈ put e c) : t = (e, c) ∧ c ≠ 0 := by
  unfold put at h
  split at h
  · simp at h
  · rename_i hc; exact ⟨by simpa using h, hc⟩
theorem put_can {e c : Int} {r : List Tm} (hr : Can r) (hl : ∀ u ∈ r, e < u.1) : Can (put e c ++ r) := by
  unfold put
  split
  · simpa using hr
  · rename_i hc; exact hr.cons hc hl
/-- Two lists of terms, merged. -/
def mrg (f : Int → Int → Int) : List Tm → List Tm → List Tm
  | [], [] => []
  | t :: p, [] => put t.1 (f t.2 0) ++ mrg f p []
  | [], u :: q => put u.1 (f 0 u.2) ++ mrg f [] q
  | t :: p, u :: q => if t.1 < u.1 then put t.1 (f t.2 0) ++ mrg f p (u :: q) else if u.1 < t.1 then put u.1 (f 0 u.2) ++ mrg f (t :: p) q else put t.1 (f t.2 u.2) ++ mrg f p q
termination_by p q => p.length + q.length
theorem S_mrg {f : Int → Int → Int} {x y : Int} (hf : ∀ a b, f a b = x * a + y * b) (g : Int → Int) : ∀ p q, S g (mrg f p q) = x * S g p + y * S g q
  | [], [] => by rw [mrg]; simp [S]
  | t :: p, [] => by
    rw [mrg, S_app, S_put, S_mrg hf g p [], hf]
    simp only [S, Int.mul_zero, Int.add_zero, Int.mul_add, Int.mul_assoc]
  | [], u :: q => by
    rw [mrg, S_app, S_put, S_mrg hf g [] q, hf]
    simp only [S, Int.mul_zero, Int.zero_add, Int.mul_add, Int.mul_assoc]
  | t :: p, u :: q => by
    rw [mrg]
    split
    · rw [S_app, S_put, S_mrg hf g p (u :: q), hf]
      simp only [S, Int.mul_zero, Int.add_zero, Int.mul_add, Int.mul_assoc]; omega
    · split
      · rw [S_app, S_put, S_mrg hf g (t :: p) q, hf]
        simp only [S, Int.mul_zero, Int.zero_add, Int.mul_add, Int.mul_assoc]; omega
      · have he : t.1 = u.1 := by omega
        rw [S_app, S_put, S_mrg hf g p q, hf]
        simp only [S, Int.mul_add, Int.mul_assoc, Int.add_mul, he]; omega
termination_by p q => p.length + q.length
theorem mrg_mem {f : Int → Int → Int} : ∀ {p q : List Tm} {v : Tm}, v ∈ mrg f p q → (∃ t ∈ p, t.1 = v.1) ∨ ∃ u ∈ q, u.1 = v.1
  | [], [], v, h => by rw [mrg] at h; simp at h
  | t :: p, [], v, h => by
    rw [mrg, List.mem_append] at h
    rcases h with h | h
    · exact .inl ⟨t, .head _, by rw [(put_mem h).1]⟩
    · rcases mrg_mem h with ⟨a, h1, h2⟩ | ⟨a, h1, h2⟩
      · exact .inl ⟨a, .tail _ h1, h2⟩
      · exact .inr ⟨a, h1, h2⟩
  | [], u :: q, v, h => by
    rw [mrg, List.mem_append] at h
    rcases h with h | h
    · exact .inr ⟨u, .head _, by rw [(put_mem h).1]⟩
    · rcases mrg_mem h with ⟨a, h1, h2⟩ | ⟨a, h1, h2⟩
      · exact .inl ⟨a, h1, h2⟩
      · exact .inr ⟨a, .tail _ h1, h2⟩
  | t :: p, u :: q, v, h => by
    rw [mrg] at h
    split at h
    · rw [List.mem_append] at h
      rcases h with h | h
      · exact .inl ⟨t, .head _, by rw [(put_mem h).1]⟩
      · rcases mrg_mem h with ⟨a, h1, h2⟩ | ⟨a, h1, h2⟩
        · exact .inl ⟨a, .tail _ h1, h2⟩
        · exact .inr ⟨a, h1, h2⟩
    · split at h
      · rw [List.mem_append] at h
        rcases h with h | h
        · exact .inr ⟨u, .head _, by rw [(put_mem h).1]⟩
        · rcases mrg_mem h with ⟨a, h1, h2⟩ | ⟨a, h1, h2⟩
          · exact .inl ⟨a, h1, h2⟩
          · exact .inr ⟨a, .tail _ h1, h2⟩
      · rw [List.mem_append] at h
        rcases h with h | h
        · exact .inl ⟨t, .head _, by rw [(put_mem h).1]⟩
        · rcases mrg_mem h with ⟨a, h1, h2⟩ | ⟨a, h1, h2⟩
          · exact .inl ⟨a, .tail _ h1, h2⟩
          · exact .inr ⟨a, .tail _ h1, h2⟩
termination_by p q => p.length + q.length
theorem mrg_can {f : Int → Int → Int} : ∀ {p q : List Tm}, Can p → Can q → Can (mrg f p q)
  | [], [], _, _ => by rw [mrg]; exact .nil
  | t :: p, [], hp, hq => by
    rw [mrg]
    refine put_can (mrg_can hp.tail hq) fun v hv => ?_
    rcases mrg_mem hv with ⟨a, h1, h2⟩ | ⟨a, h1, h2⟩
    · have := hp.lt a h1; omega
    · simp at h1
  | [], u :: q, hp, hq => by
    rw [mrg]
    refine put_can (mrg_can hp hq.tail) fun v hv => ?_
    rcases mrg_mem hv with ⟨a, h1, h2⟩ | ⟨a, h1, h2⟩
    · simp at h1
    · have := hq.lt a h1; omega
  | t :: p, u :: q, hp, hq => by
    rw [mrg]
    split
    · refine put_can (mrg_can hp.tail hq) fun v hv => ?_
      rcases mrg_mem hv with ⟨a, h1, h2⟩ | ⟨a, h1, h2⟩
      · have := hp.lt a h1; omega
      · rcases List.mem_cons.1 h1 with rfl | h1
        · omega
        · have := hq.lt a h1; omega
    · split
      · refine put_can (mrg_can hp hq.tail) fun v hv => ?_
        rcases mrg_mem hv with ⟨a, h1, h2⟩ | ⟨a, h1, h2⟩
        · rcases List.mem_cons.1 h1 with rfl | h1
          · omega
          · have := hp.lt a h1; omega
        · have := hq.lt a h1; omega
      · refine put_can (mrg_can hp.tail hq.tail) fun v hv => ?_
        rcases mrg_mem hv with ⟨a, h1, h2⟩ | ⟨a, h1, h2⟩
        · have := hp.lt a h1; omega
        · have := hq.lt a h1; omega
termination_by p q => p.length + q.length
/-! ### Sums over a range of exponents -/
/-- From lo on, n exponents. -/
def sumR (g : Int → Int) (lo : Int) : Nat → Int
  | 0 => 0
  | n + 1 => sumR g lo n + g (lo + n)
/-- The exponents that have a coefficient, with it. -/
def fromC (g : Int → Int) (lo : Int) (n : Nat) : List Tm := (List.range n).flatMap fun k : Nat => put (lo + (k : Int)) (g (lo + (k : Int)))
end Go.Proofs.YtofknpknogfijaaGreatDoor
