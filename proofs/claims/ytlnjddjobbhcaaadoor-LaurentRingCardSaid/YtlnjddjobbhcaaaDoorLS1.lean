/- Polynomials whose exponents are moved: plain. -/
import Derived.Test.YtlnjddjobbhcaaaDoorC2
import Derived.Test.YtlnjddjobbhcaaaDoorPY
namespace Go.Proofs.YtlnjddjobbhcaaaDoor
open Go.Ab
set_option linter.unusedVariables false
set_option linter.unusedSimpArgs false

theorem S_rev (g : Int → Int) : ∀ l, S g l.reverse = S g l
  | [] => rfl
  | t :: r => by
    rw [List.reverse_cons, S_app, S_rev g r]
    simp only [S]; omega
theorem S_map (g f : Int → Int) : ∀ l : List Tm, S g (l.map fun t => (f t.1, t.2)) = S (fun x => g (f x)) l
  | [] => rfl
  | t :: r => by simp only [List.map_cons, S, S_map g f r]
/-- Every exponent moved. -/
def mvL (f : Int → Int) (up : Bool) (l : List Tm) : List Tm := if up = true then l.map (fun t => (f t.1, t.2)) else (l.map fun t => (f t.1, t.2)).reverse
theorem S_mv (g f : Int → Int) (up : Bool) (l : List Tm) : S g (mvL f up l) = S (fun x => g (f x)) l := by
  unfold mvL
  split
  · exact S_map g f l
  · rw [S_rev]; exact S_map g f l
theorem mv_mem {f : Int → Int} {up : Bool} {l : List Tm} {t : Tm} : t ∈ mvL f up l ↔ ∃ u ∈ l, t = (f u.1, u.2) := by
  unfold mvL
  split
  · rw [List.mem_map]; exact ⟨fun ⟨u, a, b⟩ => ⟨u, a, b.symm⟩, fun ⟨u, a, b⟩ => ⟨u, a, b.symm⟩⟩
  · rw [List.mem_reverse, List.mem_map]; exact ⟨fun ⟨u, a, b⟩ => ⟨u, a, b.symm⟩, fun ⟨u, a, b⟩ => ⟨u, a, b.symm⟩⟩
theorem mv_len (f : Int → Int) (up : Bool) (l : List Tm) : (mvL f up l).length = l.length := by
  unfold mvL
  split <;> simp
theorem mv_nil {f : Int → Int} {up : Bool} {l : List Tm} : mvL f up l = [] ↔ l = [] := by
  rw [← List.length_eq_zero_iff, mv_len, List.length_eq_zero_iff]
/-- The order is kept, or turned round. -/
def Mvf (f : Int → Int) (up : Bool) : Prop := ∀ a b, a < b → if up = true then f a < f b else f b < f a
theorem Mvf.inj {f : Int → Int} {up : Bool} (m : Mvf f up) {a b : Int} (h : f a = f b) : a = b := by
  rcases Int.lt_trichotomy a b with h1 | h1 | h1
  · have := m a b h1
    cases up <;> simp at this <;> omega
  · exact h1
  · have := m b a h1
    cases up <;> simp at this <;> omega
theorem mv_can {f : Int → Int} {up : Bool} (m : Mvf f up) {l : List Tm} (h : Can l) : Can (mvL f up l) := by
  refine ⟨?_, fun t ht => ?_⟩
  · unfold mvL
    cases up with
    | true =>
      rw [if_pos rfl]
      exact List.pairwise_map.2 (h.asc.imp fun ab => by simpa using m _ _ ab)
    | false =>
      rw [if_neg (by simp)]
      exact List.pairwise_reverse.2 (List.pairwise_map.2 (h.asc.imp fun ab => by simpa using m _ _ ab))
  · obtain ⟨u, a, rfl⟩ := mv_mem.1 ht
    exact h.nz u a
theorem dl_mv {f : Int → Int} {up : Bool} (m : Mvf f up) (e x : Int) : dl (f e) (f x) = dl e x := by
  by_cases h : x = e
  · rw [h, dl_self, dl_self]
  · rw [dl_ne h, dl_ne (fun e2 => h (m.inj e2))]
theorem cf_mv {f : Int → Int} {up : Bool} (m : Mvf f up) (l : List Tm) (e : Int) : cf (mvL f up l) (f e) = cf l e := by
  unfold cf
  rw [S_mv]
  exact S_congr fun t _ => dl_mv m e t.1
theorem cf_mv0 {f : Int → Int} {up : Bool} (l : List Tm) {e : Int} (h : ∀ x, f x ≠ e) : cf (mvL f up l) e = 0 := cf_none fun t ht => by
  obtain ⟨u, a, rfl⟩ := mv_mem.1 ht
  exact h _
theorem mc_mv {f : Int → Int} {up : Bool} (m : Mvf f up) (hadd : ∀ a b, f (a + b) = f a + f b) (p q : List Tm) (e : Int) : mc (mvL f up p) (mvL f up q) (f e) = mc p q e := by
  unfold mc S2
  rw [S_mv]
  refine S_congr fun t _ => ?_
  rw [S_mv]
  exact S_congr fun u _ => by rw [← hadd]; exact dl_mv m e _
theorem mc_mv0 {f : Int → Int} {up : Bool} (hadd : ∀ a b, f (a + b) = f a + f b) (p q : List Tm) {e : Int} (h : ∀ x, f x ≠ e) : mc (mvL f up p) (mvL f up q) e = 0 := mc_none fun t ht u hu => by
  obtain ⟨a, _, rfl⟩ := mv_mem.1 ht
  obtain ⟨b, _, rfl⟩ := mv_mem.1 hu
  show f a.1 + f b.1 ≠ e
  rw [← hadd]
  exact h _
theorem mv_ext {f : Int → Int} {up : Bool} (m : Mvf f up) {l l' : List Tm} (h : Can l) (h' : Can l') (h1 : ∀ e, cf l' (f e) = cf l e) (h0 : ∀ e, (∀ x, f x ≠ e) → cf l' e = 0) : mvL f up l = l' :=
  Can.ext (mv_can m h) h' fun e => by
    by_cases hx : ∃ x, f x = e
    · obtain ⟨x, rfl⟩ := hx
      rw [cf_mv m, h1]
    · have hx' : ∀ x, f x ≠ e := fun x hh => hx ⟨x, hh⟩
      rw [cf_mv0 l hx', h0 e hx']
/-- A polynomial moved. -/
def movP (f : Int → Int) (up : Bool) (p : Pol) : Pol := open Classical in
  if p.big = true then p else if ∀ t ∈ p.ts, (f t.1).natAbs ≤ eM then ⟨false, mvL f up p.ts⟩ else bigP
theorem big_eq {p : Pol} (k : Pok p) (h : p.big = true) : p = bigP := by
  obtain ⟨b, ts⟩ := p
  have := k.big h
  simp only at h this
  subst h this
  rfl
theorem nb_eq {p : Pol} (h : p.big = false) : p = ⟨false, p.ts⟩ := by
  obtain ⟨b, ts⟩ := p
  simp only at h
  subst h
  rfl
theorem movP_big {f : Int → Int} {up : Bool} : movP f up bigP = bigP := by unfold movP; rw [if_pos rfl]
theorem movP_fit {f : Int → Int} {up : Bool} {p : Pol} (hb : p.big = false) (h : ∀ t ∈ p.ts, (f t.1).natAbs ≤ eM) : movP f up p = ⟨false, mvL f up p.ts⟩ := by
  unfold movP; rw [if_neg (by rw [hb]; simp), if_pos h]
theorem movP_ok {f : Int → Int} {up : Bool} (m : Mvf f up) {p : Pol} (k : Pok p) : Pok (movP f up p) := by
  unfold movP
  split
  · exact k
  split
  · rename_i h
    refine ⟨by simp, mv_can m k.can, fun t ht => ?_, fun t ht => ?_⟩
    · obtain ⟨u, a, rfl⟩ := mv_mem.1 ht
      exact k.cf u a
    · obtain ⟨u, a, rfl⟩ := mv_mem.1 ht
      exact h u a
  · exact bigP_ok
theorem addP_ok {p q : Pol} (kp : Pok p) (kq : Pok q) : Pok (addP p q) := by
  unfold addP
  split
  · exact bigP_ok
  split
  · rename_i h
    refine ⟨by simp, mrg_can kp.can kq.can, h, fun t ht => ?_⟩
    rcases mrg_mem ht with ⟨u, a, b⟩ | ⟨u, a, b⟩
    · rw [← b]; exact kp.ex u a
    · rw [← b]; exact kq.ex u a
  · exact bigP_ok
theorem cf_mA (p q : List Tm) (e : Int) : cf (mA p q) e = cf p e + cf q e := by
  unfold cf mA
  rw [S_mrg (x := 1) (y := 1) (fun a b => by omega)]; omega
theorem mv_mA {f : Int → Int} {up : Bool} (m : Mvf f up) {p q : List Tm} (hp : Can p) (hq : Can q) : mvL f up (mA p q) = mA (mvL f up p) (mvL f up q) :=
  mv_ext m (mrg_can hp hq) (mrg_can (mv_can m hp) (mv_can m hq)) (fun e => by rw [cf_mA, cf_mA, cf_mv m, cf_mv m]) (fun e h => by rw [cf_mA, cf_mv0 p h, cf_mv0 q h]; rfl)
/-- Sums, moved. -/
theorem mov_add {f : Int → Int} {up : Bool} (m : Mvf f up) {p q : Pol} (kp : Pok p) (kq : Pok q) (hp : ∀ t ∈ p.ts, (f t.1).natAbs ≤ eM) (hq : ∀ t ∈ q.ts, (f t.1).natAbs ≤ eM) : movP f up (addP p q) = addP (movP f up p) (movP f up q) := by
  by_cases bp : p.big = true
  · have e := big_eq kp bp
    subst e
    have e1 : ∀ q, addP bigP q = bigP := fun q => by unfold addP; rw [if_pos (.inl rfl)]
    rw [e1, movP_big, e1]
  by_cases bq : q.big = true
  · have e := big_eq kq bq
    subst e
    have e1 : ∀ q, addP q bigP = bigP := fun q => by unfold addP; rw [if_pos (.inr rfl)]
    rw [e1, movP_big, e1]
  have bp' : p.big = false := by simpa using bp
  have bq' : q.big = false := by simpa using bq
  rw [movP_fit bp' hp, movP_fit bq' hq]
  have e := mv_mA m kp.can kq.can
  have ef : fitL (mA (mvL f up p.ts) (mvL f up q.ts)) ↔ fitL (mA p.ts q.ts) := by
    rw [← e]
    constructor
    · intro h t ht
      exact h (f t.1, t.2) (mv_mem.2 ⟨t, ht, rfl⟩)
    · intro h t ht
      obtain ⟨u, a, rfl⟩ := mv_mem.1 ht
      exact h u a
  by_cases hf : fitL (mA p.ts q.ts)
  · have e1 : addP p q = ⟨false, mA p.ts q.ts⟩ := by unfold addP; rw [if_neg (by simp [bp', bq']), if_pos hf]
    have e2 : addP ⟨false, mvL f up p.ts⟩ ⟨false, mvL f up q.ts⟩ = ⟨false, mA (mvL f up p.ts) (mvL f up q.ts)⟩ := by unfold addP; rw [if_neg (by simp), if_pos (ef.2 hf)]
    rw [e1, e2, movP_fit rfl ?_, e]
    intro t ht
    rcases mrg_mem ht with ⟨u, a, b⟩ | ⟨u, a, b⟩
    · rw [← b]; exact hp u a
    · rw [← b]; exact hq u a
  · have e1 : addP p q = bigP := by unfold addP; rw [if_neg (by simp [bp', bq']), if_neg hf]
    have e2 : addP ⟨false, mvL f up p.ts⟩ ⟨false, mvL f up q.ts⟩ = bigP := by unfold addP; rw [if_neg (by simp), if_neg (fun h => hf (ef.1 h))]
    rw [e1, e2, movP_big]
/-- Exponents within k. -/
def Bd (k : Nat) (l : List Tm) : Prop := ∀ t ∈ l, t.1.natAbs ≤ k
theorem Bd.lh {k : Nat} {l : List Tm} (h : Bd k l) (h0 : l ≠ []) : (lo0 l).natAbs ≤ k ∧ (hi0 l).natAbs ≤ k := by
  obtain ⟨t, a, b⟩ := lo0_mem h0
  obtain ⟨u, c, d⟩ := hi0_mem h0
  rw [← b, ← d]
  exact ⟨h t a, h u c⟩
/-- The product where nothing leaves the limits of the exponents. -/
theorem mulP_in {p q : Pol} (kp : Pok p) (kq : Pok q) (bp : p.big = false) (bq : q.big = false) (hp : Bd 524288 p.ts) (hq : Bd 524288 q.ts) :
    ∃ L, Can L ∧ (∀ e, cf L e = mc p.ts q.ts e) ∧ (mulP p q = open Classical in if ∀ t ∈ L, t.2.natAbs ≤ cM then ⟨false, L⟩ else bigP) := by
  by_cases h0 : p.ts = [] ∨ q.ts = []
  · refine ⟨[], .nil, fun e => ?_, ?_⟩
    · rcases h0 with h | h
      · rw [h, mc_nil]; rfl
      · rw [h, mc_nilr]; rfl
    · unfold mulP
      rw [if_neg (by simp [bp, bq]), if_pos h0, if_pos (by simp)]
  · have h1 : p.ts ≠ [] := fun h => h0 (.inl h)
    have h2 : q.ts ≠ [] := fun h => h0 (.inr h)
    obtain ⟨a, b⟩ := hp.lh h1
    obtain ⟨c, d⟩ := hq.lh h2
    refine ⟨mulL p.ts q.ts (mulLo p.ts q.ts) (mulN p.ts q.ts), fromC_can _ _ _, fun e => cf_mulL (mul_rng kp.can kq.can) e, ?_⟩
    unfold mulP
    rw [if_neg (by simp [bp, bq]), if_neg h0, if_neg (by unfold mulLo; omega)]
/-- Where a product has a term, exponents add up. -/
theorem mul_bd {p q L : List Tm} (hL : Can L) (hc : ∀ e, cf L e = mc p q e) {j k : Nat} (hp : Bd j p) (hq : Bd k q) : Bd (j + k) L := fun t ht => by
  have h1 := cf_mem hL ht
  have h2 : mc p q t.1 ≠ 0 := by rw [← hc, h1]; exact hL.nz t ht
  obtain ⟨a, ha, b, hb, e⟩ := mc_ne h2
  have := hp a ha
  have := hq b hb
  omega
/-- Products, moved. -/
theorem mov_mul {f : Int → Int} {up : Bool} (m : Mvf f up) (hadd : ∀ a b, f (a + b) = f a + f b) {j : Nat} (hj : j ≤ 524288) {p q : Pol} (kp : Pok p) (kq : Pok q) (hp : Bd j p.ts) (hq : Bd j q.ts) (hpf : ∀ t ∈ p.ts, (f t.1).natAbs ≤ 524288) (hqf : ∀ t ∈ q.ts, (f t.1).natAbs ≤ 524288) :
    movP f up (mulP p q) = mulP (movP f up p) (movP f up q) := by
  by_cases bp : p.big = true
  · have e := big_eq kp bp
    subst e
    have e1 : ∀ q, mulP bigP q = bigP := fun q => by unfold mulP; rw [if_pos (.inl rfl)]
    rw [e1, movP_big, e1]
  by_cases bq : q.big = true
  · have e := big_eq kq bq
    subst e
    have e1 : ∀ q, mulP q bigP = bigP := fun q => by unfold mulP; rw [if_pos (.inr rfl)]
    rw [e1, movP_big, e1]
  have bp' : p.big = false := by simpa using bp
  have bq' : q.big = false := by simpa using bq
  have hpf' : ∀ t ∈ p.ts, (f t.1).natAbs ≤ eM := fun t ht => by have := hpf t ht; simp only [eM]; omega
  have hqf' : ∀ t ∈ q.ts, (f t.1).natAbs ≤ eM := fun t ht => by have := hqf t ht; simp only [eM]; omega
  have ep := movP_fit (up := up) bp' hpf'
  have eq := movP_fit (up := up) bq' hqf'
  have kp' : Pok (movP f up p) := movP_ok m kp
  have kq' : Pok (movP f up q) := movP_ok m kq
  rw [ep] at kp' ⊢
  rw [eq] at kq' ⊢
  obtain ⟨L, c1, c2, c3⟩ := mulP_in kp kq bp' bq' (fun t ht => by have := hp t ht; omega) (fun t ht => by have := hq t ht; omega)
  obtain ⟨M, d1, d2, d3⟩ := mulP_in kp' kq' rfl rfl (fun t ht => by obtain ⟨u, a, rfl⟩ := mv_mem.1 ht; exact hpf u a) (fun t ht => by obtain ⟨u, a, rfl⟩ := mv_mem.1 ht; exact hqf u a)
  have e : mvL f up L = M := mv_ext m c1 d1 (fun e => by rw [d2, c2]; exact mc_mv m hadd _ _ e) (fun e h => by rw [d2]; exact mc_mv0 hadd _ _ h)
  rw [c3, d3, ← e]
  have ef : (∀ t ∈ mvL f up L, t.2.natAbs ≤ cM) ↔ ∀ t ∈ L, t.2.natAbs ≤ cM := by
    constructor
    · intro h t ht
      exact h (f t.1, t.2) (mv_mem.2 ⟨t, ht, rfl⟩)
    · intro h t ht
      obtain ⟨u, a, rfl⟩ := mv_mem.1 ht
      exact h u a
  by_cases hf : ∀ t ∈ L, t.2.natAbs ≤ cM
  · rw [if_pos hf, if_pos (ef.2 hf), movP_fit rfl]
    intro t ht
    have h1 := cf_mem c1 ht
    have h2 : mc p.ts q.ts t.1 ≠ 0 := by rw [← c2, h1]; exact c1.nz t ht
    obtain ⟨a, ha, b, hb, e⟩ := mc_ne h2
    rw [← e, hadd]
    have := hpf a ha
    have := hqf b hb
    simp only [eM]; omega
  · rw [if_neg hf, if_neg (fun h => hf (ef.1 h)), movP_big]
/-- Moved twice. -/
theorem mv_mv (f g : Int → Int) (a b : Bool) (l : List Tm) : mvL g b (mvL f a l) = mvL (fun x => g (f x)) (a == b) l := by
  unfold mvL
  cases a <;> cases b <;> simp [Function.comp_def]
theorem mv_id (l : List Tm) : mvL (fun x => x) true l = l := by unfold mvL; simp
theorem mov_mov {f g : Int → Int} {a b : Bool} {p : Pol} (k : Pok p) (hf : ∀ t ∈ p.ts, (f t.1).natAbs ≤ eM) (hg : ∀ t ∈ p.ts, (g (f t.1)).natAbs ≤ eM) : movP g b (movP f a p) = movP (fun x => g (f x)) (a == b) p := by
  by_cases bp : p.big = true
  · rw [big_eq k bp, movP_big, movP_big, movP_big]
  have bp' : p.big = false := by simpa using bp
  rw [movP_fit bp' hf, movP_fit (p := ⟨false, mvL f a p.ts⟩) rfl, movP_fit bp' hg, mv_mv]
  intro t ht
  obtain ⟨u, c, rfl⟩ := mv_mem.1 ht
  exact hg u c
theorem mov_id {p : Pol} (k : Pok p) : movP (fun x => x) true p = p := by
  by_cases bp : p.big = true
  · rw [big_eq k bp, movP_big]
  have bp' : p.big = false := by simpa using bp
  rw [movP_fit bp' k.ex, mv_id]
  exact (nb_eq bp').symm
end Go.Proofs.YtlnjddjobbhcaaaDoor
