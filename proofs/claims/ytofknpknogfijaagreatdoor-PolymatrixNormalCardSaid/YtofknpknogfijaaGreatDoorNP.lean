/- Sub, Neg: contracts; the ring's laws, plain. -/
import Derived.Test.YtofknpknogfijaaGreatDoorCG2
import Derived.Test.YtofknpknogfijaaGreatDoorEX10
namespace Go.Proofs.YtofknpknogfijaaGreatDoor
open Go.Ab
set_option linter.unusedVariables false
set_option linter.unusedSimpArgs false
set_option maxRecDepth 20000
set_option maxHeartbeats 8000000
attribute [local irreducible] wOps wA wSeq wBlk wRound wRoundI wOpsD wOpsS
set_option linter.unusedSectionVars false
variable [HB]

def wSub (a b : Int) : Int := a - b
def wNeg (_ b : Int) : Int := -b
theorem wop56 : Wop 61 wNeg := fun h0 a b ha hb => by
  simp only [cM] at ha hb
  refine ⟨?_, by unfold wNeg; omega⟩
  refine Cal.of (F := a61) rfl rfl rfl ?_
  repeat' (first | refine w_seq ?_ | refine w_seqN ?_ | refine w_ret ?_ | refine w_ops ?_ | ((refine i_nil ?_); refine w_end1 rfl ?_) | ((refine i_cons ?_); first | refine k_mv rfl ?_ | refine k_neg rfl (by omega) ?_))
  exact ⟨.inr rfl, rfl, rfl⟩
noncomputable def subP (p q : Pol) : Pol := combP wSub p q
noncomputable def negP (q : Pol) : Pol := combP wNeg zeroP q
theorem call24 (h0 : Heap) (sp : SV) (p : Pol) (hp : IsD h0 sp (tms p.ts)) (kp : Pok p) :
    ∃ r h', Cal FT HKt 24 [.agg [.bool p.big, sp]] h0 r h' ∧ Ext h0 h' ∧ IsPol h' r (negP p) := by
  refine Cal.of (F := a24) rfl rfl rfl ?_
  have k53 := fun H (e : Ext h0 H) => call51g wop56 rfl H .nilS sp zeroP p (IsD.nil H) (hp.ext e) zeroP_ok kp
  unfold negP
  generalize combP wNeg zeroP p = D at *
  repeat' (first | refine w_seq ?_ | refine w_seqN ?_ | refine w_ret ?_ | refine w_ops ?_ | ((refine i_nil ?_); first | refine w_end1 rfl ?_ | refine w_end2 rfl rfl ?_) | ((refine i_cons ?_); first | (have z := e1; refine k_newC ?_; intro h2 e2 c2; have d1 := c1.ext e2; have x2 := e1.trans e2) | (refine k_boxC rfl ?_; intro h1 e1 c1) | refine k_ldC rfl d1 ?_ | (refine k_bld rfl rfl ?_) | (refine k_call rfl (k53 h2 x2) ?_; rintro r h3 ⟨e3, s, rfl, is⟩; have c2_3 := c2.ext e3) | (refine k_stC rfl rfl c2_3 ?_; intro h4 w4)))
  exact ⟨.inr rfl, oK_cell rfl w4.cel.read ⟨w4.ext (x2.trans e3) e1.len, s, rfl, is.wrC w4⟩⟩

/-! ### Plain -/
theorem S_neg (g : Int → Int) (q : List Tm) : S g (mG wNeg [] q) = - S g q := by
  unfold mG
  rw [S_mrg (x := 0) (y := -1) (fun a b => by unfold wNeg; omega)]; omega
theorem combP_nb {w : Int → Int → Int} {p q : Pol} (bp : p.big = false) (bq : q.big = false) : combP w p q = open Classical in if fitL (mG w p.ts q.ts) then ⟨false, mG w p.ts q.ts⟩ else bigP := by
  unfold combP; rw [if_neg (by simp [bp, bq])]
theorem comb_bigR {w : Int → Int → Int} (q : Pol) : combP w q bigP = bigP := by unfold combP; rw [if_pos (.inr rfl)]
theorem Bd.mono {j k : Nat} {l : List Tm} (h : Bd j l) (hk : j ≤ k) : Bd k l := fun t ht => Nat.le_trans (h t ht) hk
theorem neg_nb {q : Pol} (kq : Pok q) (bq : q.big = false) : negP q = ⟨false, mG wNeg [] q.ts⟩ := by
  unfold negP
  rw [combP_nb rfl bq, if_pos]
  intro t ht
  have h1 := cf_mem (mrg_can .nil kq.can) ht
  have h2 : cf (mrg wNeg [] q.ts) t.1 = - cf q.ts t.1 := S_neg _ _
  rw [h2] at h1
  have := cf_abs kq.can kq.cf t.1
  omega
end Go.Proofs.YtofknpknogfijaaGreatDoor


namespace Go.Proofs.YtofknpknogfijaaGreatDoor
set_option linter.unusedVariables false
set_option linter.unusedSectionVars false
variable [HB]
theorem S_ng (g : Int → Int) : ∀ l : List Tm, S g (l.map ngT) = - S g l
  | [] => rfl
  | t :: l => by
    simp only [List.map_cons, S, ngT]
    rw [S_ng g l, Int.neg_mul]; omega
theorem asc_head {t : Tm} {r : List Tm} (h : Asc (t :: r)) : ∀ u ∈ r, t.1 < u.1 := (List.pairwise_cons.1 h).1
theorem asc_mem : ∀ {M : List Tm} {t : Tm}, Asc M → t ∈ M → cf M t.1 = t.2
  | u :: r, t, h, ht => by
    rcases List.mem_cons.1 ht with rfl | ht
    · rw [cf_cons, dl_self, cf_none fun v hv => by have := asc_head h v hv; omega]; omega
    · have := asc_head h t ht
      rw [cf_cons, dl_ne (by omega), asc_mem (List.pairwise_cons.1 h).2 ht]; omega
theorem colP_of {M : List Tm} (h : Asc M) (hb : ∀ e, cf M e ≠ 0 → (cf M e).natAbs ≤ cM ∧ e.natAbs ≤ eM) : (colP M).big = false := by
  unfold colP
  rw [if_pos]
  intro u hu h0
  have := hb u.1
  rw [asc_mem h hu] at this
  exact this h0
theorem can_ng {l : List Tm} (h : Can l) : Can (l.map ngT) :=
  ⟨List.pairwise_map.2 (h.asc.imp fun {x y} hxy => hxy), fun t ht => by
    obtain ⟨u, hu, rfl⟩ := List.mem_map.1 ht
    have := h.nz u hu
    show -u.2 ≠ 0
    omega⟩
theorem negP_eq {q : Pol} (k : Pok q) : negP q = ngP q := by
  cases hb : q.big with
  | true =>
    have := big_eq k hb
    rw [this]
    unfold negP; rw [comb_bigR]; rfl
  | false =>
    rw [neg_nb k hb]
    have e : mG wNeg [] q.ts = q.ts.map ngT := Can.ext (mrg_can .nil k.can) (can_ng k.can) fun e => by
      show S (dl e) _ = S (dl e) _
      rw [S_neg, S_ng]
    rw [e]; unfold ngP; rw [hb]
theorem ngP_ok {q : Pol} (k : Pok q) : Pok (ngP q) := by
  refine ⟨fun h => ?_, can_ng k.can, fun t ht => ?_, fun t ht => ?_⟩
  · have := k.big h
    show q.ts.map ngT = []
    rw [this]; rfl
  · obtain ⟨u, hu, rfl⟩ := List.mem_map.1 (show t ∈ q.ts.map ngT from ht)
    have := k.cf u hu
    show (-u.2).natAbs ≤ cM
    omega
  · obtain ⟨u, hu, rfl⟩ := List.mem_map.1 (show t ∈ q.ts.map ngT from ht)
    exact k.ex u hu
theorem lo0_ng (l : List Tm) : lo0 (l.map ngT) = lo0 l := by cases l <;> rfl
/-- The first coefficient. -/
def hd0 (l : List Tm) : Int := match l with
  | [] => 0
  | t :: _ => t.2
theorem cf_hd {l : List Tm} (h : Can l) : cf l (lo0 l) = hd0 l := by
  cases l with
  | nil => rfl
  | cons t r => exact h.cf_head
def shT (l : List Tm) : List Tm := l.map fun t => (t.1 - lo0 l, t.2)
def sgT (l : List Tm) : List Tm := if hd0 l < 0 then l.map ngT else l
/-- The normal form. -/
def nrmP (p : Pol) : Pol := if p.big = true ∨ p.ts = [] then p else ⟨false, shT (sgT p.ts)⟩
theorem lo0_sg (l : List Tm) : lo0 (sgT l) = lo0 l := by unfold sgT; split; exact lo0_ng l; rfl
theorem can_sg {l : List Tm} (h : Can l) : Can (sgT l) := by unfold sgT; split; exact can_ng h; exact h
theorem can_sh {l : List Tm} (h : Can l) : Can (shT l) :=
  ⟨List.pairwise_map.2 (h.asc.imp fun {x y} hxy => by simp only; omega), fun t ht => by
    obtain ⟨u, hu, rfl⟩ := List.mem_map.1 ht
    exact h.nz u hu⟩
/-- Exponents of at most 300. -/
def Sml (p : Pol) : Prop := ∀ t ∈ p.ts, t.1.natAbs ≤ 300
theorem sg_mem {l : List Tm} {t : Tm} (h : t ∈ sgT l) : ∃ u ∈ l, u.1 = t.1 ∧ u.2.natAbs = t.2.natAbs := by
  unfold sgT at h
  split at h
  · obtain ⟨u, hu, rfl⟩ := List.mem_map.1 h
    exact ⟨u, hu, rfl, by simp [ngT]⟩
  · exact ⟨t, h, rfl, rfl⟩
theorem nrm_ok {p : Pol} (k : Pok p) (s : Sml p) : Pok (nrmP p) := by
  unfold nrmP
  split
  · exact k
  · rename_i hn
    refine ⟨by simp, can_sh (can_sg k.can), fun t ht => ?_, fun t ht => ?_⟩
    · obtain ⟨u, hu, rfl⟩ := List.mem_map.1 (show t ∈ (sgT p.ts).map _ from ht)
      obtain ⟨v, hv, e1, e2⟩ := sg_mem hu
      have := k.cf v hv
      show u.2.natAbs ≤ cM
      omega
    · obtain ⟨u, hu, rfl⟩ := List.mem_map.1 (show t ∈ (sgT p.ts).map _ from ht)
      obtain ⟨v, hv, e1, e2⟩ := sg_mem hu
      have := s v hv
      obtain ⟨w, hw, e3⟩ := lo0_mem (p := p.ts) (fun e => hn (.inr e))
      have := s w hw
      show (u.1 - lo0 (sgT p.ts)).natAbs ≤ eM
      rw [lo0_sg]
      simp only [eM]; omega
theorem nrm_len {p : Pol} (k : Pok p) : (nrmP p).ts.length = p.ts.length := by
  unfold nrmP
  split
  · rfl
  · show (shT (sgT p.ts)).length = _
    unfold shT sgT
    split <;> simp
/-- The walk's form. -/
theorem nrm_mov {p : Pol} (k : Pok p) (s : Sml p) (hb : p.big = false) (h0 : p.ts ≠ []) : movP (fun e => e + -lo0 p.ts) true ⟨false, sgT p.ts⟩ = nrmP p := by
  have e : nrmP p = ⟨false, shT (sgT p.ts)⟩ := by unfold nrmP; rw [if_neg (by rw [hb]; simp [h0])]
  rw [e, movP_fit rfl fun t ht => ?_]
  · congr 1
    unfold mvL shT
    rw [if_pos rfl, lo0_sg]
    rfl
  · obtain ⟨v, hv, e1, e2⟩ := sg_mem ht
    have := s v hv
    obtain ⟨w, hw, e3⟩ := lo0_mem h0
    have := s w hw
    show (t.1 + -lo0 p.ts).natAbs ≤ eM
    simp only [eM]; omega
theorem hd_sg (l : List Tm) : ¬ hd0 (sgT l) < 0 := by
  unfold sgT
  split
  · rename_i h
    cases l with
    | nil => simp [hd0]
    | cons t r => show ¬ -t.2 < 0; have : t.2 < 0 := h; omega
  · assumption
theorem sg_sh (l : List Tm) : sgT (shT l) = shT (sgT l) := by
  unfold sgT
  have e : hd0 (shT l) = hd0 l := by cases l <;> rfl
  rw [e]
  split
  · unfold shT
    rw [lo0_ng, List.map_map, List.map_map]
    rfl
  · rfl
theorem sg_sg (l : List Tm) : sgT (sgT l) = sgT l := by
  show (if hd0 (sgT l) < 0 then (sgT l).map ngT else sgT l) = sgT l
  rw [if_neg (hd_sg l)]
theorem sh_sh (l : List Tm) : shT (shT l) = shT l := by
  have e : lo0 (shT l) = 0 := by
    cases l with
    | nil => rfl
    | cons t r => show t.1 - t.1 = 0; omega
  show (shT l).map (fun t => (t.1 - lo0 (shT l), t.2)) = shT l
  rw [e]
  simp
theorem nrm_nrm (p : Pol) : nrmP (nrmP p) = nrmP p := by
  by_cases h : p.big = true ∨ p.ts = []
  · have e : nrmP p = p := by unfold nrmP; rw [if_pos h]
    rw [e, e]
  · have e : nrmP p = ⟨false, shT (sgT p.ts)⟩ := by unfold nrmP; rw [if_neg h]
    rw [e]
    unfold nrmP
    split
    · rfl
    · rw [sg_sh, sg_sg, sh_sh]
theorem nrm_ng {p : Pol} (k : Pok p) : nrmP (ngP p) = nrmP p := by
  by_cases h : p.big = true ∨ p.ts = []
  · have h3 : p.ts = [] := h.elim k.big id
    have : ngP p = p := by
      obtain ⟨b, ts⟩ := p
      simp only at h3
      subst h3; rfl
    rw [this]
  · have h2 : ¬ ((ngP p).big = true ∨ (ngP p).ts = []) := fun h' => h (h'.imp (fun h => h) fun h => by simpa [ngP] using h)
    unfold nrmP
    rw [if_neg h, if_neg h2]
    show (⟨false, shT (sgT (p.ts.map ngT))⟩ : Pol) = ⟨false, shT (sgT p.ts)⟩
    have e : sgT (p.ts.map ngT) = sgT p.ts := by
      have nz := k.can.nz
      cases hp : p.ts with
      | nil => rfl
      | cons t r =>
        have := nz t (by rw [hp]; exact .head _)
        have e2 : hd0 ((t :: r).map ngT) = -t.2 := rfl
        have e3 : hd0 (t :: r) = t.2 := rfl
        unfold sgT
        rw [e2, e3]
        by_cases ht : t.2 < 0
        · rw [if_pos ht, if_neg (by omega)]
        · rw [if_neg ht, if_pos (by omega), List.map_map]
          have : (ngT ∘ ngT) = id := by funext x; simp [ngT]
          rw [this, List.map_id]
    rw [e]
theorem nrm_mv {p : Pol} (k : Pok p) (s : Sml p) (b : Int) (hb : b.natAbs ≤ 1000) : nrmP (movP (fun e => e + b) true p) = nrmP p := by
  cases hbp : p.big with
  | true => rw [big_eq k hbp, movP_big]
  | false =>
    rw [movP_fit hbp fun t ht => by have := s t ht; simp only [eM]; omega]
    unfold mvL
    rw [if_pos rfl]
    unfold nrmP
    simp only [hbp, Bool.false_eq_true, false_or, List.map_eq_nil_iff]
    split
    · rename_i h
      obtain ⟨b, ts⟩ := p
      simp only at h hbp
      subst h hbp; rfl
    · congr 1
      have e : sgT (p.ts.map fun t => (t.1 + b, t.2)) = (sgT p.ts).map fun t => (t.1 + b, t.2) := by
        have e2 : hd0 (p.ts.map fun t => (t.1 + b, t.2)) = hd0 p.ts := by cases p.ts <;> rfl
        unfold sgT
        rw [e2]
        split
        · rw [List.map_map, List.map_map]; rfl
        · rfl
      rw [e]
      unfold shT
      cases sgT p.ts with
      | nil => rfl
      | cons t r =>
        rw [List.map_map]
        refine List.map_congr_left fun x _ => ?_
        show (x.1 + b - (t.1 + b), x.2) = (x.1 - t.1, x.2)
        rw [show x.1 + b - (t.1 + b) = x.1 - t.1 by omega]
/-! The reference. -/
noncomputable def rfN (p : Pol) : Pol := if p.big = true ∨ p.ts = [] then p else if hd0 p.ts < 0 then ngP (colP (mulAll p.ts [(-lo0 p.ts, 1)] [])) else colP (mulAll p.ts [(-lo0 p.ts, 1)] [])
theorem mul_one (l : List Tm) (a : Int) (h : Can l) (hb : ∀ t ∈ l, t.2.natAbs ≤ cM ∧ (t.1 + a).natAbs ≤ eM) : colP (mulAll l [(a, 1)] []) = ⟨false, l.map fun t => (t.1 + a, t.2)⟩ := by
  have as0 : Asc (mulAll l [(a, 1)] []) := mulAll_asc (show Asc [] from .nil)
  have hS : ∀ g, S g (mulAll l [(a, 1)] []) = S (fun x => g (x + a)) l := fun g => by
    rw [S_mulAll]
    show 0 + S2 g l [(a, 1)] = _
    unfold S2
    rw [Int.zero_add]
    exact S_congr fun t _ => by simp [S]
  have hcf : ∀ e, cf (mulAll l [(a, 1)] []) e = cf l (e - a) := fun e => by
    show S (dl e) _ = S (dl (e - a)) l
    rw [hS]
    exact S_congr fun t _ => by
      by_cases h : t.1 + a = e
      · rw [h, dl_self, show t.1 = e - a by omega, dl_self]
      · rw [dl_ne h, dl_ne (by omega)]
  have nb : (colP (mulAll l [(a, 1)] [])).big = false := colP_of as0 fun e he => by
    rw [hcf] at he ⊢
    obtain ⟨t, ht, e2⟩ := cf_ne he
    have := hb t ht
    rw [← e2, cf_mem h ht]
    exact ⟨this.1, by rw [show e = t.1 + a by omega]; exact this.2⟩
  rcases colP_spec as0 with e | ⟨-, k, hs⟩
  · rw [e] at nb; cases nb
  have e : (colP (mulAll l [(a, 1)] [])).ts = l.map fun t => (t.1 + a, t.2) := by
    refine Can.ext k.can ⟨List.pairwise_map.2 (h.asc.imp fun {x y} hxy => by simp only; omega), fun t ht => ?_⟩ fun e => ?_
    · obtain ⟨u, hu, rfl⟩ := List.mem_map.1 ht
      exact h.nz u hu
    · show S (dl e) _ = S (dl e) _
      rw [hs, hS]
      exact (S_map (dl e) (fun x => x + a) l).symm
  rw [← e, ← nb]
theorem rfN_eq {p : Pol} (k : Pok p) (s : Sml p) : rfN p = nrmP p := by
  unfold rfN nrmP
  split
  · rfl
  · rename_i hn
    have h0 : p.ts ≠ [] := fun e => hn (.inr e)
    rw [mul_one p.ts (-lo0 p.ts) k.can fun t ht => by
      have := s t ht
      obtain ⟨w, hw, e3⟩ := lo0_mem h0
      have := s w hw
      exact ⟨k.cf t ht, by simp only [eM]; omega⟩]
    split
    · rename_i hh
      unfold sgT shT ngP
      rw [if_pos hh, lo0_ng]
      simp only [List.map_map]
      congr 1
    · rename_i hh
      unfold sgT shT
      rw [if_neg hh]
      rfl
end Go.Proofs.YtofknpknogfijaaGreatDoor

