/- Common factors of a wide number, and its quotient: contracts. -/
import Derived.Test.YtlnjddjobbhcaaaDoorW4
import Derived.Test.YtlnjddjobbhcaaaDoorAb41
import Derived.Test.YtlnjddjobbhcaaaDoorPX
namespace Go.Proofs.YtlnjddjobbhcaaaDoor
open Go.Ab
set_option linter.unusedVariables false
set_option linter.unusedSimpArgs false
set_option maxRecDepth 20000
set_option maxHeartbeats 4000000
attribute [local irreducible] wOps wA wSeq wBlk wRound wRoundI wOpsD wOpsS

theorem call107 (h0 : Heap) (hi lo y : Nat) (hhi : hi < 18446744073709551616) (hlo : lo < 18446744073709551616) (hy : 0 < y ∧ y < 18446744073709551616) :
    ∃ r h', Cal FT HKt 107 [.sc (.int .u64 (hi : Nat)), .sc (.int .u64 (lo : Nat)), .sc (.int .u64 (y : Nat))] h0 r h' ∧ h' = h0 ∧ r = .sc (.int .u64 (((hi * 18446744073709551616 + lo) % y : Nat) : Int)) := by
  refine Cal.of (F := a107) rfl rfl rfl ?_
  have k71 := fun H => call71 H (hi % y) lo y (Nat.mod_lt _ hy.1) hlo hy.2
  have e : (hi % y * 18446744073709551616 + lo) % y = (hi * 18446744073709551616 + lo) % y := by
    rw [Nat.add_mod, Nat.mul_mod, Nat.mod_mod, ← Nat.mul_mod, ← Nat.add_mod]
  rw [e] at k71
  have e2 : (hi : Int) % (y : Int) = ((hi % y : Nat) : Int) := rfl
  repeat' (first | refine w_seq ?_ | refine w_seqN ?_ | refine w_ret ?_ | refine w_ops ?_ | ((refine i_nil ?_); first | refine w_end1 rfl ?_ | refine w_end3 rfl rfl rfl ?_) | ((refine i_cons ?_); first | (refine k_remU rfl rfl (by omega) ?_; rw [e2]) | (refine k_call rfl (k71 _) ?_; rintro r _ ⟨rfl, rfl⟩) | refine k_mv rfl ?_ | refine k_ok rfl rfl ?_))
  exact ⟨.inr rfl, rfl, rfl⟩
def I99 (h0 : Heap) (g : Nat) (E : Env) (h : Heap) : Prop := h = h0 ∧ ∃ a b : Nat, a < 18446744073709551616 ∧ b < 18446744073709551616 ∧ Nat.gcd a b = g ∧ E.keep [7, 8] = [(7, some (.sc (.int .u64 (a : Nat)))), (8, some (.sc (.int .u64 (b : Nat))))]
def R99 (h0 : Heap) (g : Nat) (ex : Ex) (E : Env) (h : Heap) : Prop := h = h0 ∧ ex = .ex 0 ∧ ∃ a b, E = [(7, some (.sc (.int .u64 (g : Nat)))), (8, a), (22, b)]
def qB (E : Env) (h : Heap) : Nat := match (E.keep [7, 8]).get 8 with | some (.sc (.int .u64 b)) => b.toNat | _ => 0
theorem round99 (h0 : Heap) (g : Nat) (E : Env) (h : Heap) (hI : I99 h0 g E h) :
    wA FT HKt b99L0 (E.keep [7, 8]) h (wRound (I99 h0 g) qB (qB E h) (R99 h0 g)) := by
  obtain ⟨rfl, a, b, ha, hb, hg, hE⟩ := hI
  have hm : qB E h = b := by unfold qB; rw [hE]; rfl
  rw [hm, hE]
  by_cases hz : b = 0
  · subst hz
    rw [Nat.gcd_zero_right] at hg
    subst hg
    repeat' (first | refine w_seq ?_ | refine w_seqN ?_ | refine w_seqX ?_ | refine w_exit ?_ | refine w_ops ?_ | ((refine i_cond ?_); refine w_condF rfl ?_) | ((refine i_nil ?_); refine w_end3 rfl rfl rfl ?_) | ((refine i_cons ?_); first | refine k_mv rfl ?_ | refine k_neqF rfl rfl (by omega) ?_))
    exact w_roundX ⟨rfl, rfl, _, _, rfl⟩
  · have e2 : (a : Int) % (b : Int) = ((a % b : Nat) : Int) := rfl
    have hlt := Nat.mod_lt a (Nat.pos_of_ne_zero hz)
    repeat' (first | refine w_seq ?_ | refine w_seqN ?_ | refine w_blk ?_ | refine w_blkN ?_ | refine w_skip ?_ | refine w_ops ?_ | refine w_opsD ?_ | refine d_one ?_ | refine d_nil ?_ | ((refine i_cond ?_); refine w_condT rfl ?_) | ((refine i_nil ?_); first | refine d_same ?_ | refine w_end2 rfl rfl ?_ | refine w_end3 rfl rfl rfl ?_) | ((refine i_cons ?_); first | (refine k_remU rfl rfl (by omega) ?_; rw [e2]) | refine k_mv rfl ?_ | refine k_neqT rfl rfl (by omega) ?_))
    refine w_roundN ⟨rfl, b, a % b, hb, by omega, ?_, rfl⟩ (by simp [qB, Env.keep, Env.get]; omega)
    rw [← hg, Nat.gcd_comm a b, Nat.gcd_rec b a, Nat.gcd_comm]
theorem call99 (h0 : Heap) (v : Int) (y : Nat) (hv : -170141183460469231731687303715884105728 < v ∧ v < 170141183460469231731687303715884105728) (hy : 0 < y ∧ y < 18446744073709551616) :
    ∃ r h', Cal FT HKt 99 [.agg (wd v), .sc (.int .u64 (y : Nat))] h0 r h' ∧ Ext h0 h' ∧ r = .sc (.int .u64 (Nat.gcd v.natAbs y : Nat)) := by
  refine Cal.of (F := a99) rfl rfl rfl ?_
  have k69 := fun H => call69 H v hv
  rw [wd_of (v := (v.natAbs : Int)) (by omega) (by omega)] at k69
  rw [show ((v.natAbs : Nat) : Int) / 18446744073709551616 = ((v.natAbs / 18446744073709551616 : Nat) : Int) by omega, show ((v.natAbs : Nat) : Int) % 18446744073709551616 = ((v.natAbs % 18446744073709551616 : Nat) : Int) by omega] at k69
  have k107 := fun H => call107 H (v.natAbs / 18446744073709551616) (v.natAbs % 18446744073709551616) y (by omega) (by omega) hy
  rw [show v.natAbs / 18446744073709551616 * 18446744073709551616 + v.natAbs % 18446744073709551616 = v.natAbs by omega] at k107
  have hlt := Nat.mod_lt v.natAbs hy.1
  generalize hW : wd v = W at *
  obtain ⟨w1, w2, rfl⟩ : ∃ w1 w2, W = [w1, w2] := ⟨_, _, hW.symm⟩
  repeat' (first | refine w_seq ?_ | refine w_seqN ?_ | refine w_blk ?_ | refine w_ops ?_ | ((refine i_nil ?_); refine w_end2 rfl rfl ?_) | ((refine i_cons ?_); first | (refine k_boxC rfl ?_; intro h1 e1 c1) | refine k_ldC rfl c1 ?_ | (refine k_call rfl (k69 _) ?_; rintro r h3 ⟨e3, rfl⟩) | (refine k_newst rfl ?_; intro h4 e4 c4) | refine k_ldC0 rfl c4 ?_ | refine k_ldC1 rfl c4 ?_ | (refine k_call rfl (k107 _) ?_; rintro r _ ⟨rfl, rfl⟩) | refine k_mv rfl ?_ | refine k_ok rfl rfl ?_))
  refine w_loop (I99 _ (Nat.gcd v.natAbs y)) qB (R99 _ (Nat.gcd v.natAbs y)) ⟨rfl, y, v.natAbs % y, hy.2, by omega, ?_, rfl⟩ (round99 _ _) ?_
  · rw [Nat.gcd_rec y v.natAbs |>.symm.trans (Nat.gcd_comm _ _) |> fun h => (Nat.gcd_comm y (v.natAbs % y)).trans h]
  rintro ex E' h9 ⟨rfl, rfl, _, _, rfl⟩
  repeat' (first | refine w_seq ?_ | refine w_seqN ?_ | refine w_blkX ?_ | refine w_ret ?_ | refine w_ops ?_ | ((refine i_nil ?_); refine w_end1 rfl ?_) | ((refine i_cons ?_); refine k_mv rfl ?_))
  exact ⟨.inr rfl, e1.trans (e3.trans e4), rfl⟩
/-- The parts of a quotient. -/
theorem over_parts (m g : Nat) (hg : 0 < g) : m / g / 18446744073709551616 = m / 18446744073709551616 / g ∧ m / g % 18446744073709551616 = ((m / 18446744073709551616) % g * 18446744073709551616 + m % 18446744073709551616) / g := by
  have h1 : m / g / 18446744073709551616 = m / 18446744073709551616 / g := by rw [Nat.div_div_eq_div_mul, Nat.div_div_eq_div_mul, Nat.mul_comm]
  refine ⟨h1, ?_⟩
  have hm : m = (m / 18446744073709551616 / g) * 18446744073709551616 * g + ((m / 18446744073709551616) % g * 18446744073709551616 + m % 18446744073709551616) := by
    have a := Nat.div_add_mod (m / 18446744073709551616) g
    have b := Nat.div_add_mod m 18446744073709551616
    generalize m / 18446744073709551616 = h at *
    generalize h / g = q at *
    generalize h % g = r at *
    rw [Nat.mul_right_comm, Nat.mul_comm q g]
    omega
  have h2 : m / g = (m / 18446744073709551616 / g) * 18446744073709551616 + ((m / 18446744073709551616) % g * 18446744073709551616 + m % 18446744073709551616) / g := by
    conv => lhs; rw [hm]
    rw [Nat.add_comm, Nat.add_mul_div_right _ _ hg, Nat.add_comm]
  have h3 : m / g % 18446744073709551616 = m / g - m / g / 18446744073709551616 * 18446744073709551616 := by omega
  rw [h3, h1]; omega
theorem call100 (h0 : Heap) (v : Int) (g : Nat) (hv : -170141183460469231731687303715884105728 < v ∧ v < 170141183460469231731687303715884105728) (hg : 0 < g ∧ g < 18446744073709551616) (hd : (g : Int) ∣ v) :
    ∃ r h', Cal FT HKt 100 [.agg (wd v), .sc (.int .u64 (g : Nat))] h0 r h' ∧ Ext h0 h' ∧ r = .agg (wd (v / g)) := by
  refine Cal.of (F := a100) rfl rfl rfl ?_
  have k69 := fun H => call69 H v hv
  have hle : v.natAbs / g ≤ v.natAbs := Nat.div_le_self _ _
  have k74 := fun H => call74 H ((v.natAbs / g : Nat) : Int)
  obtain ⟨p1, p2⟩ := over_parts v.natAbs g hg.1
  have hmod := Nat.mod_lt (v.natAbs / 18446744073709551616) hg.1
  have k71 := fun H => call71 H (v.natAbs / 18446744073709551616 % g) (v.natAbs % 18446744073709551616) g hmod (by omega) hg.2
  rw [← p2] at k71
  have hvd : v / g = if v < 0 then -((v.natAbs / g : Nat) : Int) else ((v.natAbs / g : Nat) : Int) := by
    obtain ⟨k, rfl⟩ := hd
    rw [Int.mul_ediv_cancel_left _ (by omega), Int.natAbs_mul, show (g : Int).natAbs = g from rfl, Nat.mul_div_cancel_left _ hg.1]
    by_cases hk : k < 0
    · rw [if_pos (Int.mul_neg_of_pos_of_neg (by omega) hk)]; omega
    · rw [if_neg (by have := Int.mul_nonneg (a := (g : Int)) (b := k) (by omega) (by omega); omega)]; omega
  generalize hQ : v.natAbs / g = Q at *
  rw [wd_of (v := (v.natAbs : Int)) (by omega) (by omega)] at k69
  rw [wd_of (v := (Q : Int)) (by omega) (by omega)] at k74
  have hwd := wd_of (v := (Q : Int)) (by omega) (by omega)
  rw [show (Q : Int) / 18446744073709551616 = ((Q / 18446744073709551616 : Nat) : Int) by omega, show (Q : Int) % 18446744073709551616 = ((Q % 18446744073709551616 : Nat) : Int) by omega, p1] at k74 hwd
  rw [show ((v.natAbs : Nat) : Int) / 18446744073709551616 = ((v.natAbs / 18446744073709551616 : Nat) : Int) by omega, show ((v.natAbs : Nat) : Int) % 18446744073709551616 = ((v.natAbs % 18446744073709551616 : Nat) : Int) by omega] at k69
  have e2 : ((v.natAbs / 18446744073709551616 : Nat) : Int) % (g : Int) = ((v.natAbs / 18446744073709551616 % g : Nat) : Int) := rfl
  have e3 : ((v.natAbs / 18446744073709551616 : Nat) : Int) / (g : Int) = ((v.natAbs / 18446744073709551616 / g : Nat) : Int) := rfl
  have m1 : v.natAbs / 18446744073709551616 < 18446744073709551616 := by omega
  rw [hvd]
  by_cases hneg : v < 0
  · rw [if_pos hneg]
    rw [decide_eq_true hneg] at k69
    generalize hW : wd v = W at *
    obtain ⟨w1, w2, rfl⟩ : ∃ w1 w2, W = [w1, w2] := ⟨_, _, hW.symm⟩
    clear hwd
    generalize hX : wd (-(Q : Int)) = X at *
    obtain ⟨x1, x2, rfl⟩ : ∃ w1 w2, X = [w1, w2] := ⟨_, _, hX.symm⟩
    generalize v.natAbs / 18446744073709551616 = mh at *
    generalize v.natAbs % 18446744073709551616 = ml at *
    repeat' (first | refine w_seq ?_ | refine w_seqN ?_ | refine w_seqR ?_ | refine w_ret ?_ | refine w_ops ?_ | refine w_opsD ?_ | refine d_one ?_ | refine d_nil ?_ | ((refine i_cond ?_); refine w_condT rfl ?_) | ((refine i_nil ?_); first | refine d_same ?_ | refine w_end1 rfl ?_ | refine w_end3 rfl rfl rfl ?_ | refine w_end4 rfl rfl rfl rfl ?_ | refine w_end5 rfl rfl rfl rfl rfl ?_) | ((refine i_cons ?_); first | (have z := e4; refine k_newst rfl ?_; intro h5 e5 c5; have d2_5 := d2_4.ext e5) | (have z := e3'; refine k_newst rfl ?_; intro h4 e4 c4; have d2_4 := d2_3.ext e4) | (have z := e1; refine k_newC ?_; intro h2 e2' c2; have d1 := c1.ext e2') | (refine k_boxC rfl ?_; intro h1 e1 c1) | refine k_ldC rfl d1 ?_ | (refine k_call rfl (k69 _) ?_; rintro r h3 ⟨e3', rfl⟩; have d2_3 := c2.ext e3') | refine k_ldC0 rfl c4 ?_ | refine k_ldC1 rfl c4 ?_ | (refine k_remU rfl rfl (by omega) ?_; rw [e2]) | (refine k_call rfl (k71 _) ?_; rintro r _ ⟨rfl, rfl⟩) | (refine k_quoU rfl rfl (by omega) ?_; rw [e3]) | (refine k_bld rfl rfl ?_) | refine k_ldC rfl c5 ?_ | (refine k_call rfl (k74 _) ?_; rintro r h6 ⟨e6, rfl⟩; have d2_6 := d2_5.ext e6) | (refine k_stC rfl rfl d2_6 ?_; intro h7 w7) | refine k_mv rfl ?_ | refine k_ok rfl rfl ?_))
    exact ⟨.inr rfl, oK_cell rfl w7.cel.read ⟨w7.ext (e1.trans (e2'.trans (e3'.trans (e4.trans (e5.trans e6))))) e1.len, rfl⟩⟩
  · rw [if_neg hneg]
    rw [decide_eq_false hneg] at k69
    generalize hW : wd v = W at *
    obtain ⟨w1, w2, rfl⟩ : ∃ w1 w2, W = [w1, w2] := ⟨_, _, hW.symm⟩
    rw [hwd]
    generalize v.natAbs / 18446744073709551616 = mh at *
    generalize v.natAbs % 18446744073709551616 = ml at *
    repeat' (first | refine w_seq ?_ | refine w_seqN ?_ | refine w_skip ?_ | refine w_ret ?_ | refine w_ops ?_ | refine w_opsD ?_ | refine d_one ?_ | refine d_nil ?_ | ((refine i_cond ?_); refine w_condF rfl ?_) | ((refine i_nil ?_); first | refine d_same ?_ | refine w_end1 rfl ?_ | refine w_end3 rfl rfl rfl ?_ | refine w_end4 rfl rfl rfl rfl ?_ | refine w_end5 rfl rfl rfl rfl rfl ?_) | ((refine i_cons ?_); first | (have z := e4; refine k_newst rfl ?_; intro h5 e5 c5; have d2_5 := d2_4.ext e5) | (have z := e3'; refine k_newst rfl ?_; intro h4 e4 c4; have d2_4 := d2_3.ext e4) | (have z := e1; refine k_newC ?_; intro h2 e2' c2; have d1 := c1.ext e2') | (refine k_boxC rfl ?_; intro h1 e1 c1) | refine k_ldC rfl d1 ?_ | (refine k_call rfl (k69 _) ?_; rintro r h3 ⟨e3', rfl⟩; have d2_3 := c2.ext e3') | refine k_ldC0 rfl c4 ?_ | refine k_ldC1 rfl c4 ?_ | (refine k_remU rfl rfl (by omega) ?_; rw [e2]) | (refine k_call rfl (k71 _) ?_; rintro r _ ⟨rfl, rfl⟩) | (refine k_quoU rfl rfl (by omega) ?_; rw [e3]) | (refine k_bld rfl rfl ?_) | refine k_ldC rfl c5 ?_ | (refine k_stC rfl rfl d2_5 ?_; intro h7 w7) | refine k_mv rfl ?_ | refine k_ok rfl rfl ?_))
    exact ⟨.inr rfl, oK_cell rfl w7.cel.read ⟨w7.ext (e1.trans (e2'.trans (e3'.trans (e4.trans e5)))) e1.len, rfl⟩⟩
end Go.Proofs.YtlnjddjobbhcaaaDoor


/- The value of the terms whose exponents are not negative: contracts. -/
namespace Go.Proofs.YtlnjddjobbhcaaaDoor
open Go.Ab
set_option linter.unusedVariables false
set_option linter.unusedSimpArgs false
set_option maxRecDepth 20000
set_option maxHeartbeats 4000000
attribute [local irreducible] wOps wA wSeq wBlk wRound wRoundI wOpsD wOpsS

/-- The terms' value, the exponents counted from a. -/
def pv (x a : Int) (l : List Tm) : Int := S (fun e => x ^ (e - a).toNat) l
/-- The same of the absolute values. -/
def pa (X : Nat) (a : Int) : List Tm → Nat
  | [] => 0
  | t :: r => t.2.natAbs * X ^ (t.1 - a).toNat + pa X a r
theorem pv_cons (x a : Int) (t : Tm) (r : List Tm) : pv x a (t :: r) = t.2 * x ^ (t.1 - a).toNat + pv x a r := rfl
theorem pv_app (x a : Int) (l r : List Tm) : pv x a (l ++ r) = pv x a l + pv x a r := S_app _ _ _
theorem pa_app (X : Nat) (a : Int) : ∀ (l r : List Tm), pa X a (l ++ r) = pa X a l + pa X a r
  | [], r => by simp [pa]
  | t :: l, r => by rw [List.cons_append, pa, pa, pa_app X a l r]; omega
theorem pv_abs (x a : Int) : ∀ l : List Tm, (pv x a l).natAbs ≤ pa x.natAbs a l
  | [] => by simp [pv, pa, S]
  | t :: r => by
    rw [pv_cons, pa]
    have h1 := pv_abs x a r
    have h2 : (t.2 * x ^ (t.1 - a).toNat).natAbs = t.2.natAbs * x.natAbs ^ (t.1 - a).toNat := by rw [Int.natAbs_mul, Int.natAbs_pow]
    omega
theorem pv_shift (x : Int) {a b : Int} (h : b ≤ a) : ∀ {l : List Tm}, (∀ t ∈ l, a ≤ t.1) → pv x b l = pv x a l * x ^ (a - b).toNat
  | [], _ => by simp [pv, S]
  | t :: r, hl => by
    rw [pv_cons, pv_cons, pv_shift x h (fun u hu => hl u (.tail _ hu)), Int.add_mul, Int.mul_assoc, ← Int.pow_add]
    have := hl t (.head _)
    rw [show (t.1 - a).toNat + (a - b).toNat = (t.1 - b).toNat by omega]
theorem pa_shift (X : Nat) {a b : Int} (h : b ≤ a) : ∀ {l : List Tm}, (∀ t ∈ l, a ≤ t.1) → pa X b l = pa X a l * X ^ (a - b).toNat
  | [], _ => by simp [pa]
  | t :: r, hl => by
    rw [pa, pa, pa_shift X h (fun u hu => hl u (.tail _ hu)), Nat.add_mul, Nat.mul_assoc, ← Nat.pow_add]
    have := hl t (.head _)
    rw [show (t.1 - a).toNat + (a - b).toNat = (t.1 - b).toNat by omega]
theorem pa_mono {X : Nat} (hX : 0 < X) {a b : Int} (h : b ≤ a) : ∀ {l : List Tm}, (∀ t ∈ l, a ≤ t.1) → pa X a l ≤ pa X b l := fun {l} hl => by
  rw [pa_shift X h hl]
  exact Nat.le_mul_of_pos_right _ (Nat.pow_pos hX)
section
variable {FT : FuncId → Option AFun} {HK : FuncId → Option Hook} {E : Env} {h : Heap} {K : Env → Heap → Prop} {d : Option Nat} {r : List AOp} {x : AO}
theorem k_box1 {v : SV} (hx : ev E x = some (.sc v)) (hw : ∀ h1, Ext h h1 → Cel1 h1 h.length v → wOps FT HK r (bindE d (some (.sc (.ptr h.length 0))) E) h1 K) :
    wOps FT HK (⟨d, .box x, none⟩ :: r) E h K :=
  op_ok (v := some (.sc (.ptr h.length 0))) (h' := h ++ [.cells [v] true 0]) rfl rfl (by simp [step1, hx, AV.cells]) (hw _ ⟨_, rfl⟩ (by simp [Cel1]))
theorem k_st1' {q : Nat} {a v : SV} {p : AO} (ha : evS E p = some (.ptr q 0)) (hx : ev E x = some (.sc v)) (hc : Cel1 h q a) (hw : ∀ h1 : Heap, h1 = h.set q (.cells [v] true 0) → Cel1 h1 q v → wOps FT HK r (bindE d none E) h1 K) :
    wOps FT HK (⟨d, .st 1 p x, none⟩ :: r) E h K := k_st1 ha hx hc hw
end
theorem Cel1.lt {h : Heap} {q : Nat} {a : SV} (c : Cel1 h q a) : q < h.length := (List.getElem?_eq_some_iff.1 c).1
theorem Cel1.set {h : Heap} {q p : Nat} {a : SV} (c : Cel1 h q a) (hn : p ≠ q) (b : Blk) : Cel1 (h.set p b) q a := by
  unfold Cel1 at *
  rw [List.getElem?_set_ne hn]; exact c
structure Up (h0 h : Heap) (q6 q7 q3 : Nat) (v at' x : Int) : Prop where
  e : Ext h0 h
  c6 : Cel1 h q6 (.int .i64 v)
  c7 : Cel1 h q7 (.int .i64 at')
  c3 : Cel1 h q3 (.int .i64 x)
  l6 : h0.length ≤ q6
  l7 : h0.length ≤ q7
  n67 : q6 ≠ q7
  n63 : q6 ≠ q3
  n73 : q7 ≠ q3
theorem Up.st6 {h0 h h1 : Heap} {q6 q7 q3 : Nat} {v a x v' : Int} (u : Up h0 h q6 q7 q3 v a x) (hh : h1 = h.set q6 (.cells [.int .i64 v'] true 0)) (c : Cel1 h1 q6 (.int .i64 v')) : Up h0 h1 q6 q7 q3 v' a x :=
  ⟨hh ▸ u.e.set u.l6 _, c, hh ▸ u.c7.set u.n67 _, hh ▸ u.c3.set u.n63 _, u.l6, u.l7, u.n67, u.n63, u.n73⟩
theorem Up.st7 {h0 h h1 : Heap} {q6 q7 q3 : Nat} {v a x a' : Int} (u : Up h0 h q6 q7 q3 v a x) (hh : h1 = h.set q7 (.cells [.int .i64 a'] true 0)) (c : Cel1 h1 q7 (.int .i64 a')) : Up h0 h1 q6 q7 q3 v a' x :=
  ⟨hh ▸ u.e.set u.l7 _, hh ▸ u.c6.set (Ne.symm u.n67) _, c, hh ▸ u.c3.set u.n73 _, u.l6, u.l7, u.n67, u.n63, u.n73⟩
def I97 (h0 : Heap) (q6 q7 q3 : Nat) (x tg V : Int) (E : Env) (h : Heap) : Prop := ∃ v a : Int, Up h0 h q6 q7 q3 v a x ∧ v * x ^ (a - tg).toNat = V ∧ a.natAbs ≤ eM ∧
  E.keep [0, 1, 2, 3] = [(0, some (.sc (.int .i64 tg))), (1, some (.sc (.ptr q6 0))), (2, some (.sc (.ptr q7 0))), (3, some (.sc (.ptr q3 0)))]
def R97 (h0 : Heap) (q6 q7 q3 : Nat) (x tg V : Int) (ex : Ex) (E : Env) (h : Heap) : Prop := ex = .ex 0 ∧ ∃ a : Int, Up h0 h q6 q7 q3 V a x ∧ ∃ b c d, E = [(0, some (.sc (.int .i64 tg))), (1, b), (2, some (.sc (.ptr q7 0))), (3, c), (14, d)]
def qA (q7 : Nat) (tg : Int) (_ : Env) (h : Heap) : Nat := match h[q7]? with | some (.cells [.int .i64 a] _ _) => (a - tg).toNat | _ => 0
theorem qA_of {q7 : Nat} {tg a : Int} {E : Env} {h : Heap} (c : Cel1 h q7 (.int .i64 a)) : qA q7 tg E h = (a - tg).toNat := by
  unfold qA
  unfold Cel1 at c
  rw [c]
theorem round97 (h0 : Heap) (q6 q7 q3 : Nat) (x tg V : Int) (hx : x ≠ 0 ∧ x.natAbs ≤ 1000000) (hV : V.natAbs ≤ 4503599627370496) (ht : tg.natAbs ≤ eM) (E : Env) (h : Heap) (hI : I97 h0 q6 q7 q3 x tg V E h) :
    wA FT HKt b97L0 (E.keep [0, 1, 2, 3]) h (wRound (I97 h0 q6 q7 q3 x tg V) (qA q7 tg) (qA q7 tg E h) (R97 h0 q6 q7 q3 x tg V)) := by
  obtain ⟨v, a, u, hv, ha, hE⟩ := hI
  rw [qA_of u.c7, hE]
  simp only [eM] at ha ht
  have u6 := u.c6.at
  have u7 := u.c7.at
  have u3 := u.c3.at
  by_cases hz : v = 0
  · subst hz
    rw [Int.zero_mul] at hv
    subst hv
    repeat' (first | refine w_seq ?_ | refine w_seqN ?_ | refine w_seqX ?_ | refine w_exit ?_ | refine w_ops ?_ | ((refine i_cond ?_); refine w_condF rfl ?_) | ((refine i_nil ?_); refine w_end5 rfl rfl rfl rfl rfl ?_) | ((refine i_cons ?_); first | refine k_ldb rfl u6 rfl ?_ | refine k_skip rfl ?_ | refine k_mv rfl ?_ | refine k_pickF rfl rfl ?_ | refine k_neqF rfl rfl (by omega) ?_))
    exact w_roundX ⟨rfl, a, u, _, _, _, rfl⟩
  by_cases hgt : tg < a
  · have hk : (a - tg).toNat = (a - 1 - tg).toNat + 1 := by omega
    have hv2 : v * x * x ^ (a - 1 - tg).toNat = V := by rw [← hv, hk, Int.pow_succ', Int.mul_assoc]
    have hab : (v * x).natAbs ≤ 4503599627370496 := by
      rw [← hv2, Int.natAbs_mul, Int.natAbs_pow] at hV
      exact Nat.le_trans (Nat.le_mul_of_pos_right _ (Nat.pow_pos (by omega))) hV
    have hvb : v.natAbs ≤ 4503599627370496 := by
      rw [Int.natAbs_mul] at hab
      exact Nat.le_trans (Nat.le_mul_of_pos_right _ (by omega)) hab
    have k70v := fun H => call70 H v (by omega)
    have k70x := fun H => call70 H x (by omega)
    have k73 := fun H => call73 H (v.natAbs : Int) (x.natAbs : Int) (by omega) (by omega)
    have hm : (v.natAbs : Int) * (x.natAbs : Int) = ((v * x).natAbs : Int) := by rw [Int.natAbs_mul]; rfl
    rw [hm] at k73
    generalize hP : v * x = P at *
    rw [show ((P.natAbs : Nat) : Int) / 18446744073709551616 = 0 by omega, show ((P.natAbs : Nat) : Int) % 18446744073709551616 = (P.natAbs : Int) by omega] at k73
    repeat' (first | refine w_seq ?_ | refine w_seqN ?_ | refine w_blk ?_ | refine w_blkN ?_ | refine w_skip ?_ | refine w_ops ?_ | refine w_opsD ?_ | refine d_one ?_ | refine d_nil ?_ | ((refine i_cond ?_); first | refine w_condT rfl ?_ | refine w_condF rfl ?_) | ((refine i_nil ?_); first | refine d_same ?_ | refine w_end4 rfl rfl rfl rfl ?_ | refine w_end5 rfl rfl rfl rfl rfl ?_ | refine w_end6 rfl rfl rfl rfl rfl rfl ?_) | ((refine i_cons ?_); first | refine k_ldb rfl u6 rfl ?_ | refine k_ldb rfl u7 rfl ?_ | refine k_ldb rfl u3 rfl ?_ | (refine k_call rfl (k70v _) ?_; rintro r _ ⟨rfl, rfl⟩) | (refine k_call rfl (k70x _) ?_; rintro r _ ⟨rfl, rfl⟩) | (refine k_call rfl (k73 _) ?_; rintro r _ ⟨rfl, rfl⟩) | (refine k_mul rfl rfl (by omega) ?_; rw [hP]) | (refine k_st1' rfl rfl u.c6 ?_; intro h6 w6 c6; have U6 := u.st6 w6 c6) | refine k_ldb rfl U6.c7.at rfl ?_ | (refine k_st1' rfl rfl U6.c7 ?_; intro h7 w7 c7; have U7 := U6.st7 w7 c7) | refine k_want rfl ?_ | refine k_mv rfl ?_ | refine k_pickT rfl rfl ?_ | refine k_pickF rfl rfl ?_ | refine k_sub rfl rfl (by omega) ?_ | refine k_gtrT rfl rfl (by omega) ?_ | refine k_gtrF rfl rfl (by omega) ?_ | refine k_neqT rfl rfl (by omega) ?_ | refine k_neqF rfl rfl (by omega) ?_ | refine k_ok rfl rfl ?_))
    exact w_roundN ⟨P, a - 1, U7, hv2, by simp only [eM]; omega, rfl⟩ (by rw [qA_of U7.c7]; omega)
  · rw [show (a - tg).toNat = 0 by omega, Int.pow_zero, Int.mul_one] at hv
    subst hv
    repeat' (first | refine w_seq ?_ | refine w_seqN ?_ | refine w_seqX ?_ | refine w_exit ?_ | refine w_ops ?_ | ((refine i_cond ?_); refine w_condF rfl ?_) | ((refine i_nil ?_); refine w_end5 rfl rfl rfl rfl rfl ?_) | ((refine i_cons ?_); first | refine k_ldb rfl u6 rfl ?_ | refine k_ldb rfl u7 rfl ?_ | refine k_want rfl ?_ | refine k_mv rfl ?_ | refine k_pickT rfl rfl ?_ | refine k_gtrF rfl rfl (by omega) ?_ | refine k_neqT rfl rfl (by omega) ?_))
    exact w_roundX ⟨rfl, a, u, _, _, _, rfl⟩
theorem call97 (h0 h : Heap) (q6 q7 q3 : Nat) (v a x tg : Int) (hx : x ≠ 0 ∧ x.natAbs ≤ 1000000) (hV : (v * x ^ (a - tg).toNat).natAbs ≤ 4503599627370496) (ht : tg.natAbs ≤ eM) (ha : a.natAbs ≤ eM) (u : Up h0 h q6 q7 q3 v a x) :
    ∃ r h', Cal FT HKt 97 [.sc (.int .i64 tg), .sc (.ptr q6 0), .sc (.ptr q7 0), .sc (.ptr q3 0)] h r h' ∧ Up h0 h' q6 q7 q3 (v * x ^ (a - tg).toNat) tg x ∧ r = .sc (.bool true) := by
  refine Cal.of (F := a97) rfl rfl rfl ?_
  repeat' (first | refine w_seq ?_ | refine w_seqN ?_ | refine w_blk ?_ | refine w_ops ?_ | ((refine i_nil ?_); refine w_end4 rfl rfl rfl rfl ?_) | ((refine i_cons ?_); refine k_mv rfl ?_))
  refine w_loop (I97 h0 q6 q7 q3 x tg _) (qA q7 tg) (R97 h0 q6 q7 q3 x tg _) ⟨v, a, u, rfl, ha, rfl⟩ (round97 h0 q6 q7 q3 x tg _ hx hV ht) ?_
  rintro ex E' h2 ⟨rfl, a2, u2, _, _, _, rfl⟩
  repeat' (first | refine w_seq ?_ | refine w_seqN ?_ | refine w_blkX ?_ | refine w_ret ?_ | refine w_ops ?_ | ((refine i_nil ?_); first | refine w_end0 ?_ | refine w_end1 rfl ?_) | ((refine i_cons ?_); first | (refine k_st1' rfl rfl u2.c7 ?_; intro h7 w7 c7; have U7 := u2.st7 w7 c7) | refine k_mv rfl ?_))
  exact ⟨.inr rfl, U7, rfl⟩
/-- From the last term to the first. -/
def I85 (h0 : Heap) (q6 q7 q3 : Nat) (x : Int) (s : SV) (ts : List Tm) (E : Env) (h : Heap) : Prop := ∃ (i : Nat) (a : Int), i ≤ ts.length ∧ Up h0 h q6 q7 q3 (pv x a (ts.drop i)) a x ∧ (∀ t ∈ ts.drop i, a ≤ t.1) ∧ (ts.drop i = [] ∨ ∀ t ∈ ts.take i, t.1 ≤ a) ∧ 0 ≤ a ∧ a.natAbs ≤ eM ∧
  E.keep [0, 6, 8, 9] = [(0, some (.sc s)), (6, some (.sc (.ptr q6 0))), (8, some (.sc (.fn 97 [(q6, 0), (q7, 0), (q3, 0)]))), (9, some (.sc (.int .i64 ((i : Nat) - 1))))]
def R85 (h0 : Heap) (q6 q7 q3 : Nat) (x : Int) (ts : List Tm) (ex : Ex) (E : Env) (h : Heap) : Prop := ex = .ex 0 ∧ ∃ a : Int, Up h0 h q6 q7 q3 (pv x a ts) a x ∧ (∀ t ∈ ts, a ≤ t.1) ∧ 0 ≤ a ∧ a.natAbs ≤ eM ∧ ∃ b c d, E = [(0, b), (6, some (.sc (.ptr q6 0))), (8, some (.sc (.fn 97 [(q6, 0), (q7, 0), (q3, 0)]))), (9, c), (15, d)]
def qI (E : Env) (_ : Heap) : Nat := match (E.keep [0, 6, 8, 9]).get 9 with | some (.sc (.int .i64 n)) => (n + 1).toNat | _ => 0
theorem drop_cons' {ts : List Tm} {i : Nat} {t : Tm} (h : ts[i]? = some t) : ts.drop i = t :: ts.drop (i + 1) := by
  obtain ⟨hi, rfl⟩ := List.getElem?_eq_some_iff.1 h
  exact List.drop_eq_getElem_cons hi
theorem pa_drop (X : Nat) (a : Int) (ts : List Tm) (i : Nat) : pa X a (ts.drop i) ≤ pa X a ts := by
  have := pa_app X a (ts.take i) (ts.drop i)
  rw [List.take_append_drop] at this; omega
theorem can_le {ts : List Tm} (hc : Can ts) {i : Nat} {t : Tm} (h : ts[i]? = some t) : ∀ u ∈ ts.drop (i + 1), t.1 < u.1 := fun u hu => by
  have := hc.asc.sublist (List.drop_sublist i ts)
  rw [drop_cons' h] at this
  exact (List.pairwise_cons.1 this).1 u hu
theorem round85 (h0 : Heap) (q6 q7 q3 : Nat) (x : Int) (s : SV) (ts : List Tm) (hs : IsD h0 s (tms ts)) (hc : Can ts) (hx : x ≠ 0 ∧ x.natAbs ≤ 1000000) (he : ∀ t ∈ ts, 0 ≤ t.1 ∧ t.1.natAbs ≤ eM) (hB : pa x.natAbs 0 ts ≤ 4503599627370496) (hl : ts.length ≤ 3000000) (E : Env) (h : Heap) (hI : I85 h0 q6 q7 q3 x s ts E h) :
    wA FT HKt b85L0 (E.keep [0, 6, 8, 9]) h (wRound (I85 h0 q6 q7 q3 x s ts) qI (qI E h) (R85 h0 q6 q7 q3 x ts)) := by
  obtain ⟨i, a, hi, u, hal, hnx, ha0, hae, hE⟩ := hI
  have hm : qI E h = i := by unfold qI; rw [hE]; show ((i : Int) - 1 + 1).toNat = i; omega
  rw [hm, hE]
  have hX : 0 < x.natAbs := by omega
  cases i with
  | zero =>
    rw [List.drop_zero] at u hal
    repeat' (first | refine w_seq ?_ | refine w_seqN ?_ | refine w_seqX ?_ | refine w_exit ?_ | refine w_ops ?_ | ((refine i_cond ?_); refine w_condF rfl ?_) | ((refine i_nil ?_); refine w_end5 rfl rfl rfl rfl rfl ?_) | ((refine i_cons ?_); first | refine k_mv rfl ?_ | refine k_geqF rfl rfl (by omega) ?_))
    exact w_roundX ⟨rfl, a, u, hal, ha0, hae, _, _, _, rfl⟩
  | succ i =>
    rw [show (((i + 1 : Nat) : Int) - 1) = ((i : Nat) : Int) by omega]
    obtain ⟨t, ht⟩ : ∃ t, ts[i]? = some t := ⟨_, List.getElem?_eq_getElem (by omega)⟩
    have htm := List.mem_of_getElem? ht
    obtain ⟨t0, te⟩ := he t htm
    have hlt := can_le hc ht
    obtain ⟨id, off, cap, e1, r0⟩ := hs.at (i := i) (p := tmP t) (by simp [ht])
    rw [tms_len] at e1
    subst e1
    have hpv : pv x a (ts.drop (i + 1)) * x ^ (a - t.1).toNat = pv x t.1 (ts.drop (i + 1)) := by
      by_cases hge : t.1 ≤ a
      · exact (pv_shift x hge hal).symm
      · have hnil : ts.drop (i + 1) = [] := hnx.resolve_right fun hn => hge (hn t (by rw [List.take_add_one, ht]; simp))
        rw [hnil]; simp [pv, S]
    have hb1 : (pv x t.1 (ts.drop (i + 1))).natAbs ≤ 4503599627370496 := by
      have h1 := pv_abs x t.1 (ts.drop (i + 1))
      have h2 := pa_mono hX t0 (l := ts.drop (i + 1)) (fun u hu => by have := hlt u hu; omega)
      have h3 := pa_drop x.natAbs 0 ts (i + 1)
      omega
    have k97 := call97 h0 h q6 q7 q3 _ a x t.1 hx (by rw [hpv]; exact hb1) te hae u
    rw [hpv] at k97
    have rb1 := fun H (e : Ext h0 H) => readN_ext e (rd1 r0).1
    have rb2 := fun H (e : Ext h0 H) => readN_ext e (rd1 r0).2
    have hb2 : (pv x t.1 (ts.drop (i + 1)) + t.2).natAbs ≤ 4503599627370496 := by
      have h1 := pv_abs x t.1 (ts.drop i)
      have h2 := pa_mono hX t0 (l := ts.drop i) (fun u hu => by
        rw [drop_cons' ht] at hu
        rcases List.mem_cons.1 hu with rfl | hu
        · omega
        · have := hlt u hu; omega)
      have h3 := pa_drop x.natAbs 0 ts i
      rw [drop_cons' ht, pv_cons, show (t.1 - t.1).toNat = 0 by omega, Int.pow_zero, Int.mul_one] at h1
      rw [drop_cons' ht] at h2 h3
      omega
    have hnew : pv x t.1 (ts.drop (i + 1)) + t.2 = pv x t.1 (ts.drop i) := by
      rw [drop_cons' ht, pv_cons, show (t.1 - t.1).toNat = 0 by omega, Int.pow_zero, Int.mul_one]; omega
    repeat' (first | refine w_seq ?_ | refine w_seqN ?_ | refine w_blk ?_ | refine w_blkN ?_ | refine w_skip ?_ | refine w_ops ?_ | refine w_opsD ?_ | refine d_one ?_ | refine d_nil ?_ | ((refine i_cond ?_); first | refine w_condT rfl ?_ | refine w_condF rfl ?_) | ((refine i_nil ?_); first | refine d_same ?_ | refine d_ord ?_ | refine w_end4 rfl rfl rfl rfl ?_ | refine w_end5 rfl rfl rfl rfl rfl ?_) | ((refine i_cons ?_); first | refine k_idxA (esz := 2) rfl rfl (by omega) ?_ | refine k_fldA rfl ?_ | refine k_ld rfl (rb1 _ u.e) ?_ | (refine k_callvC rfl rfl k97 ?_; rintro r h2 ⟨u2, rfl⟩) | refine k_ldb rfl u2.c6.at rfl ?_ | refine k_ld rfl (rb2 _ u2.e) ?_ | (refine k_add rfl rfl (by omega) ?_; rw [hnew]) | (refine k_st1' rfl rfl u2.c6 ?_; intro h6 w6 c6; have U6 := u2.st6 w6 c6) | refine k_mv rfl ?_ | refine k_notT rfl ?_ | refine k_sub rfl rfl (by omega) ?_ | refine k_geqT rfl rfl (by omega) ?_))
    refine w_roundN ⟨i, t.1, by omega, U6, fun u hu => ?_, .inr fun u hu => ?_, t0, te, rfl⟩ (by unfold qI; show ((i : Int) - 1 + 1).toNat < i + 1; omega)
    · rw [drop_cons' ht] at hu
      rcases List.mem_cons.1 hu with rfl | hu
      · exact Int.le_refl _
      · have := hlt u hu; omega
    · obtain ⟨k, hk, rfl⟩ := List.getElem_of_mem hu
      obtain ⟨hi2, rfl⟩ := List.getElem?_eq_some_iff.1 ht
      rw [List.length_take] at hk
      have := (List.pairwise_iff_getElem.1 hc.asc) k i (by omega) hi2 (by omega)
      rw [List.getElem_take]; omega
theorem call85 (h0 : Heap) (s : SV) (ts : List Tm) (x : Int) (hs : IsD h0 s (tms ts)) (hc : Can ts) (hx : x ≠ 0 ∧ x.natAbs ≤ 1000000) (he : ∀ t ∈ ts, 0 ≤ t.1 ∧ t.1.natAbs ≤ eM) (hB : pa x.natAbs 0 ts ≤ 4503599627370496) (hl : ts.length ≤ 3000000) :
    ∃ r h', Cal FT HKt 85 [.sc s, .sc (.int .i64 x)] h0 r h' ∧ Ext h0 h' ∧ r = .tup [.sc (.int .i64 (pv x 0 ts)), .sc (.bool true)] := by
  refine Cal.of (F := a85) rfl rfl rfl ?_
  have ls := hs.len
  rw [tms_len] at ls
  have hX : 0 < x.natAbs := by omega
  repeat' (first | refine w_seq ?_ | refine w_seqN ?_ | refine w_blk ?_ | refine w_ops ?_ | ((refine i_nil ?_); first | refine w_end2 rfl rfl ?_ | refine w_end3 rfl rfl rfl ?_ | refine w_end4 rfl rfl rfl rfl ?_) | ((refine i_cons ?_); first | (have z := e2; refine k_new1 ?_; intro h3 e3 c7; have c3_3 := c3.ext (e2.trans e3); have c6_3 : Cel1 h3 h1.length (.int .i64 0) := Cel1.ext c6 e3; have u3 : Up h0 h3 h1.length h2.length h0.length 0 0 x := ⟨e1.trans (e2.trans e3), c6_3, c7, c3_3, e1.len, Nat.le_trans e1.len e2.len, by have := Cel1.lt c6; omega, by have := c3.lt; omega, by have := c3.lt; have := e2.len; omega⟩) | (have z := e1; refine k_new1 ?_; intro h2 e2 c6) | (refine k_box1 rfl ?_; intro h1 e1 c3) | (refine k_st1' rfl rfl u3.c6 ?_; intro h4 w4 c6'; have u4 := u3.st6 w4 c6') | (refine k_st1' rfl rfl u4.c7 ?_; intro h5 w5 c7'; have u5 := u4.st7 w5 c7') | refine k_len rfl ls ?_ | refine k_mv rfl ?_ | refine k_sub rfl rfl (by omega) ?_ | refine k_ok rfl rfl ?_))
  have hpv0 : pv x 0 (ts.drop ts.length) = 0 := by rw [List.drop_length]; rfl
  have u5' : Up h0 h5 h1.length h2.length h0.length (pv x 0 (ts.drop ts.length)) 0 x := by rw [hpv0]; exact u5
  refine w_loop (I85 h0 h1.length h2.length h0.length x s ts) qI (R85 h0 h1.length h2.length h0.length x ts) ⟨ts.length, 0, Nat.le_refl _, u5', by rw [List.drop_length]; simp, .inl (by rw [List.drop_length]), by omega, by simp [eM], rfl⟩ (round85 h0 h1.length h2.length h0.length x s ts hs hc hx he hB hl) ?_
  rintro ex E' h6 ⟨rfl, a, u6, hal, ha0, hae, _, _, _, rfl⟩
  have hsh := pv_shift x ha0 hal
  have k97 := call97 h0 h6 h1.length h2.length h0.length _ a x 0 hx (by rw [← hsh]; exact Nat.le_trans (pv_abs x 0 ts) hB) (by simp [eM]) hae u6
  rw [← hsh] at k97
  repeat' (first | refine w_seq ?_ | refine w_seqN ?_ | refine w_blkX ?_ | refine w_skip ?_ | refine w_ret ?_ | refine w_ops ?_ | ((refine i_cond ?_); refine w_condF rfl ?_) | ((refine i_nil ?_); refine w_end2 rfl rfl ?_) | ((refine i_cons ?_); first | (refine k_callvC rfl rfl k97 ?_; rintro r h7 ⟨u7, rfl⟩) | refine k_ldb rfl u7.c6.at rfl ?_ | refine k_mv rfl ?_ | refine k_notT rfl ?_))
  exact ⟨.inr rfl, u7.e, rfl⟩
end Go.Proofs.YtlnjddjobbhcaaaDoor


/- The value of the terms whose exponents are negative: contracts. -/
namespace Go.Proofs.YtlnjddjobbhcaaaDoor
open Go.Ab
set_option linter.unusedVariables false
set_option linter.unusedSimpArgs false
set_option maxRecDepth 20000
set_option maxHeartbeats 4000000
attribute [local irreducible] wOps wA wSeq wBlk wRound wRoundI wOpsD wOpsS

/-- n over d is T, counted from the exponent a0, at the exponent a; in lowest terms. -/
structure Fr (x a0 T : Int) (C : Nat) (n a : Int) (d : Nat) : Prop where
  eq : n * x ^ (a - a0).toNat = d * T
  cop : Nat.gcd n.natAbs d = 1
  d1 : 1 ≤ d
  dX : d ≤ x.natAbs ^ (a - a0).toNat
  tb : T.natAbs ≤ C * x.natAbs ^ (a - a0).toNat
  ge : a0 ≤ a
theorem Fr.bound {x a0 T : Int} {C : Nat} {n a : Int} {d : Nat} (f : Fr x a0 T C n a d) (hx : 0 < x.natAbs) : n.natAbs ≤ d * C := by
  have h1 := congrArg Int.natAbs f.eq
  rw [Int.natAbs_mul, Int.natAbs_mul, Int.natAbs_pow, show ((d : Nat) : Int).natAbs = d from rfl] at h1
  have h2 := Nat.mul_le_mul_left d f.tb
  rw [← h1, ← Nat.mul_assoc] at h2
  exact Nat.le_of_mul_le_mul_right h2 (Nat.pow_pos hx)
theorem Fr.zero {x a0 T : Int} {C : Nat} {a : Int} {d : Nat} (f : Fr x a0 T C 0 a d) {b : Int} (hb : a0 ≤ b) (hx : 0 < x.natAbs) : Fr x a0 T C 0 b d := by
  have h1 := f.eq
  have h2 := f.d1
  rw [Int.zero_mul] at h1
  have hT : T = 0 := by
    rcases Int.mul_eq_zero.1 h1.symm with h | h
    · omega
    · exact h
  have h3 : d = 1 := by have := f.cop; simpa using this
  subst hT h3
  exact ⟨by simp, by simp, Nat.le_refl _, Nat.pow_pos hx, by simp, hb⟩
theorem Fr.step {x a0 T : Int} {C : Nat} {n a : Int} {d : Nat} (f : Fr x a0 T C n a d) (hx : 0 < x.natAbs) : Fr x a0 T C (if x < 0 then -(n / (Nat.gcd n.natAbs x.natAbs : Nat)) else n / (Nat.gcd n.natAbs x.natAbs : Nat)) (a + 1) (d * (x.natAbs / Nat.gcd n.natAbs x.natAbs)) := by
  have hg : 0 < Nat.gcd n.natAbs x.natAbs := Nat.gcd_pos_of_pos_right _ hx
  have hgn : ((Nat.gcd n.natAbs x.natAbs : Nat) : Int) ∣ n := Int.ofNat_dvd_left.2 (Nat.gcd_dvd_left _ _)
  have hgx : Nat.gcd n.natAbs x.natAbs ∣ x.natAbs := Nat.gcd_dvd_right _ _
  have hk : (a + 1 - a0).toNat = (a - a0).toNat + 1 := by have := f.ge; omega
  have hcop := Nat.coprime_div_gcd_div_gcd hg
  have hn2 : ∀ m : Int, (if x < 0 then -m else m).natAbs = m.natAbs := fun m => by split <;> simp
  have hd1 : 1 ≤ x.natAbs / Nat.gcd n.natAbs x.natAbs := Nat.div_pos (Nat.le_of_dvd hx hgx) hg
  have hna : (n / ((Nat.gcd n.natAbs x.natAbs : Nat) : Int)).natAbs = n.natAbs / Nat.gcd n.natAbs x.natAbs := by
    obtain ⟨m, hm⟩ := hgn
    have h1 : n.natAbs = Nat.gcd n.natAbs x.natAbs * m.natAbs := by
      have := congrArg Int.natAbs hm
      rwa [Int.natAbs_mul] at this
    have h2 : n / ((Nat.gcd n.natAbs x.natAbs : Nat) : Int) = m := Int.ediv_eq_of_eq_mul_right (by omega) hm
    rw [h2]
    exact (Nat.div_eq_of_eq_mul_right hg h1).symm
  refine ⟨?_, ?_, ?_, ?_, ?_, by have := f.ge; omega⟩
  · rw [hk, Int.pow_succ']
    have h1 := f.eq
    have hsx : ∀ m : Int, (if x < 0 then -m else m) * x = m * x.natAbs := fun m => by
      split
      · rw [show (x.natAbs : Int) = -x by omega, Int.neg_mul, Int.mul_neg]
      · rw [show (x.natAbs : Int) = x by omega]
    rw [← Int.mul_assoc, hsx]
    have hn3 := Int.ediv_mul_cancel hgn
    have hx3 : ((Nat.gcd n.natAbs x.natAbs : Nat) : Int) * ((x.natAbs / Nat.gcd n.natAbs x.natAbs : Nat) : Int) = x.natAbs := by
      have := Nat.mul_div_cancel' hgx
      exact_mod_cast this
    generalize n / ((Nat.gcd n.natAbs x.natAbs : Nat) : Int) = m at *
    generalize x.natAbs / Nat.gcd n.natAbs x.natAbs = y at *
    generalize Nat.gcd n.natAbs x.natAbs = g at *
    rw [← hx3, ← Int.mul_assoc, hn3, Int.mul_right_comm, h1]
    push_cast
    rw [Int.mul_right_comm]
  · rw [hn2, hna]
    have h1 : Nat.Coprime (n.natAbs / Nat.gcd n.natAbs x.natAbs) d := by
      have : Nat.Coprime n.natAbs d := f.cop
      exact Nat.Coprime.coprime_dvd_left (Nat.div_dvd_of_dvd (Nat.gcd_dvd_left _ _)) this
    exact Nat.Coprime.mul_right h1 hcop
  · exact Nat.mul_pos f.d1 hd1
  · rw [hk, Nat.pow_succ]
    exact Nat.mul_le_mul f.dX (Nat.div_le_self _ _)
  · rw [hk, Nat.pow_succ, ← Nat.mul_assoc]
    exact Nat.le_trans f.tb (Nat.le_mul_of_pos_right _ hx)
theorem Fr.add {x a0 T : Int} {C : Nat} {n a : Int} {d : Nat} (f : Fr x a0 T C n a d) (c : Int) : Fr x a0 (T + c * x ^ (a - a0).toNat) (C + c.natAbs) (n + c * d) a d := by
  refine ⟨?_, ?_, f.d1, f.dX, ?_, f.ge⟩
  · rw [Int.add_mul, f.eq, Int.mul_add, Int.mul_right_comm, Int.mul_comm _ (d : Int)]
  · have h1 : Int.gcd (n + c * d) d = Int.gcd n d := by
      rw [Int.gcd_comm, Int.gcd_comm n, Int.mul_comm]
      exact Int.gcd_add_mul_left_right d n c
    exact h1.trans f.cop
  · have h1 := f.tb
    have h2 := Int.natAbs_add_le T (c * x ^ (a - a0).toNat)
    rw [Int.natAbs_mul, Int.natAbs_pow] at h2
    rw [Nat.add_mul]; omega
end Go.Proofs.YtlnjddjobbhcaaaDoor


/- The value of the terms whose exponents are negative: the walk. -/
namespace Go.Proofs.YtlnjddjobbhcaaaDoor
open Go.Ab
set_option linter.unusedVariables false
set_option linter.unusedSimpArgs false
set_option maxRecDepth 20000
set_option maxHeartbeats 4000000
attribute [local irreducible] wOps wA wSeq wBlk wRound wRoundI wOpsD wOpsS

structure Lw (h0 hb h : Heap) (q3 q4 q7 q8 q9 : Nat) (n a x : Int) (d : Nat) : Prop where
  e : Ext h0 h
  c3 : Cel1 h q3 (.int .i64 x)
  c4 : Cel h q4 (.int .u64 0) (.int .u64 0)
  c7 : Cel h q7 (wdP n).1 (wdP n).2
  c8 : Cel1 h q8 (.int .i64 (d : Nat))
  c9 : Cel1 h q9 (.int .i64 a)
  ord : h0.length ≤ q3 ∧ q3 < q4 ∧ q4 < q7 ∧ q7 < q8 ∧ q8 < q9
  k : ∀ (j : Nat) (b : Blk), hb[j]? = some b → j ≠ q7 → j ≠ q8 → j ≠ q9 → h[j]? = some b
theorem Lw.ext {h0 hb h h' : Heap} {q3 q4 q7 q8 q9 : Nat} {n a x : Int} {d : Nat} (u : Lw h0 hb h q3 q4 q7 q8 q9 n a x d) (e : Ext h h') : Lw h0 hb h' q3 q4 q7 q8 q9 n a x d :=
  ⟨u.e.trans e, u.c3.ext e, u.c4.ext e, u.c7.ext e, u.c8.ext e, u.c9.ext e, u.ord, fun j b h1 h2 h3 h4 => e.get _ _ (u.k j b h1 h2 h3 h4)⟩
theorem cel_set {h : Heap} {q p : Nat} {a b : SV} (c : Cel h q a b) (hn : p ≠ q) (x : Blk) : Cel (h.set p x) q a b := by
  unfold Cel at *
  rw [List.getElem?_set_ne hn]; exact c
theorem Cel1.wr {h h1 : Heap} {q p : Nat} {a x y : SV} (c : Cel1 h q a) (w : Wr h h1 p x y) (hn : p ≠ q) : Cel1 h1 q a := by
  rw [w.eq]; exact c.set hn _
theorem Lw.st7 {h0 hb h h1 : Heap} {q3 q4 q7 q8 q9 : Nat} {n a x : Int} {d : Nat} {m : Int} (u : Lw h0 hb h q3 q4 q7 q8 q9 n a x d) (w : Wr h h1 q7 (wdP m).1 (wdP m).2) : Lw h0 hb h1 q3 q4 q7 q8 q9 m a x d := by
  have o := u.ord
  exact ⟨w.ext u.e (by omega), u.c3.wr w (by omega), w.keep u.c4 (by omega), w.cel, u.c8.wr w (by omega), u.c9.wr w (by omega), o, fun j b h1 h2 h3 h4 => by rw [w.eq, List.getElem?_set_ne (Ne.symm h2)]; exact u.k j b h1 h2 h3 h4⟩
theorem Lw.st8 {h0 hb h h1 : Heap} {q3 q4 q7 q8 q9 : Nat} {n a x : Int} {d d' : Nat} (u : Lw h0 hb h q3 q4 q7 q8 q9 n a x d) (hh : h1 = h.set q8 (.cells [.int .i64 (d' : Nat)] true 0)) (c : Cel1 h1 q8 (.int .i64 (d' : Nat))) : Lw h0 hb h1 q3 q4 q7 q8 q9 n a x d' := by
  have o := u.ord
  subst hh
  exact ⟨u.e.set (by omega) _, u.c3.set (by omega) _, cel_set u.c4 (by omega) _, cel_set u.c7 (by omega) _, c, u.c9.set (by omega) _, o, fun j b h1 h2 h3 h4 => by rw [List.getElem?_set_ne (Ne.symm h3)]; exact u.k j b h1 h2 h3 h4⟩
theorem Lw.st9 {h0 hb h h1 : Heap} {q3 q4 q7 q8 q9 : Nat} {n a x a' : Int} {d : Nat} (u : Lw h0 hb h q3 q4 q7 q8 q9 n a x d) (hh : h1 = h.set q9 (.cells [.int .i64 a'] true 0)) (c : Cel1 h1 q9 (.int .i64 a')) : Lw h0 hb h1 q3 q4 q7 q8 q9 n a' x d := by
  have o := u.ord
  subst hh
  exact ⟨u.e.set (by omega) _, u.c3.set (by omega) _, cel_set u.c4 (by omega) _, cel_set u.c7 (by omega) _, u.c8.set (by omega) _, c, o, fun j b h1 h2 h3 h4 => by rw [List.getElem?_set_ne (Ne.symm h4)]; exact u.k j b h1 h2 h3 h4⟩
def I98 (h0 hb : Heap) (q3 q4 q7 q8 q9 : Nat) (x a0 T : Int) (C : Nat) (tg : Int) (E : Env) (h : Heap) : Prop := ∃ (n a : Int) (d : Nat), Lw h0 hb h q3 q4 q7 q8 q9 n a x d ∧ Fr x a0 T C n a d ∧ (a ≤ tg ∨ n = 0) ∧ a.natAbs ≤ eM ∧
  E.keep [0, 1, 2, 3, 4] = [(0, some (.sc (.int .i64 tg))), (1, some (.sc (.ptr q7 0))), (2, some (.sc (.ptr q9 0))), (3, some (.sc (.ptr q3 0))), (4, some (.sc (.ptr q8 0)))]
def R98 (h0 hb : Heap) (q3 q4 q7 q8 q9 : Nat) (x a0 T : Int) (C : Nat) (tg : Int) (ex : Ex) (E : Env) (h : Heap) : Prop := ex = .ex 0 ∧ ∃ (n a : Int) (d : Nat), Lw h0 hb h q3 q4 q7 q8 q9 n a x d ∧ Fr x a0 T C n a d ∧ (a = tg ∨ n = 0) ∧
  ∃ p q r s, E = [(0, some (.sc (.int .i64 tg))), (1, p), (2, some (.sc (.ptr q9 0))), (3, q), (4, r), (17, s)]
def qF (q9 : Nat) (tg : Int) (_ : Env) (h : Heap) : Nat := match h[q9]? with | some (.cells [.int .i64 a] _ _) => (tg - a).toNat | _ => 0
theorem qF_of {q9 : Nat} {tg a : Int} {E : Env} {h : Heap} (c : Cel1 h q9 (.int .i64 a)) : qF q9 tg E h = (tg - a).toNat := by
  unfold qF
  unfold Cel1 at c
  rw [c]
theorem round98 (h0 hb : Heap) (q3 q4 q7 q8 q9 : Nat) (x a0 T : Int) (C : Nat) (tg : Int) (hx : x ≠ 0 ∧ x.natAbs ≤ 1000000) (ht : tg ≤ 0 ∧ tg.natAbs ≤ eM) (hC : C ≤ 1152921504606846976) (hX : x.natAbs ^ (0 - a0).toNat ≤ 1125899906842624) (E : Env) (h : Heap) (hI : I98 h0 hb q3 q4 q7 q8 q9 x a0 T C tg E h) :
    wA FT HKt b98L0 (E.keep [0, 1, 2, 3, 4]) h (wRound (I98 h0 hb q3 q4 q7 q8 q9 x a0 T C tg) (qF q9 tg) (qF q9 tg E h) (R98 h0 hb q3 q4 q7 q8 q9 x a0 T C tg)) := by
  obtain ⟨n, a, d, u, f, hor, hae, hE⟩ := hI
  rw [qF_of u.c9, hE]
  simp only [eM] at hae ht
  have hX0 : 0 < x.natAbs := by omega
  have hdM : a ≤ 0 → d ≤ 1125899906842624 := fun h => Nat.le_trans f.dX (Nat.le_trans (Nat.pow_le_pow_right hX0 (by omega)) hX)
  have hnb := f.bound hX0
  by_cases hz : n = 0
  · subst hz
    have k38 := fun H => call38 H 0 (by omega)
    rw [decide_eq_true rfl] at k38
    simp only [wd_P] at k38
    have c7 := u.c7
    repeat' (first | refine w_seq ?_ | refine w_seqN ?_ | refine w_seqX ?_ | refine w_exit ?_ | refine w_ops ?_ | ((refine i_cond ?_); refine w_condF rfl ?_) | ((refine i_nil ?_); refine w_end6 rfl rfl rfl rfl rfl rfl ?_) | ((refine i_cons ?_); first | refine k_ldC rfl c7 ?_ | (refine k_call rfl (k38 _) ?_; rintro r h2 ⟨e2, rfl⟩) | refine k_skip rfl ?_ | refine k_mv rfl ?_ | refine k_pickF rfl rfl ?_ | refine k_notT rfl ?_))
    exact w_roundX ⟨rfl, 0, a, d, u.ext e2, f, .inr rfl, _, _, _, _, rfl⟩
  have hat : a ≤ tg := hor.resolve_right hz
  have hdM := hdM (by omega)
  have hnb2 : n.natAbs ≤ 1125899906842624 * 1152921504606846976 := Nat.le_trans hnb (Nat.mul_le_mul hdM hC)
  have k38 := fun H => call38 H n (by omega)
  rw [decide_eq_false hz] at k38
  simp only [wd_P] at k38
  have c7 := u.c7
  by_cases hlt : a < tg
  · have F := f.step hX0
    have hg : 0 < Nat.gcd n.natAbs x.natAbs := Nat.gcd_pos_of_pos_right _ hX0
    have hgle : Nat.gcd n.natAbs x.natAbs ≤ x.natAbs := Nat.le_of_dvd hX0 (Nat.gcd_dvd_right _ _)
    have hgn : ((Nat.gcd n.natAbs x.natAbs : Nat) : Int) ∣ n := Int.ofNat_dvd_left.2 (Nat.gcd_dvd_left _ _)
    have k70 := fun H => call70 H x (by omega)
    have k99 := fun H => call99 H n x.natAbs (by omega) (by omega)
    have k100 := fun H => call100 H n (Nat.gcd n.natAbs x.natAbs) (by omega) (by omega) hgn
    have k74 := fun H => call74 H (n / ((Nat.gcd n.natAbs x.natAbs : Nat) : Int))
    have hD1 : d * (x.natAbs / Nat.gcd n.natAbs x.natAbs) ≤ 1125899906842624 := Nat.le_trans F.dX (Nat.le_trans (Nat.pow_le_pow_right hX0 (by omega)) hX)
    have hq : (x.natAbs : Int) / ((Nat.gcd n.natAbs x.natAbs : Nat) : Int) = ((x.natAbs / Nat.gcd n.natAbs x.natAbs : Nat) : Int) := rfl
    have hqle : x.natAbs / Nat.gcd n.natAbs x.natAbs ≤ x.natAbs := Nat.div_le_self _ _
    have k73 := fun H => call73 H (d : Int) ((x.natAbs / Nat.gcd n.natAbs x.natAbs : Nat) : Int) (by omega) (by have := hqle; generalize x.natAbs / Nat.gcd n.natAbs x.natAbs = y at *; omega)
    have hm : (d : Int) * ((x.natAbs / Nat.gcd n.natAbs x.natAbs : Nat) : Int) = ((d * (x.natAbs / Nat.gcd n.natAbs x.natAbs) : Nat) : Int) := rfl
    rw [hm] at k73
    simp only [wd_P] at k99 k100 k74
    generalize hM : n / ((Nat.gcd n.natAbs x.natAbs : Nat) : Int) = M at *
    generalize hD : d * (x.natAbs / Nat.gcd n.natAbs x.natAbs) = D at *
    generalize hY : x.natAbs / Nat.gcd n.natAbs x.natAbs = Y at *
    generalize hG : Nat.gcd n.natAbs x.natAbs = G at *
    rw [show ((D : Nat) : Int) / 18446744073709551616 = 0 by omega, show ((D : Nat) : Int) % 18446744073709551616 = (D : Int) by omega] at k73
    by_cases hxn : x < 0
    · rw [if_pos hxn] at F
      repeat' (first | refine w_seq ?_ | refine w_seqN ?_ | refine w_blk ?_ | refine w_blkN ?_ | refine w_skip ?_ | refine w_ops ?_ | refine w_opsD ?_ | refine d_one ?_ | refine d_nil ?_ | ((refine i_cond ?_); first | refine w_condT rfl ?_ | refine w_condF rfl ?_) | ((refine i_nil ?_); first | refine d_same ?_ | refine d_ord ?_ | refine w_end5 rfl rfl rfl rfl rfl ?_ | refine w_end6 rfl rfl rfl rfl rfl rfl ?_ | refine w_end7 rfl rfl rfl rfl rfl rfl rfl ?_) | ((refine i_cons ?_); first | refine k_ldC rfl c7 ?_ | (refine k_call rfl (k38 _) ?_; rintro r h2 ⟨e2, rfl⟩; have u2 := u.ext e2; have u2_3 := u2.c3.at; have u2_9 := u2.c9.at) | refine k_ldb rfl u2_9 rfl ?_ | refine k_ldC rfl u2.c7 ?_ | refine k_ldb rfl u2_3 rfl ?_ | (refine k_call rfl (k70 _) ?_; rintro r _ ⟨rfl, rfl⟩) | (refine k_call rfl (k99 _) ?_; rintro r h3 ⟨e3, rfl⟩; have u3 := u2.ext e3) | refine k_ldC rfl u3.c7 ?_ | (refine k_call rfl (k100 _) ?_; rintro r h4 ⟨e4, rfl⟩; have u4 := u3.ext e4; have c7_4 := u4.c7) | (refine k_stC rfl rfl c7_4 ?_; intro h5 w5; have u5 := u4.st7 w5; have u5_3 := u5.c3.at) | refine k_ldb rfl u5_3 rfl ?_ | refine k_ldC rfl u5.c7 ?_ | (refine k_call rfl (k74 _) ?_; rintro r h6 ⟨e6, rfl⟩; have u6 := u5.ext e6; have c7_6 := u6.c7) | (refine k_stC rfl rfl c7_6 ?_; intro h7 w7; have u7 := u6.st7 w7; have u7_3 := u7.c3.at; have u7_8 := u7.c8.at; have u7_9 := u7.c9.at) | refine k_ldb rfl u7_8 rfl ?_ | refine k_ldb rfl u7_3 rfl ?_ | (refine k_cvV rfl (by omega) ?_) | (refine k_quoU rfl rfl (by omega) ?_; rw [hq]) | (refine k_call rfl (k73 _) ?_; rintro r _ ⟨rfl, rfl⟩) | (refine k_st1' rfl rfl u7.c8 ?_; intro h8 w8 c8; have u8 := u7.st8 w8 c8; have u8_9 := u8.c9.at) | refine k_ldb rfl u8_9 rfl ?_ | (refine k_st1' rfl rfl u8.c9 ?_; intro h9 w9 c9; have u9 := u8.st9 w9 c9) | refine k_want rfl ?_ | refine k_mv rfl ?_ | refine k_pickT rfl rfl ?_ | refine k_pickF rfl rfl ?_ | refine k_notF rfl ?_ | refine k_add rfl rfl (by omega) ?_ | refine k_conv rfl (by omega) ?_ | refine k_lssT rfl rfl (by omega) ?_ | refine k_gtrF rfl rfl (by omega) ?_ | refine k_neqF rfl rfl (by omega) ?_ | refine k_ok rfl rfl ?_))
      exact w_roundN ⟨-M, a + 1, D, u9, F, .inl (by omega), by simp only [eM]; omega, rfl⟩ (by rw [qF_of u9.c9]; omega)
    · rw [if_neg hxn] at F
      repeat' (first | refine w_seq ?_ | refine w_seqN ?_ | refine w_blk ?_ | refine w_blkN ?_ | refine w_skip ?_ | refine w_ops ?_ | refine w_opsD ?_ | refine d_one ?_ | refine d_nil ?_ | ((refine i_cond ?_); first | refine w_condT rfl ?_ | refine w_condF rfl ?_) | ((refine i_nil ?_); first | refine d_same ?_ | refine d_ord ?_ | refine w_end5 rfl rfl rfl rfl rfl ?_ | refine w_end6 rfl rfl rfl rfl rfl rfl ?_ | refine w_end7 rfl rfl rfl rfl rfl rfl rfl ?_) | ((refine i_cons ?_); first | refine k_ldC rfl c7 ?_ | (refine k_call rfl (k38 _) ?_; rintro r h2 ⟨e2, rfl⟩; have u2 := u.ext e2; have u2_3 := u2.c3.at; have u2_9 := u2.c9.at) | refine k_ldb rfl u2_9 rfl ?_ | refine k_ldC rfl u2.c7 ?_ | refine k_ldb rfl u2_3 rfl ?_ | (refine k_call rfl (k70 _) ?_; rintro r _ ⟨rfl, rfl⟩) | (refine k_call rfl (k99 _) ?_; rintro r h3 ⟨e3, rfl⟩; have u3 := u2.ext e3) | refine k_ldC rfl u3.c7 ?_ | (refine k_call rfl (k100 _) ?_; rintro r h4 ⟨e4, rfl⟩; have u4 := u3.ext e4; have c7_4 := u4.c7) | (refine k_stC rfl rfl c7_4 ?_; intro h5 w5; have u7 := u4.st7 w5; have u7_3 := u7.c3.at; have u7_8 := u7.c8.at; have u7_9 := u7.c9.at) | refine k_ldb rfl u7_8 rfl ?_ | refine k_ldb rfl u7_3 rfl ?_ | (refine k_cvV rfl (by omega) ?_) | (refine k_quoU rfl rfl (by omega) ?_; rw [hq]) | (refine k_call rfl (k73 _) ?_; rintro r _ ⟨rfl, rfl⟩) | (refine k_st1' rfl rfl u7.c8 ?_; intro h8 w8 c8; have u8 := u7.st8 w8 c8; have u8_9 := u8.c9.at) | refine k_ldb rfl u8_9 rfl ?_ | (refine k_st1' rfl rfl u8.c9 ?_; intro h9 w9 c9; have u9 := u8.st9 w9 c9) | refine k_want rfl ?_ | refine k_mv rfl ?_ | refine k_pickT rfl rfl ?_ | refine k_pickF rfl rfl ?_ | refine k_notF rfl ?_ | refine k_add rfl rfl (by omega) ?_ | refine k_conv rfl (by omega) ?_ | refine k_lssT rfl rfl (by omega) ?_ | refine k_lssF rfl rfl (by omega) ?_ | refine k_gtrF rfl rfl (by omega) ?_ | refine k_neqF rfl rfl (by omega) ?_ | refine k_ok rfl rfl ?_))
      exact w_roundN ⟨M, a + 1, D, u9, F, .inl (by omega), by simp only [eM]; omega, rfl⟩ (by rw [qF_of u9.c9]; omega)
  · have : a = tg := by omega
    subst this
    repeat' (first | refine w_seq ?_ | refine w_seqN ?_ | refine w_seqX ?_ | refine w_exit ?_ | refine w_ops ?_ | ((refine i_cond ?_); refine w_condF rfl ?_) | ((refine i_nil ?_); refine w_end6 rfl rfl rfl rfl rfl rfl ?_) | ((refine i_cons ?_); first | refine k_ldC rfl c7 ?_ | (refine k_call rfl (k38 _) ?_; rintro r h2 ⟨e2, rfl⟩; have u2 := u.ext e2; have u2_9 := u2.c9.at) | refine k_ldb rfl u2_9 rfl ?_ | refine k_want rfl ?_ | refine k_mv rfl ?_ | refine k_pickT rfl rfl ?_ | refine k_notF rfl ?_ | refine k_lssF rfl rfl (by omega) ?_))
    exact w_roundX ⟨rfl, n, a, d, u2, f, .inl rfl, _, _, _, _, rfl⟩
theorem Lw.re {h0 hb h : Heap} {q3 q4 q7 q8 q9 : Nat} {n a x : Int} {d : Nat} (u : Lw h0 hb h q3 q4 q7 q8 q9 n a x d) : Lw h0 h h q3 q4 q7 q8 q9 n a x d :=
  ⟨u.e, u.c3, u.c4, u.c7, u.c8, u.c9, u.ord, fun _ _ h _ _ _ => h⟩
theorem call98 (h0 hb h : Heap) (q3 q4 q7 q8 q9 : Nat) (x a0 T : Int) (C : Nat) (tg n a : Int) (d : Nat) (hx : x ≠ 0 ∧ x.natAbs ≤ 1000000) (ht : tg ≤ 0 ∧ tg.natAbs ≤ eM) (hC : C ≤ 1152921504606846976) (hX : x.natAbs ^ (0 - a0).toNat ≤ 1125899906842624)
    (u : Lw h0 hb h q3 q4 q7 q8 q9 n a x d) (f : Fr x a0 T C n a d) (hor : a ≤ tg ∨ n = 0) (hae : a.natAbs ≤ eM) (h0t : a0 ≤ tg) :
    ∃ r h', Cal FT HKt 98 [.sc (.int .i64 tg), .sc (.ptr q7 0), .sc (.ptr q9 0), .sc (.ptr q3 0), .sc (.ptr q8 0)] h r h' ∧ (∃ (n' : Int) (d' : Nat), Lw h0 hb h' q3 q4 q7 q8 q9 n' tg x d' ∧ Fr x a0 T C n' tg d') ∧ r = .sc (.bool true) := by
  refine Cal.of (F := a98) rfl rfl rfl ?_
  repeat' (first | refine w_seq ?_ | refine w_seqN ?_ | refine w_blk ?_ | refine w_ops ?_ | ((refine i_nil ?_); refine w_end5 rfl rfl rfl rfl rfl ?_) | ((refine i_cons ?_); refine k_mv rfl ?_))
  refine w_loop (I98 h0 hb q3 q4 q7 q8 q9 x a0 T C tg) (qF q9 tg) (R98 h0 hb q3 q4 q7 q8 q9 x a0 T C tg) ⟨n, a, d, u, f, hor, hae, rfl⟩ (round98 h0 hb q3 q4 q7 q8 q9 x a0 T C tg hx ht hC hX) ?_
  rintro ex E' h2 ⟨rfl, n', a', d', u2, f2, hor2, _, _, _, _, rfl⟩
  repeat' (first | refine w_seq ?_ | refine w_seqN ?_ | refine w_blkX ?_ | refine w_ret ?_ | refine w_ops ?_ | ((refine i_nil ?_); first | refine w_end0 ?_ | refine w_end1 rfl ?_) | ((refine i_cons ?_); first | (refine k_st1' rfl rfl u2.c9 ?_; intro h7 w7 c7; have u7 := u2.st9 w7 c7) | refine k_mv rfl ?_))
  refine ⟨.inr rfl, ⟨n', d', u7, ?_⟩, rfl⟩
  rcases hor2 with rfl | rfl
  · exact f2
  · exact f2.zero h0t (by omega)
end Go.Proofs.YtlnjddjobbhcaaaDoor

