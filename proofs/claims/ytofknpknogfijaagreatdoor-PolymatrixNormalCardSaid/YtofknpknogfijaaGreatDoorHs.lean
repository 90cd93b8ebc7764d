/- The hooks over which the wakening is reckoned: the field's products and powers, and the test of primes, as contracts know them. -/
import Derived.Test.YtofknpknogfijaaGreatDoorFA
import Derived.Test.YtofknpknogfijaaGreatDoorAb49
namespace Go.Proofs.YtofknpknogfijaaGreatDoor
open Go.Ab
set_option linter.unusedVariables false

def okW (a : Int) : Prop := 0 ≤ a ∧ a < 18446744073709551616
instance (a : Int) : Decidable (okW a) := by unfold okW; exact inferInstance
def mulHook : Hook := fun args h => match args with
  | [.agg [.int .u64 p, .int .u64 g], .sc (.int .u64 a), .sc (.int .u64 b)] => if 0 < p ∧ okW p ∧ okW g ∧ okW a ∧ okW b then frc (a.toNat * b.toNat % p.toNat) fun r => some (.sc (.int .u64 (r : Nat)), h) else none
  | _ => none
def powHook : Hook := fun args h => match args with
  | [.agg [.int .u64 p, .int .u64 g], .sc (.int .u64 a), .sc (.int .u64 b)] => if 0 < p ∧ okW p ∧ okW g ∧ okW a ∧ okW b then frc (powM p.toNat 64 1 a.toNat b.toNat) fun r => some (.sc (.int .u64 (r : Nat)), h) else none
  | _ => none
def prHook : Hook := fun args h => match args with
  | [.sc (.int .u64 n)] => if 2 < n ∧ okW n then some (.sc (.bool (prM n.toNat)), h) else none
  | _ => none
def addHook : Hook := fun args h => match args with
  | [.agg [.int .u64 p, .int .u64 g], .sc (.int .u64 a), .sc (.int .u64 b)] => if p < 9223372036854775808 ∧ 0 ≤ a ∧ a < p ∧ 0 ≤ b ∧ b < p ∧ okW g then frc (adM p.toNat a.toNat b.toNat) fun r => some (.sc (.int .u64 (r : Nat)), h) else none
  | _ => none
def subHook : Hook := fun args h => match args with
  | [.agg [.int .u64 p, .int .u64 g], .sc (.int .u64 a), .sc (.int .u64 b)] => if p < 9223372036854775808 ∧ 0 ≤ a ∧ a < p ∧ 0 ≤ b ∧ b ≤ p ∧ okW g then frc (sbM p.toNat a.toNat b.toNat) fun r => some (.sc (.int .u64 (r : Nat)), h) else none
  | _ => none
def ofHook : Hook := fun args h => match args with
  | [.agg [.int .u64 p, .int .u64 g], .sc (.int .i64 x)] => if p < 9223372036854775808 ∧ okW p ∧ okW g ∧ (x.natAbs : Int) < p then frc (ofM p.toNat x) fun r => some (.sc (.int .u64 (r : Nat)), h) else none
  | _ => none
def invHook : Hook := fun args h => match args with
  | [.agg [.int .u64 p, .int .u64 g], .sc (.int .u64 a)] => if 2 ≤ p ∧ okW p ∧ okW g ∧ okW a then frc (invP p.toNat a.toNat) fun r => some (.sc (.int .u64 (r : Nat)), h) else none
  | _ => none
def HKs : FuncId → Option Hook := fun f => if f = 43 then some itoaHookB else if f = 129 then some addHook else if f = 122 then some subHook else if f = 99 then some ofHook else if f = 121 then some invHook else if f = 98 then some mulHook else if f = 119 then some powHook else if f = 118 then some prHook else HK0 f
theorem u_of {a : Int} (h : okW a) : (SV.int .u64 a) = SV.int .u64 ((a.toNat : Nat) : Int) := by unfold okW at h; rw [show ((a.toNat : Nat) : Int) = a by omega]
theorem mul_ok [Base] [HB] (hk : HKok Tryz.prog HKt) : HkOK Tryz.prog 98 mulHook := by
  refine plainHook_ok ft_ok hk (by kernel_rfl) fun args h v h1 hs => ?_
  unfold mulHook at hs
  split at hs
  · rename_i p g a b
    split at hs
    · rename_i hc
      obtain ⟨c1, c2, c3, c4, c5⟩ := hc
      rw [frc_eq] at hs
      simp only [Option.some.injEq, Prod.mk.injEq] at hs
      obtain ⟨rfl, rfl⟩ := hs
      have q2 := u_of c2
      have q3 := u_of c3
      have q4 := u_of c4
      have q5 := u_of c5
      unfold okW at c2 c3 c4 c5
      obtain ⟨r, h', k1, k2, rfl⟩ := call98 [] p.toNat g.toNat a.toNat b.toNat ⟨by omega, by omega⟩ (by omega) (by omega)
      rw [q2, q3, q4, q5]
      exact ⟨rfl, rfl, _, h', rfl, rfl, k1⟩
    · cases hs
  · cases hs
theorem add_ok [Base] [HB] (hk : HKok Tryz.prog HKt) : HkOK Tryz.prog 129 addHook := by
  refine plainHook_ok ft_ok hk (by kernel_rfl) fun args h v h1 hs => ?_
  unfold addHook at hs
  split at hs
  · rename_i p g a b
    split at hs
    · rename_i hc
      obtain ⟨c1, c2, c3, c4, c5, c6⟩ := hc
      rw [frc_eq] at hs
      simp only [Option.some.injEq, Prod.mk.injEq] at hs
      obtain ⟨rfl, rfl⟩ := hs
      unfold okW at *
      have qp : SV.int .u64 p = SV.int .u64 ((p.toNat : Nat) : Int) := by rw [show ((p.toNat : Nat) : Int) = p by omega]
      have qg : SV.int .u64 g = SV.int .u64 ((g.toNat : Nat) : Int) := by rw [show ((g.toNat : Nat) : Int) = g by omega]
      have qa : SV.int .u64 a = SV.int .u64 ((a.toNat : Nat) : Int) := by rw [show ((a.toNat : Nat) : Int) = a by omega]
      have qb : SV.int .u64 b = SV.int .u64 ((b.toNat : Nat) : Int) := by rw [show ((b.toNat : Nat) : Int) = b by omega]
      rw [qp, qg, qa, qb]
      obtain ⟨r, h', k1, k2, rfl⟩ := call129 [] p.toNat g.toNat a.toNat b.toNat (by omega) (by omega) (by omega)
      exact ⟨rfl, rfl, _, h', rfl, rfl, k1⟩
    · cases hs
  · cases hs
theorem sub_ok [Base] [HB] (hk : HKok Tryz.prog HKt) : HkOK Tryz.prog 122 subHook := by
  refine plainHook_ok ft_ok hk (by kernel_rfl) fun args h v h1 hs => ?_
  unfold subHook at hs
  split at hs
  · rename_i p g a b
    split at hs
    · rename_i hc
      obtain ⟨c1, c2, c3, c4, c5, c6⟩ := hc
      rw [frc_eq] at hs
      simp only [Option.some.injEq, Prod.mk.injEq] at hs
      obtain ⟨rfl, rfl⟩ := hs
      unfold okW at *
      have qp : SV.int .u64 p = SV.int .u64 ((p.toNat : Nat) : Int) := by rw [show ((p.toNat : Nat) : Int) = p by omega]
      have qg : SV.int .u64 g = SV.int .u64 ((g.toNat : Nat) : Int) := by rw [show ((g.toNat : Nat) : Int) = g by omega]
      have qa : SV.int .u64 a = SV.int .u64 ((a.toNat : Nat) : Int) := by rw [show ((a.toNat : Nat) : Int) = a by omega]
      have qb : SV.int .u64 b = SV.int .u64 ((b.toNat : Nat) : Int) := by rw [show ((b.toNat : Nat) : Int) = b by omega]
      rw [qp, qg, qa, qb]
      obtain ⟨r, h', k1, k2, rfl⟩ := call122 [] p.toNat g.toNat a.toNat b.toNat (by omega) (by omega) (by omega)
      exact ⟨rfl, rfl, _, h', rfl, rfl, k1⟩
    · cases hs
  · cases hs
theorem of_ok [Base] [HB] (hk : HKok Tryz.prog HKt) : HkOK Tryz.prog 99 ofHook := by
  refine plainHook_ok ft_ok hk (by kernel_rfl) fun args h v h1 hs => ?_
  unfold ofHook at hs
  split at hs
  · rename_i p g x
    split at hs
    · rename_i hc
      obtain ⟨c1, c2, c3, c4⟩ := hc
      rw [frc_eq] at hs
      simp only [Option.some.injEq, Prod.mk.injEq] at hs
      obtain ⟨rfl, rfl⟩ := hs
      unfold okW at *
      have qp : SV.int .u64 p = SV.int .u64 ((p.toNat : Nat) : Int) := by rw [show ((p.toNat : Nat) : Int) = p by omega]
      have qg : SV.int .u64 g = SV.int .u64 ((g.toNat : Nat) : Int) := by rw [show ((g.toNat : Nat) : Int) = g by omega]
      rw [qp, qg]
      obtain ⟨r, h', k1, k2, rfl⟩ := call99 [] p.toNat g.toNat x (by omega) (by omega)
      exact ⟨rfl, rfl, _, h', rfl, rfl, k1⟩
    · cases hs
  · cases hs
theorem inv_ok [Base] [HB] (hk : HKok Tryz.prog HKt) : HkOK Tryz.prog 121 invHook := by
  refine plainHook_ok ft_ok hk (by kernel_rfl) fun args h v h1 hs => ?_
  unfold invHook at hs
  split at hs
  · rename_i p g a
    split at hs
    · rename_i hc
      obtain ⟨c1, c2, c3, c4⟩ := hc
      rw [frc_eq] at hs
      simp only [Option.some.injEq, Prod.mk.injEq] at hs
      obtain ⟨rfl, rfl⟩ := hs
      unfold okW at *
      have qp : SV.int .u64 p = SV.int .u64 ((p.toNat : Nat) : Int) := by rw [show ((p.toNat : Nat) : Int) = p by omega]
      have qg : SV.int .u64 g = SV.int .u64 ((g.toNat : Nat) : Int) := by rw [show ((g.toNat : Nat) : Int) = g by omega]
      have qa : SV.int .u64 a = SV.int .u64 ((a.toNat : Nat) : Int) := by rw [show ((a.toNat : Nat) : Int) = a by omega]
      rw [qp, qg, qa]
      obtain ⟨r, h', k1, k2, rfl⟩ := call121 [] p.toNat g.toNat a.toNat ⟨by omega, by omega⟩ (by omega)
      exact ⟨rfl, rfl, _, h', rfl, rfl, k1⟩
    · cases hs
  · cases hs
theorem pow_ok [Base] [HB] (hk : HKok Tryz.prog HKt) : HkOK Tryz.prog 119 powHook := by
  refine plainHook_ok ft_ok hk (by kernel_rfl) fun args h v h1 hs => ?_
  unfold powHook at hs
  split at hs
  · rename_i p g a b
    split at hs
    · rename_i hc
      obtain ⟨c1, c2, c3, c4, c5⟩ := hc
      rw [frc_eq] at hs
      simp only [Option.some.injEq, Prod.mk.injEq] at hs
      obtain ⟨rfl, rfl⟩ := hs
      have q2 := u_of c2
      have q3 := u_of c3
      have q4 := u_of c4
      have q5 := u_of c5
      unfold okW at c2 c3 c4 c5
      obtain ⟨r, h', k1, k2, rfl⟩ := call119 [] p.toNat g.toNat a.toNat b.toNat ⟨by omega, by omega⟩ (by omega) (by omega)
      rw [q2, q3, q4, q5]
      exact ⟨rfl, rfl, _, h', rfl, rfl, k1⟩
    · cases hs
  · cases hs
theorem pr_ok [Base] [HB] (hk : HKok Tryz.prog HKt) : HkOK Tryz.prog 118 prHook := by
  refine plainHook_ok ft_ok hk (by kernel_rfl) fun args h v h1 hs => ?_
  unfold prHook at hs
  split at hs
  · rename_i n
    split at hs
    · rename_i hc
      obtain ⟨c1, c2⟩ := hc
      simp only [Option.some.injEq, Prod.mk.injEq] at hs
      obtain ⟨rfl, rfl⟩ := hs
      have q2 := u_of c2
      unfold okW at c2
      obtain ⟨r, h', k1, k2, rfl⟩ := call118 [] n.toNat ⟨by omega, by omega⟩
      rw [q2]
      exact ⟨rfl, rfl, _, h', rfl, rfl, k1⟩
    · cases hs
  · cases hs
/-- These leave the memory as it is. -/
def phS : FuncId → Bool := fun f => f == 98 || f == 119 || f == 118 || f == 129 || f == 122 || f == 99 || f == 121
theorem phS_ok : PureHK phS HKs := by
  intro f hf
  unfold phS at hf
  simp only [Bool.or_eq_true, beq_iff_eq] at hf
  have key : ∀ (b : Bool) (n : Nat) (x : Nat → AV) (h : Heap) (r : AV × Heap) (c : Prop) [Decidable c], (if c then frc n (fun r => some (x r, h)) else none) = some r → r.2 = h := by
    intro b n x h r c _ e
    split at e
    · rw [frc_eq] at e; cases e; rfl
    · cases e
  rcases hf with (((((rfl | rfl) | rfl) | rfl) | rfl) | rfl) | rfl
  · refine ⟨mulHook, rfl, fun args h r e => ?_⟩
    unfold mulHook at e
    split at e
    · exact key true _ _ _ _ _ e
    · cases e
  · refine ⟨powHook, rfl, fun args h r e => ?_⟩
    unfold powHook at e
    split at e
    · exact key true _ _ _ _ _ e
    · cases e
  · refine ⟨prHook, rfl, fun args h r e => ?_⟩
    unfold prHook at e
    split at e
    · split at e
      · cases e; rfl
      · cases e
    · cases e
  · refine ⟨addHook, rfl, fun args h r e => ?_⟩
    unfold addHook at e
    split at e
    · exact key true _ _ _ _ _ e
    · cases e
  · refine ⟨subHook, rfl, fun args h r e => ?_⟩
    unfold subHook at e
    split at e
    · exact key true _ _ _ _ _ e
    · cases e
  · refine ⟨ofHook, rfl, fun args h r e => ?_⟩
    unfold ofHook at e
    split at e
    · exact key true _ _ _ _ _ e
    · cases e
  · refine ⟨invHook, rfl, fun args h r e => ?_⟩
    unfold invHook at e
    split at e
    · exact key true _ _ _ _ _ e
    · cases e
end Go.Proofs.YtofknpknogfijaaGreatDoor
