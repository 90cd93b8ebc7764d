import Derived.Test.YtleoalcbgpjieaaDoorAb23
import Derived.Lib.Builder
/- strings.Builder's check against copies, as a contract. -/
namespace Go.Ab
variable [Base]
set_option linter.unusedSectionVars false
set_option linter.unusedVariables false

/-- copyCheck: a fresh builder takes its own address; a used one stays as it is. -/
def ccHook (T : Nat) : Hook := fun args h => match args with
  | [.sc (.ptr id 0)] => match h[id]? with
    | some (.cells [.nilP, x] true z) => if z = ⟨0, some T⟩ then some (.tup [], h.set id (.cells [.ptr id 0, x] true z)) else none
    | some (.cells [.ptr j 0, x] true z) => if z = ⟨0, some T⟩ ∧ j = id then some (.tup [], h) else none
    | _ => none
  | _ => none

theorem ccHook_ok {P : Program} {f : FuncId} {T : Nat} (hfn : fnIs P f = true)
    (hu : ∀ (b : Nat) (w : World), w.cell? ⟨b, 0, none⟩ = some (.pointer (some ⟨b, 0, none⟩)) → Calls P f #[.pointer (some ⟨b, 0, none⟩)] w fun e w' => e = .returned (.tuple #[]) ∧ w' = w)
    (hn : ∀ (b : Nat) (w : World), w.cell? ⟨b, 0, none⟩ = some (.pointer none) → w.shape? b = some (T, 2) → w.frozen? ⟨b, 0, none⟩ = false →
      Calls P f #[.pointer (some ⟨b, 0, none⟩)] w fun e w' => e = .returned (.tuple #[]) ∧ w' = w.setCell ⟨b, 0, none⟩ (.pointer (some ⟨b, 0, none⟩))) : HkOK P f (ccHook T) where
  fn := hfn
  len := fun args h v h' hs => by
    unfold ccHook at hs
    split at hs
    · split at hs
      · split at hs
        · simp at hs; rw [← hs.2]; simp
        · simp at hs
      · split at hs
        · simp at hs; rw [hs.2]; exact Nat.le_refl _
        · simp at hs
      · simp at hs
    · simp at hs
  run := fun args h v h' hs β w vs hvs R hf => by
    unfold ccHook at hs
    split at hs
    · rename_i id
      cases hvs with
      | cons ha hr =>
        cases hr
        cases ha with
        | sc ha =>
          cases ha with
          | ptr hL hn' =>
            rename_i L
            split at hs
            · rename_i x z hg
              split at hs
              · rename_i hz
                subst hz
                simp at hs
                obtain ⟨rfl, rfl⟩ := hs
                obtain ⟨h1, ccs, e, fz, h2, h3, h4, h5, h6, h7, h8⟩ := (R.blk id L _ true _ hg hL).cell hn'
                obtain ⟨hb0, hsz⟩ := h8.1 T rfl
                replace hsz := hsz rfl
                have he : e = T := h7 T rfl
                have hfz := h6 rfl
                subst he hfz
                simp at hsz
                obtain ⟨c0, k1, k2⟩ := h5 0 .nilP rfl
                cases k2
                rw [hb0] at k1
                have hc : w.cell? ⟨L.b, 0, none⟩ = some (.pointer none) := by rw [cell_of_row w L.b _ ccs e _ h2]; exact k1
                have hfr : w.frozen? ⟨L.b, 0, none⟩ = false := by simp [World.frozen?, h2]
                have hw : writeN h id 0 [.ptr id 0] = some (h.set id (.cells [.ptr id 0, x] true ⟨0, some e⟩)) := by
                  simp [writeN, hg, splice]
                obtain ⟨w1, s1, s2, s3⟩ := store_done (P := P) R hL hn' (vs := [.ptr id 0]) (ws := [.pointer (some ⟨L.b, L.base + 0, none⟩)]) (.cons (.ptr hL hn') .nil) hw
                rw [hb0] at s1
                have hrun : (storeCells ⟨L.b, 0 + 0, none⟩ [.pointer (some ⟨L.b, 0 + 0, none⟩)]).run P w = .ok () (w.setCell ⟨L.b, 0, none⟩ (.pointer (some ⟨L.b, 0, none⟩))) := by
                  have ha : (⟨L.b, 0, none⟩ : Addr).add 0 = ⟨L.b, 0, none⟩ := rfl
                  have hst := run_store P w ⟨L.b, 0, none⟩ (.pointer (some ⟨L.b, 0, none⟩)) .plain rfl
                  rw [hc] at hst
                  simp only [hfr, Bool.false_eq_true, if_false] at hst
                  simp [storeCells, ha, hst]
                rw [hrun] at s1
                simp only [Result.ok.injEq, true_and] at s1
                rw [hb0]
                refine (hn L.b w hc (by simp [World.shape?, h2]; omega) hfr).mono ?_
                rintro e' w' ⟨rfl, rfl⟩
                rw [s1]
                exact ⟨β, _, rfl, .tup .nil, s2, s3⟩
              · simp at hs
            · rename_i j x z hg
              split at hs
              · rename_i hz
                obtain ⟨rfl, rfl⟩ := hz
                simp at hs
                obtain ⟨rfl, rfl⟩ := hs
                obtain ⟨h1, ccs, e, fz, h2, h3, h4, h5, h6, h7, h8⟩ := (R.blk _ L _ true _ hg hL).cell hn'
                obtain ⟨hb0, hsz⟩ := h8.1 T rfl
                obtain ⟨c0, k1, k2⟩ := h5 0 _ rfl
                cases k2 with
                | ptr hM =>
                  rw [hL] at hM
                  simp at hM; subst hM
                  rw [hb0] at k1
                  have hc : w.cell? ⟨L.b, 0, none⟩ = some (.pointer (some ⟨L.b, 0, none⟩)) := by rw [cell_of_row w L.b _ ccs e _ h2]; exact k1
                  rw [hb0]
                  refine (hu L.b w hc).mono ?_
                  rintro e' w' ⟨rfl, rfl⟩
                  exact ⟨β, _, rfl, .tup .nil, Stp.refl _ _ _, R⟩
              · simp at hs
            · simp at hs
    · simp at hs

def isT : Option (AV × Heap) → Bool
  | some (.sc (.bool b), _) => b
  | _ => false

theorem isT_some {o : Option (AV × Heap)} (h : isT o = true) : ∃ h', o = some (.sc (.bool true), h') := by
  unfold isT at h
  split at h
  · subst h; exact ⟨_, rfl⟩
  · simp at h
end Go.Ab


/- Step by step, a lemma for each kind of operation: each looks up just what it needs. -/
namespace Go.Ab
set_option linter.unusedVariables false
section
variable {FT : FuncId → Option AFun} {HK : FuncId → Option Hook} {E : Env} {h : Heap} {K : Env → Heap → Prop} {d : Option Nat} {r : List AOp} {Q : Ex → Env → Heap → Prop} {a b : AC} {c : AO} {o : AOp} {x y i : AO} {k : AK}

theorem i_nil (hw : wOps FT HK [] E h K) : wOps FT HK [] E h K := hw
theorem i_cons (hw : wOps FT HK (o :: r) E h K) : wOps FT HK (o :: r) E h K := hw
theorem i_cond (hw : wA FT HK (.cond c a b) E h Q) : wA FT HK (.cond c a b) E h Q := hw

theorem k_skipU {t : Nat} {u : Bool} (hg : E.get t = some (.tup [])) (hw : wOps FT HK r (bindE d (some (.tup [])) E) h K) : wOps FT HK (⟨d, k, some (t, u)⟩ :: r) E h K :=
  op_skip (by simp only [wants, hg]) hw
theorem k_skip {t : Nat} {u : Bool} (hg : E.get t = some (.sc (.bool !u))) (hw : wOps FT HK r (bindE d (some (.tup [])) E) h K) : wOps FT HK (⟨d, k, some (t, u)⟩ :: r) E h K :=
  op_skip (by simp only [wants, hg]; cases u <;> rfl) hw
theorem k_want {t : Nat} {u : Bool} (hg : E.get t = some (.sc (.bool u))) (hw : wOps FT HK (⟨d, k, none⟩ :: r) E h K) : wOps FT HK (⟨d, k, some (t, u)⟩ :: r) E h K := by
  have h1 : wOp FT HK ⟨d, k, none⟩ E h (fun E' h' => wOps FT HK r E' h' K) := hw
  show wOp FT HK _ _ _ _
  unfold wOp at h1 ⊢
  have hw : wants E (some (t, u)) = some true := by simp only [wants, hg]; cases u <;> rfl
  rw [hw]
  exact h1

theorem k_mv {v : AV} (hx : ev E x = some v) (hw : wOps FT HK r (bindE d (some v) E) h K) : wOps FT HK (⟨d, .mv x, none⟩ :: r) E h K :=
  op_ok rfl rfl (by simp only [step1, hx]; rfl) hw
theorem k_pickT {p q : AO} {v : AV} (hc : evS E c = some (.bool true)) (hx : ev E p = some v) (hw : wOps FT HK r (bindE d (some v) E) h K) : wOps FT HK (⟨d, .pick c p q, none⟩ :: r) E h K :=
  op_ok rfl rfl (by simp only [step1, hc, hx]; rfl) hw
theorem k_pickF {p q : AO} {v : AV} (hc : evS E c = some (.bool false)) (hx : ev E q = some v) (hw : wOps FT HK r (bindE d (some v) E) h K) : wOps FT HK (⟨d, .pick c p q, none⟩ :: r) E h K :=
  op_ok rfl rfl (by simp only [step1, hc, hx]; rfl) hw
theorem k_not {u : Bool} (hx : evS E x = some (.bool u)) (hw : wOps FT HK r (bindE d (some (.sc (.bool (!u)))) E) h K) : wOps FT HK (⟨d, .un .not x, none⟩ :: r) E h K :=
  op_ok rfl rfl (by simp only [step1, hx]; rfl) hw
theorem k_notT (hx : evS E x = some (.bool true)) (hw : wOps FT HK r (bindE d (some (.sc (.bool false))) E) h K) : wOps FT HK (⟨d, .un .not x, none⟩ :: r) E h K := k_not hx hw
theorem k_notF (hx : evS E x = some (.bool false)) (hw : wOps FT HK r (bindE d (some (.sc (.bool true))) E) h K) : wOps FT HK (⟨d, .un .not x, none⟩ :: r) E h K := k_not hx hw

section arith
variable {m n : Int}
theorem k_add (hx : evS E x = some (.int .i64 m)) (hy : evS E y = some (.int .i64 n)) (hr : -9223372036854775808 ≤ m + n ∧ m + n ≤ 9223372036854775807) (hw : wOps FT HK r (bindE d (some (.sc (.int .i64 (m + n)))) E) h K) : wOps FT HK (⟨d, .bin .add x y, none⟩ :: r) E h K :=
  op_wrap rfl rfl (by simp only [step1, hx, hy]; rfl) hr hw
theorem k_sub (hx : evS E x = some (.int .i64 m)) (hy : evS E y = some (.int .i64 n)) (hr : -9223372036854775808 ≤ m - n ∧ m - n ≤ 9223372036854775807) (hw : wOps FT HK r (bindE d (some (.sc (.int .i64 (m - n)))) E) h K) : wOps FT HK (⟨d, .bin .sub x y, none⟩ :: r) E h K :=
  op_wrap rfl rfl (by simp only [step1, hx, hy]; rfl) hr hw
theorem k_mul (hx : evS E x = some (.int .i64 m)) (hy : evS E y = some (.int .i64 n)) (hr : -9223372036854775808 ≤ m * n ∧ m * n ≤ 9223372036854775807) (hw : wOps FT HK r (bindE d (some (.sc (.int .i64 (m * n)))) E) h K) : wOps FT HK (⟨d, .bin .mul x y, none⟩ :: r) E h K :=
  op_wrap rfl rfl (by simp only [step1, hx, hy]; rfl) hr hw
theorem k_neg (hx : evS E x = some (.int .i64 m)) (hr : -9223372036854775808 ≤ -m ∧ -m ≤ 9223372036854775807) (hw : wOps FT HK r (bindE d (some (.sc (.int .i64 (-m)))) E) h K) : wOps FT HK (⟨d, .un .neg x, none⟩ :: r) E h K :=
  op_wrap rfl rfl (by simp only [step1, hx]; rw [show -m = 0 - m by omega]; rfl) hr hw
/-- Quotient and remainder of numbers that are not negative. -/
theorem k_quo (hx : evS E x = some (.int .i64 m)) (hy : evS E y = some (.int .i64 n)) (hr : 0 ≤ m ∧ m ≤ 9223372036854775807 ∧ 0 < n) (hw : wOps FT HK r (bindE d (some (.sc (.int .i64 (m / n)))) E) h K) : wOps FT HK (⟨d, .bin .quo x y, none⟩ :: r) E h K := by
  have h1 : m.tdiv n = m / n := Int.tdiv_eq_ediv_of_nonneg hr.1
  have h2 : 0 ≤ m / n := Int.ediv_nonneg hr.1 (by omega)
  have h3 : m / n ≤ m := Int.ediv_le_self n hr.1
  refine op_wrap (n := m / n) rfl rfl ?_ (by omega) hw
  simp only [step1, hx, hy, Option.bind_some, binS, isShift, binI]
  rw [if_neg (by decide), if_pos trivial, if_neg (by omega), h1]; rfl
theorem k_rem (hx : evS E x = some (.int .i64 m)) (hy : evS E y = some (.int .i64 n)) (hr : 0 ≤ m ∧ 0 < n) (hw : wOps FT HK r (bindE d (some (.sc (.int .i64 (m % n)))) E) h K) : wOps FT HK (⟨d, .bin .rem x y, none⟩ :: r) E h K := by
  have h1 : m.tmod n = m % n := Int.tmod_eq_emod_of_nonneg hr.1
  refine op_ok rfl rfl ?_ hw
  simp only [step1, hx, hy, Option.bind_some, binS, isShift, binI]
  rw [if_neg (by decide), if_pos trivial, if_neg (by omega), h1]; rfl
theorem k_tmod (hx : evS E x = some (.int .i64 m)) (hy : evS E y = some (.int .i64 n)) (hr : n ≠ 0) (hw : wOps FT HK r (bindE d (some (.sc (.int .i64 (m.tmod n)))) E) h K) : wOps FT HK (⟨d, .bin .rem x y, none⟩ :: r) E h K := by
  refine op_ok rfl rfl ?_ hw
  simp only [step1, hx, hy, Option.bind_some, binS, isShift, binI]
  rw [if_neg (by decide), if_pos trivial, if_neg hr]; rfl
theorem k_max (hx : evS E x = some (.int .i64 m)) (hy : evS E y = some (.int .i64 n)) (hw : wOps FT HK r (bindE d (some (.sc (.int .i64 (max m n)))) E) h K) : wOps FT HK (⟨d, .mm true x [y], none⟩ :: r) E h K := by
  refine op_ok rfl rfl ?_ hw
  simp only [step1, hx, Option.bind_some, evSs, hy, Option.map_some, mmL, mm2, if_true]
  congr 4
  split <;> simp <;> omega
theorem k_min (hx : evS E x = some (.int .i64 m)) (hy : evS E y = some (.int .i64 n)) (hw : wOps FT HK r (bindE d (some (.sc (.int .i64 (min m n)))) E) h K) : wOps FT HK (⟨d, .mm false x [y], none⟩ :: r) E h K := by
  refine op_ok rfl rfl ?_ hw
  simp only [step1, hx, Option.bind_some, evSs, hy, Option.map_some, mmL, mm2, if_true]
  congr 4
  simp only [Bool.false_eq_true, if_false]
  split <;> simp <;> omega

theorem k_cmp {op : BinOp} {p : Prop} {ip : Decidable p} {kd : IntKind} (hx : evS E x = some (.int kd m)) (hy : evS E y = some (.int kd n)) (hs : binI op kd m n = some (.bool (@decide p ip))) (ho : isShift op = false)
    (ht : p → wOps FT HK r (bindE d (some (.sc (.bool true))) E) h K) (hf : ¬ p → wOps FT HK r (bindE d (some (.sc (.bool false))) E) h K) : wOps FT HK (⟨d, .bin op x y, none⟩ :: r) E h K := by
  have h1 : step1 E h (.bin op x y) = some (some (.sc (.bool (@decide p ip))), h) := by
    simp only [step1, hx, hy, Option.bind_some, binS, ho, if_true, hs]
    rfl
  exact op_test rfl rfl h1 (fun hb => ht (by simpa using hb)) (fun hb => hf (by simpa using hb))
theorem k_lss {kd : IntKind} (hx : evS E x = some (.int kd m)) (hy : evS E y = some (.int kd n)) (ht : m < n → wOps FT HK r (bindE d (some (.sc (.bool true))) E) h K) (hf : ¬ m < n → wOps FT HK r (bindE d (some (.sc (.bool false))) E) h K) : wOps FT HK (⟨d, .bin .lss x y, none⟩ :: r) E h K :=
  k_cmp hx hy rfl rfl ht hf
theorem k_lssT {kd : IntKind} (hx : evS E x = some (.int kd m)) (hy : evS E y = some (.int kd n)) (hp : m < n) (ht : wOps FT HK r (bindE d (some (.sc (.bool true))) E) h K) : wOps FT HK (⟨d, .bin .lss x y, none⟩ :: r) E h K :=
  k_lss hx hy (fun _ => ht) (fun hn => absurd hp hn)
theorem k_lssF {kd : IntKind} (hx : evS E x = some (.int kd m)) (hy : evS E y = some (.int kd n)) (hp : ¬ m < n) (ht : wOps FT HK r (bindE d (some (.sc (.bool false))) E) h K) : wOps FT HK (⟨d, .bin .lss x y, none⟩ :: r) E h K :=
  k_lss hx hy (fun hn => absurd hn hp) (fun _ => ht)
theorem k_leq {kd : IntKind} (hx : evS E x = some (.int kd m)) (hy : evS E y = some (.int kd n)) (ht : m ≤ n → wOps FT HK r (bindE d (some (.sc (.bool true))) E) h K) (hf : ¬ m ≤ n → wOps FT HK r (bindE d (some (.sc (.bool false))) E) h K) : wOps FT HK (⟨d, .bin .leq x y, none⟩ :: r) E h K :=
  k_cmp hx hy rfl rfl ht hf
theorem k_leqT {kd : IntKind} (hx : evS E x = some (.int kd m)) (hy : evS E y = some (.int kd n)) (hp : m ≤ n) (ht : wOps FT HK r (bindE d (some (.sc (.bool true))) E) h K) : wOps FT HK (⟨d, .bin .leq x y, none⟩ :: r) E h K :=
  k_leq hx hy (fun _ => ht) (fun hn => absurd hp hn)
theorem k_leqF {kd : IntKind} (hx : evS E x = some (.int kd m)) (hy : evS E y = some (.int kd n)) (hp : ¬ m ≤ n) (ht : wOps FT HK r (bindE d (some (.sc (.bool false))) E) h K) : wOps FT HK (⟨d, .bin .leq x y, none⟩ :: r) E h K :=
  k_leq hx hy (fun hn => absurd hn hp) (fun _ => ht)
theorem k_gtr {kd : IntKind} (hx : evS E x = some (.int kd m)) (hy : evS E y = some (.int kd n)) (ht : n < m → wOps FT HK r (bindE d (some (.sc (.bool true))) E) h K) (hf : ¬ n < m → wOps FT HK r (bindE d (some (.sc (.bool false))) E) h K) : wOps FT HK (⟨d, .bin .gtr x y, none⟩ :: r) E h K :=
  k_cmp hx hy rfl rfl ht hf
theorem k_gtrT {kd : IntKind} (hx : evS E x = some (.int kd m)) (hy : evS E y = some (.int kd n)) (hp : n < m) (ht : wOps FT HK r (bindE d (some (.sc (.bool true))) E) h K) : wOps FT HK (⟨d, .bin .gtr x y, none⟩ :: r) E h K :=
  k_gtr hx hy (fun _ => ht) (fun hn => absurd hp hn)
theorem k_gtrF {kd : IntKind} (hx : evS E x = some (.int kd m)) (hy : evS E y = some (.int kd n)) (hp : ¬ n < m) (ht : wOps FT HK r (bindE d (some (.sc (.bool false))) E) h K) : wOps FT HK (⟨d, .bin .gtr x y, none⟩ :: r) E h K :=
  k_gtr hx hy (fun hn => absurd hn hp) (fun _ => ht)
theorem k_geq {kd : IntKind} (hx : evS E x = some (.int kd m)) (hy : evS E y = some (.int kd n)) (ht : n ≤ m → wOps FT HK r (bindE d (some (.sc (.bool true))) E) h K) (hf : ¬ n ≤ m → wOps FT HK r (bindE d (some (.sc (.bool false))) E) h K) : wOps FT HK (⟨d, .bin .geq x y, none⟩ :: r) E h K :=
  k_cmp hx hy rfl rfl ht hf
theorem k_geqT {kd : IntKind} (hx : evS E x = some (.int kd m)) (hy : evS E y = some (.int kd n)) (hp : n ≤ m) (ht : wOps FT HK r (bindE d (some (.sc (.bool true))) E) h K) : wOps FT HK (⟨d, .bin .geq x y, none⟩ :: r) E h K :=
  k_geq hx hy (fun _ => ht) (fun hn => absurd hp hn)
theorem k_geqF {kd : IntKind} (hx : evS E x = some (.int kd m)) (hy : evS E y = some (.int kd n)) (hp : ¬ n ≤ m) (ht : wOps FT HK r (bindE d (some (.sc (.bool false))) E) h K) : wOps FT HK (⟨d, .bin .geq x y, none⟩ :: r) E h K :=
  k_geq hx hy (fun hn => absurd hn hp) (fun _ => ht)
theorem k_eql {kd : IntKind} (hx : evS E x = some (.int kd m)) (hy : evS E y = some (.int kd n)) (ht : m = n → wOps FT HK r (bindE d (some (.sc (.bool true))) E) h K) (hf : m ≠ n → wOps FT HK r (bindE d (some (.sc (.bool false))) E) h K) : wOps FT HK (⟨d, .bin .eql x y, none⟩ :: r) E h K := by
  have h1 : step1 E h (.bin .eql x y) = some (some (.sc (.bool (m == n))), h) := by
    simp only [step1, hx, hy, Option.bind_some, binS, isShift, if_true]
    rfl
  exact op_test rfl rfl h1 (fun hb => ht (by simpa using hb)) (fun hb => hf (by simpa using hb))
theorem k_neq {kd : IntKind} (hx : evS E x = some (.int kd m)) (hy : evS E y = some (.int kd n)) (ht : m ≠ n → wOps FT HK r (bindE d (some (.sc (.bool true))) E) h K) (hf : m = n → wOps FT HK r (bindE d (some (.sc (.bool false))) E) h K) : wOps FT HK (⟨d, .bin .neq x y, none⟩ :: r) E h K := by
  have h1 : step1 E h (.bin .neq x y) = some (some (.sc (.bool (m != n))), h) := by
    simp only [step1, hx, hy, Option.bind_some, binS, isShift, if_true]
    rfl
  exact op_test rfl rfl h1 (fun hb => ht (by simpa using hb)) (fun hb => hf (by simpa using hb))
theorem k_eqlT {kd : IntKind} (hx : evS E x = some (.int kd m)) (hy : evS E y = some (.int kd n)) (hp : m = n) (ht : wOps FT HK r (bindE d (some (.sc (.bool true))) E) h K) : wOps FT HK (⟨d, .bin .eql x y, none⟩ :: r) E h K := k_eql hx hy (fun _ => ht) (fun hn => absurd hp hn)
theorem k_eqlF {kd : IntKind} (hx : evS E x = some (.int kd m)) (hy : evS E y = some (.int kd n)) (hp : m ≠ n) (ht : wOps FT HK r (bindE d (some (.sc (.bool false))) E) h K) : wOps FT HK (⟨d, .bin .eql x y, none⟩ :: r) E h K := k_eql hx hy (fun hn => absurd hn hp) (fun _ => ht)
theorem k_neqT {kd : IntKind} (hx : evS E x = some (.int kd m)) (hy : evS E y = some (.int kd n)) (hp : m ≠ n) (ht : wOps FT HK r (bindE d (some (.sc (.bool true))) E) h K) : wOps FT HK (⟨d, .bin .neq x y, none⟩ :: r) E h K := k_neq hx hy (fun _ => ht) (fun hn => absurd hn hp)
theorem k_neqF {kd : IntKind} (hx : evS E x = some (.int kd m)) (hy : evS E y = some (.int kd n)) (hp : m = n) (ht : wOps FT HK r (bindE d (some (.sc (.bool false))) E) h K) : wOps FT HK (⟨d, .bin .neq x y, none⟩ :: r) E h K := k_neq hx hy (fun hn => absurd hp hn) (fun _ => ht)
end arith

theorem k_idxA {esz id off n : Nat} {cp : Option Nat} {kd : IntKind} {j : Int} (hx : evS E x = some (.slc id off n cp)) (hi : evS E i = some (.int kd j)) (hb : 0 ≤ j ∧ j < n)
    (hw : wOps FT HK r (bindE d (some (.sc (.ptr id (off + j.toNat * esz)))) E) h K) : wOps FT HK (⟨d, .idxA esz x i, none⟩ :: r) E h K := op_idxA rfl hx hi hb hw
theorem k_ld {id off : Nat} {v : SV} (hx : evS E x = some (.ptr id off)) (hr : readN h id off 1 = some [v])
    (hw : wOps FT HK r (bindE d (some (.sc v)) E) h K) : wOps FT HK (⟨d, .ld 1 false x, none⟩ :: r) E h K := op_ld rfl hx hr hw
theorem k_st {id off : Nat} {v : SV} {h' : Heap} {p : AO} (ha : evS E p = some (.ptr id off)) (hx : ev E x = some (.sc v)) (hr : writeN h id off [v] = some h')
    (hw : wOps FT HK r (bindE d none E) h' K) : wOps FT HK (⟨d, .st 1 p x, none⟩ :: r) E h K := op_st rfl ha hx hr hw
theorem k_len {u : Bool} {s : SV} {n : Int} (hx : evS E x = some s) (hl : lenS u s = some n) (hw : wOps FT HK r (bindE d (some (.sc (.int .i64 n))) E) h K) : wOps FT HK (⟨d, .len u x, none⟩ :: r) E h K := op_len rfl hx hl hw
theorem k_call {f : FuncId} {args : List AO} {vs : List AV} {R : AV → Heap → Prop} (ha : evs E args = some vs) (hc : ∃ v h', Cal FT HK f vs h v h' ∧ R v h')
    (hw : ∀ v h', R v h' → wOps FT HK r (bindE d (some v) E) h' K) : wOps FT HK (⟨d, .call f args, none⟩ :: r) E h K := op_call rfl ha hc hw
theorem k_ok {v : Option AV} {h' : Heap} (hk : isCall k = false) (hs : step1 E h k = some (v, h')) (hw : wOps FT HK r (bindE d v E) h' K) : wOps FT HK (⟨d, k, none⟩ :: r) E h K := op_ok rfl hk hs hw

theorem keep_d {k : Nat} {ks : List Nat} {F : Env} {x : AV} (h2 : E.keep ks = F) (h1 : E.get k = some x) : E.keep (k :: ks) = (k, some x) :: F := keep_c h1 h2
theorem w_end0  (hq : Q .nm [] h) : wOps FT HK [] E h (fun E' h' => Q .nm (E'.keep []) h') :=
  w_end (keep_nil _) hq
theorem w_end1 {k0 : Nat} {x0 : AV} (h0 : E.get k0 = some x0) (hq : Q .nm [(k0, some x0)] h) : wOps FT HK [] E h (fun E' h' => Q .nm (E'.keep [k0]) h') :=
  w_end (keep_c h0 (keep_nil _)) hq
theorem w_end2 {k0 k1 : Nat} {x0 x1 : AV} (h0 : E.get k0 = some x0) (h1 : E.get k1 = some x1) (hq : Q .nm [(k0, some x0), (k1, some x1)] h) : wOps FT HK [] E h (fun E' h' => Q .nm (E'.keep [k0, k1]) h') :=
  w_end (keep_c h0 (keep_c h1 (keep_nil _))) hq
theorem w_end3 {k0 k1 k2 : Nat} {x0 x1 x2 : AV} (h0 : E.get k0 = some x0) (h1 : E.get k1 = some x1) (h2 : E.get k2 = some x2) (hq : Q .nm [(k0, some x0), (k1, some x1), (k2, some x2)] h) : wOps FT HK [] E h (fun E' h' => Q .nm (E'.keep [k0, k1, k2]) h') :=
  w_end (keep_c h0 (keep_c h1 (keep_c h2 (keep_nil _)))) hq
theorem w_end4 {k0 k1 k2 k3 : Nat} {x0 x1 x2 x3 : AV} (h0 : E.get k0 = some x0) (h1 : E.get k1 = some x1) (h2 : E.get k2 = some x2) (h3 : E.get k3 = some x3) (hq : Q .nm [(k0, some x0), (k1, some x1), (k2, some x2), (k3, some x3)] h) : wOps FT HK [] E h (fun E' h' => Q .nm (E'.keep [k0, k1, k2, k3]) h') :=
  w_end (keep_c h0 (keep_c h1 (keep_c h2 (keep_c h3 (keep_nil _))))) hq
theorem w_end5 {k0 k1 k2 k3 k4 : Nat} {x0 x1 x2 x3 x4 : AV} (h0 : E.get k0 = some x0) (h1 : E.get k1 = some x1) (h2 : E.get k2 = some x2) (h3 : E.get k3 = some x3) (h4 : E.get k4 = some x4) (hq : Q .nm [(k0, some x0), (k1, some x1), (k2, some x2), (k3, some x3), (k4, some x4)] h) : wOps FT HK [] E h (fun E' h' => Q .nm (E'.keep [k0, k1, k2, k3, k4]) h') :=
  w_end (keep_c h0 (keep_c h1 (keep_c h2 (keep_c h3 (keep_c h4 (keep_nil _)))))) hq
theorem w_end6 {k0 k1 k2 k3 k4 k5 : Nat} {x0 x1 x2 x3 x4 x5 : AV} (h0 : E.get k0 = some x0) (h1 : E.get k1 = some x1) (h2 : E.get k2 = some x2) (h3 : E.get k3 = some x3) (h4 : E.get k4 = some x4) (h5 : E.get k5 = some x5) (hq : Q .nm [(k0, some x0), (k1, some x1), (k2, some x2), (k3, some x3), (k4, some x4), (k5, some x5)] h) : wOps FT HK [] E h (fun E' h' => Q .nm (E'.keep [k0, k1, k2, k3, k4, k5]) h') :=
  w_end (keep_c h0 (keep_c h1 (keep_c h2 (keep_c h3 (keep_c h4 (keep_c h5 (keep_nil _))))))) hq
theorem w_end7 {k0 k1 k2 k3 k4 k5 k6 : Nat} {x0 x1 x2 x3 x4 x5 x6 : AV} (h0 : E.get k0 = some x0) (h1 : E.get k1 = some x1) (h2 : E.get k2 = some x2) (h3 : E.get k3 = some x3) (h4 : E.get k4 = some x4) (h5 : E.get k5 = some x5) (h6 : E.get k6 = some x6) (hq : Q .nm [(k0, some x0), (k1, some x1), (k2, some x2), (k3, some x3), (k4, some x4), (k5, some x5), (k6, some x6)] h) : wOps FT HK [] E h (fun E' h' => Q .nm (E'.keep [k0, k1, k2, k3, k4, k5, k6]) h') :=
  w_end (keep_c h0 (keep_c h1 (keep_c h2 (keep_c h3 (keep_c h4 (keep_c h5 (keep_c h6 (keep_nil _)))))))) hq
theorem w_end8 {k0 k1 k2 k3 k4 k5 k6 k7 : Nat} {x0 x1 x2 x3 x4 x5 x6 x7 : AV} (h0 : E.get k0 = some x0) (h1 : E.get k1 = some x1) (h2 : E.get k2 = some x2) (h3 : E.get k3 = some x3) (h4 : E.get k4 = some x4) (h5 : E.get k5 = some x5) (h6 : E.get k6 = some x6) (h7 : E.get k7 = some x7) (hq : Q .nm [(k0, some x0), (k1, some x1), (k2, some x2), (k3, some x3), (k4, some x4), (k5, some x5), (k6, some x6), (k7, some x7)] h) : wOps FT HK [] E h (fun E' h' => Q .nm (E'.keep [k0, k1, k2, k3, k4, k5, k6, k7]) h') :=
  w_end (keep_c h0 (keep_c h1 (keep_c h2 (keep_c h3 (keep_c h4 (keep_c h5 (keep_c h6 (keep_c h7 (keep_nil _))))))))) hq
theorem w_end9 {k0 k1 k2 k3 k4 k5 k6 k7 k8 : Nat} {x0 x1 x2 x3 x4 x5 x6 x7 x8 : AV} (h0 : E.get k0 = some x0) (h1 : E.get k1 = some x1) (h2 : E.get k2 = some x2) (h3 : E.get k3 = some x3) (h4 : E.get k4 = some x4) (h5 : E.get k5 = some x5) (h6 : E.get k6 = some x6) (h7 : E.get k7 = some x7) (h8 : E.get k8 = some x8) (hq : Q .nm [(k0, some x0), (k1, some x1), (k2, some x2), (k3, some x3), (k4, some x4), (k5, some x5), (k6, some x6), (k7, some x7), (k8, some x8)] h) : wOps FT HK [] E h (fun E' h' => Q .nm (E'.keep [k0, k1, k2, k3, k4, k5, k6, k7, k8]) h') :=
  w_end (keep_c h0 (keep_c h1 (keep_c h2 (keep_c h3 (keep_c h4 (keep_c h5 (keep_c h6 (keep_c h7 (keep_c h8 (keep_nil _)))))))))) hq
theorem w_end10 {k0 k1 k2 k3 k4 k5 k6 k7 k8 k9 : Nat} {x0 x1 x2 x3 x4 x5 x6 x7 x8 x9 : AV} (h0 : E.get k0 = some x0) (h1 : E.get k1 = some x1) (h2 : E.get k2 = some x2) (h3 : E.get k3 = some x3) (h4 : E.get k4 = some x4) (h5 : E.get k5 = some x5) (h6 : E.get k6 = some x6) (h7 : E.get k7 = some x7) (h8 : E.get k8 = some x8) (h9 : E.get k9 = some x9) (hq : Q .nm [(k0, some x0), (k1, some x1), (k2, some x2), (k3, some x3), (k4, some x4), (k5, some x5), (k6, some x6), (k7, some x7), (k8, some x8), (k9, some x9)] h) : wOps FT HK [] E h (fun E' h' => Q .nm (E'.keep [k0, k1, k2, k3, k4, k5, k6, k7, k8, k9]) h') :=
  w_end (keep_c h0 (keep_c h1 (keep_c h2 (keep_c h3 (keep_c h4 (keep_c h5 (keep_c h6 (keep_c h7 (keep_c h8 (keep_c h9 (keep_nil _))))))))))) hq
theorem w_end11 {k0 k1 k2 k3 k4 k5 k6 k7 k8 k9 k10 : Nat} {x0 x1 x2 x3 x4 x5 x6 x7 x8 x9 x10 : AV} (h0 : E.get k0 = some x0) (h1 : E.get k1 = some x1) (h2 : E.get k2 = some x2) (h3 : E.get k3 = some x3) (h4 : E.get k4 = some x4) (h5 : E.get k5 = some x5) (h6 : E.get k6 = some x6) (h7 : E.get k7 = some x7) (h8 : E.get k8 = some x8) (h9 : E.get k9 = some x9) (h10 : E.get k10 = some x10) (hq : Q .nm [(k0, some x0), (k1, some x1), (k2, some x2), (k3, some x3), (k4, some x4), (k5, some x5), (k6, some x6), (k7, some x7), (k8, some x8), (k9, some x9), (k10, some x10)] h) : wOps FT HK [] E h (fun E' h' => Q .nm (E'.keep [k0, k1, k2, k3, k4, k5, k6, k7, k8, k9, k10]) h') :=
  w_end (keep_c h0 (keep_c h1 (keep_c h2 (keep_c h3 (keep_c h4 (keep_c h5 (keep_c h6 (keep_c h7 (keep_c h8 (keep_c h9 (keep_c h10 (keep_nil _)))))))))))) hq
theorem w_end12 {k0 k1 k2 k3 k4 k5 k6 k7 k8 k9 k10 k11 : Nat} {x0 x1 x2 x3 x4 x5 x6 x7 x8 x9 x10 x11 : AV} (h0 : E.get k0 = some x0) (h1 : E.get k1 = some x1) (h2 : E.get k2 = some x2) (h3 : E.get k3 = some x3) (h4 : E.get k4 = some x4) (h5 : E.get k5 = some x5) (h6 : E.get k6 = some x6) (h7 : E.get k7 = some x7) (h8 : E.get k8 = some x8) (h9 : E.get k9 = some x9) (h10 : E.get k10 = some x10) (h11 : E.get k11 = some x11) (hq : Q .nm [(k0, some x0), (k1, some x1), (k2, some x2), (k3, some x3), (k4, some x4), (k5, some x5), (k6, some x6), (k7, some x7), (k8, some x8), (k9, some x9), (k10, some x10), (k11, some x11)] h) : wOps FT HK [] E h (fun E' h' => Q .nm (E'.keep [k0, k1, k2, k3, k4, k5, k6, k7, k8, k9, k10, k11]) h') :=
  w_end (keep_c h0 (keep_c h1 (keep_c h2 (keep_c h3 (keep_c h4 (keep_c h5 (keep_c h6 (keep_c h7 (keep_c h8 (keep_c h9 (keep_c h10 (keep_c h11 (keep_nil _))))))))))))) hq
theorem w_end13 {k0 k1 k2 k3 k4 k5 k6 k7 k8 k9 k10 k11 k12 : Nat} {x0 x1 x2 x3 x4 x5 x6 x7 x8 x9 x10 x11 x12 : AV} (h0 : E.get k0 = some x0) (h1 : E.get k1 = some x1) (h2 : E.get k2 = some x2) (h3 : E.get k3 = some x3) (h4 : E.get k4 = some x4) (h5 : E.get k5 = some x5) (h6 : E.get k6 = some x6) (h7 : E.get k7 = some x7) (h8 : E.get k8 = some x8) (h9 : E.get k9 = some x9) (h10 : E.get k10 = some x10) (h11 : E.get k11 = some x11) (h12 : E.get k12 = some x12) (hq : Q .nm [(k0, some x0), (k1, some x1), (k2, some x2), (k3, some x3), (k4, some x4), (k5, some x5), (k6, some x6), (k7, some x7), (k8, some x8), (k9, some x9), (k10, some x10), (k11, some x11), (k12, some x12)] h) : wOps FT HK [] E h (fun E' h' => Q .nm (E'.keep [k0, k1, k2, k3, k4, k5, k6, k7, k8, k9, k10, k11, k12]) h') :=
  w_end (keep_c h0 (keep_c h1 (keep_c h2 (keep_c h3 (keep_c h4 (keep_c h5 (keep_c h6 (keep_c h7 (keep_c h8 (keep_c h9 (keep_c h10 (keep_c h11 (keep_c h12 (keep_nil _)))))))))))))) hq
theorem w_end14 {k0 k1 k2 k3 k4 k5 k6 k7 k8 k9 k10 k11 k12 k13 : Nat} {x0 x1 x2 x3 x4 x5 x6 x7 x8 x9 x10 x11 x12 x13 : AV} (h0 : E.get k0 = some x0) (h1 : E.get k1 = some x1) (h2 : E.get k2 = some x2) (h3 : E.get k3 = some x3) (h4 : E.get k4 = some x4) (h5 : E.get k5 = some x5) (h6 : E.get k6 = some x6) (h7 : E.get k7 = some x7) (h8 : E.get k8 = some x8) (h9 : E.get k9 = some x9) (h10 : E.get k10 = some x10) (h11 : E.get k11 = some x11) (h12 : E.get k12 = some x12) (h13 : E.get k13 = some x13) (hq : Q .nm [(k0, some x0), (k1, some x1), (k2, some x2), (k3, some x3), (k4, some x4), (k5, some x5), (k6, some x6), (k7, some x7), (k8, some x8), (k9, some x9), (k10, some x10), (k11, some x11), (k12, some x12), (k13, some x13)] h) : wOps FT HK [] E h (fun E' h' => Q .nm (E'.keep [k0, k1, k2, k3, k4, k5, k6, k7, k8, k9, k10, k11, k12, k13]) h') :=
  w_end (keep_c h0 (keep_c h1 (keep_c h2 (keep_c h3 (keep_c h4 (keep_c h5 (keep_c h6 (keep_c h7 (keep_c h8 (keep_c h9 (keep_c h10 (keep_c h11 (keep_c h12 (keep_c h13 (keep_nil _))))))))))))))) hq
theorem w_end15 {k0 k1 k2 k3 k4 k5 k6 k7 k8 k9 k10 k11 k12 k13 k14 : Nat} {x0 x1 x2 x3 x4 x5 x6 x7 x8 x9 x10 x11 x12 x13 x14 : AV} (h0 : E.get k0 = some x0) (h1 : E.get k1 = some x1) (h2 : E.get k2 = some x2) (h3 : E.get k3 = some x3) (h4 : E.get k4 = some x4) (h5 : E.get k5 = some x5) (h6 : E.get k6 = some x6) (h7 : E.get k7 = some x7) (h8 : E.get k8 = some x8) (h9 : E.get k9 = some x9) (h10 : E.get k10 = some x10) (h11 : E.get k11 = some x11) (h12 : E.get k12 = some x12) (h13 : E.get k13 = some x13) (h14 : E.get k14 = some x14) (hq : Q .nm [(k0, some x0), (k1, some x1), (k2, some x2), (k3, some x3), (k4, some x4), (k5, some x5), (k6, some x6), (k7, some x7), (k8, some x8), (k9, some x9), (k10, some x10), (k11, some x11), (k12, some x12), (k13, some x13), (k14, some x14)] h) : wOps FT HK [] E h (fun E' h' => Q .nm (E'.keep [k0, k1, k2, k3, k4, k5, k6, k7, k8, k9, k10, k11, k12, k13, k14]) h') :=
  w_end (keep_c h0 (keep_c h1 (keep_c h2 (keep_c h3 (keep_c h4 (keep_c h5 (keep_c h6 (keep_c h7 (keep_c h8 (keep_c h9 (keep_c h10 (keep_c h11 (keep_c h12 (keep_c h13 (keep_c h14 (keep_nil _)))))))))))))))) hq
theorem w_end16 {k0 k1 k2 k3 k4 k5 k6 k7 k8 k9 k10 k11 k12 k13 k14 k15 : Nat} {x0 x1 x2 x3 x4 x5 x6 x7 x8 x9 x10 x11 x12 x13 x14 x15 : AV} (h0 : E.get k0 = some x0) (h1 : E.get k1 = some x1) (h2 : E.get k2 = some x2) (h3 : E.get k3 = some x3) (h4 : E.get k4 = some x4) (h5 : E.get k5 = some x5) (h6 : E.get k6 = some x6) (h7 : E.get k7 = some x7) (h8 : E.get k8 = some x8) (h9 : E.get k9 = some x9) (h10 : E.get k10 = some x10) (h11 : E.get k11 = some x11) (h12 : E.get k12 = some x12) (h13 : E.get k13 = some x13) (h14 : E.get k14 = some x14) (h15 : E.get k15 = some x15) (hq : Q .nm [(k0, some x0), (k1, some x1), (k2, some x2), (k3, some x3), (k4, some x4), (k5, some x5), (k6, some x6), (k7, some x7), (k8, some x8), (k9, some x9), (k10, some x10), (k11, some x11), (k12, some x12), (k13, some x13), (k14, some x14), (k15, some x15)] h) : wOps FT HK [] E h (fun E' h' => Q .nm (E'.keep [k0, k1, k2, k3, k4, k5, k6, k7, k8, k9, k10, k11, k12, k13, k14, k15]) h') :=
  w_end (keep_c h0 (keep_c h1 (keep_c h2 (keep_c h3 (keep_c h4 (keep_c h5 (keep_c h6 (keep_c h7 (keep_c h8 (keep_c h9 (keep_c h10 (keep_c h11 (keep_c h12 (keep_c h13 (keep_c h14 (keep_c h15 (keep_nil _))))))))))))))))) hq
end
end Go.Ab

