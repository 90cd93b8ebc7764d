import Derived.Test.YtleoalcbgpjieaaDoorAb38
import Derived.Test.YtleoalcbgpjieaaDoorAb29
/- Arithmetic of 64 bits without a sign. -/
namespace Go.Ab
set_option linter.unusedVariables false

theorem wrap_u (n : Int) : IntKind.u64.wrap n = n % 18446744073709551616 := by
  simp [IntKind.wrap, IntKind.signed, IntKind.bits]
section
variable {FT : FuncId → Option AFun} {HK : FuncId → Option Hook} {E : Env} {h : Heap} {K : Env → Heap → Prop} {d : Option Nat} {r : List AOp} {x y z : AO} {m n k : Int}
theorem k_addU (hx : evS E x = some (.int .u64 m)) (hy : evS E y = some (.int .u64 n)) (hw : wOps FT HK r (bindE d (some (.sc (.int .u64 ((m + n) % 18446744073709551616)))) E) h K) : wOps FT HK (⟨d, .bin .add x y, none⟩ :: r) E h K :=
  op_ok rfl rfl (by simp [step1, hx, hy, binS, isShift, binI, wrapI, wrap_u]) hw
theorem k_subU (hx : evS E x = some (.int .u64 m)) (hy : evS E y = some (.int .u64 n)) (hw : wOps FT HK r (bindE d (some (.sc (.int .u64 ((m - n) % 18446744073709551616)))) E) h K) : wOps FT HK (⟨d, .bin .sub x y, none⟩ :: r) E h K :=
  op_ok rfl rfl (by simp [step1, hx, hy, binS, isShift, binI, wrapI, wrap_u]) hw
theorem k_mulU (hx : evS E x = some (.int .u64 m)) (hy : evS E y = some (.int .u64 n)) (hw : wOps FT HK r (bindE d (some (.sc (.int .u64 ((m * n) % 18446744073709551616)))) E) h K) : wOps FT HK (⟨d, .bin .mul x y, none⟩ :: r) E h K :=
  op_ok rfl rfl (by simp [step1, hx, hy, binS, isShift, binI, wrapI, wrap_u]) hw
/-- .. where the result fits. -/
theorem k_addV (hx : evS E x = some (.int .u64 m)) (hy : evS E y = some (.int .u64 n)) (hr : 0 ≤ m + n ∧ m + n < 18446744073709551616) (hw : wOps FT HK r (bindE d (some (.sc (.int .u64 (m + n)))) E) h K) : wOps FT HK (⟨d, .bin .add x y, none⟩ :: r) E h K :=
  k_addU hx hy (by rw [Int.emod_eq_of_lt hr.1 hr.2]; exact hw)
theorem k_subV (hx : evS E x = some (.int .u64 m)) (hy : evS E y = some (.int .u64 n)) (hr : 0 ≤ m - n ∧ m - n < 18446744073709551616) (hw : wOps FT HK r (bindE d (some (.sc (.int .u64 (m - n)))) E) h K) : wOps FT HK (⟨d, .bin .sub x y, none⟩ :: r) E h K :=
  k_subU hx hy (by rw [Int.emod_eq_of_lt hr.1 hr.2]; exact hw)
theorem k_mulV (hx : evS E x = some (.int .u64 m)) (hy : evS E y = some (.int .u64 n)) (hr : 0 ≤ m * n ∧ m * n < 18446744073709551616) (hw : wOps FT HK r (bindE d (some (.sc (.int .u64 (m * n)))) E) h K) : wOps FT HK (⟨d, .bin .mul x y, none⟩ :: r) E h K :=
  k_mulU hx hy (by rw [Int.emod_eq_of_lt hr.1 hr.2]; exact hw)
theorem k_negU (hx : evS E x = some (.int .u64 m)) (hw : wOps FT HK r (bindE d (some (.sc (.int .u64 ((-m) % 18446744073709551616)))) E) h K) : wOps FT HK (⟨d, .un .neg x, none⟩ :: r) E h K :=
  op_ok rfl rfl (by simp [step1, hx, unS, wrapI, wrap_u]) hw
theorem k_cvU {kd : IntKind} (hx : evS E x = some (.int kd m)) (hw : wOps FT HK r (bindE d (some (.sc (.int .u64 (m % 18446744073709551616)))) E) h K) : wOps FT HK (⟨d, .conv .u64 x, none⟩ :: r) E h K :=
  op_ok rfl rfl (by simp [step1, hx, wrapI, wrap_u]) hw
theorem k_cvV {kd : IntKind} (hx : evS E x = some (.int kd m)) (hr : 0 ≤ m ∧ m < 18446744073709551616) (hw : wOps FT HK r (bindE d (some (.sc (.int .u64 m))) E) h K) : wOps FT HK (⟨d, .conv .u64 x, none⟩ :: r) E h K :=
  k_cvU hx (by rw [Int.emod_eq_of_lt hr.1 hr.2]; exact hw)
theorem k_quoU (hx : evS E x = some (.int .u64 m)) (hy : evS E y = some (.int .u64 n)) (hr : 0 ≤ m ∧ m < 18446744073709551616 ∧ 0 < n) (hw : wOps FT HK r (bindE d (some (.sc (.int .u64 (m / n)))) E) h K) : wOps FT HK (⟨d, .bin .quo x y, none⟩ :: r) E h K := by
  refine op_ok rfl rfl ?_ hw
  have h0 : n ≠ 0 := by omega
  have h1 : m.tdiv n = m / n := Int.tdiv_eq_ediv_of_nonneg hr.1
  have h2 : 0 ≤ m / n := Int.ediv_nonneg hr.1 (by omega)
  have h3 : m / n ≤ m := Int.ediv_le_self _ hr.1
  simp only [step1, hx, hy, binS, isShift, binI, Option.bind_some, Bool.false_eq_true, if_false, if_true, if_neg h0, wrapI, wrap_u, h1]
  rw [Int.emod_eq_of_lt h2 (by omega)]; rfl
theorem k_remU (hx : evS E x = some (.int .u64 m)) (hy : evS E y = some (.int .u64 n)) (hr : 0 ≤ m ∧ 0 < n) (hw : wOps FT HK r (bindE d (some (.sc (.int .u64 (m % n)))) E) h K) : wOps FT HK (⟨d, .bin .rem x y, none⟩ :: r) E h K := by
  refine op_ok rfl rfl ?_ hw
  have h0 : n ≠ 0 := by omega
  have h1 : m.tmod n = m % n := Int.tmod_eq_emod_of_nonneg hr.1
  simp only [step1, hx, hy, binS, isShift, binI, Option.bind_some, Bool.false_eq_true, if_false, if_true, if_neg h0, h1]; rfl
/-- Shifts by a known number of places. -/
theorem k_shrU {b : Int} {q : Nat} (hx : evS E x = some (.int .u64 m)) {k2 : IntKind} (hy : evS E y = some (.int k2 b)) (hb : b = (q : Nat)) (hq : q ≤ 64) (hw : wOps FT HK r (bindE d (some (.sc (.int .u64 (m / (2 ^ q : Nat))))) E) h K) : wOps FT HK (⟨d, .bin .shr x y, none⟩ :: r) E h K := by
  refine k_shr hx hy (by omega) ?_ hw
  subst hb
  rw [show min ((q : Nat) : Int).toNat IntKind.u64.bits = q by simp [IntKind.bits]; omega, Int.fdiv_eq_ediv_of_nonneg _ (by exact Int.le_of_lt (Int.pow_pos (by omega)))]
  rw [Int.natCast_pow]; rfl
theorem and_mask {a : Int} (h0 : 0 ≤ a) (h1 : a < 18446744073709551616) {q : Nat} (hq : q ≤ 64) : IntKind.u64.wrap ((BitVec.ofInt 64 a &&& BitVec.ofInt 64 (2 ^ q - 1 : Nat)).toNat : Int) = a % (2 ^ q : Nat) := by
  obtain ⟨n, rfl⟩ := Int.eq_ofNat_of_zero_le h0
  have hp : 2 ^ q ≤ 2 ^ 64 := Nat.pow_le_pow_right (by omega) hq
  have hpos : 0 < 2 ^ q := Nat.pow_pos (by omega)
  have e1 : (BitVec.ofInt 64 ((n : Nat) : Int)).toNat = n := by
    rw [BitVec.ofInt_natCast, BitVec.toNat_ofNat, Nat.mod_eq_of_lt (by omega)]
  have e2 : (BitVec.ofInt 64 ((2 ^ q - 1 : Nat) : Int)).toNat = 2 ^ q - 1 := by
    rw [BitVec.ofInt_natCast, BitVec.toNat_ofNat, Nat.mod_eq_of_lt (by omega)]
  rw [BitVec.toNat_and, e1, e2, Nat.and_two_pow_sub_one_eq_mod, wrap_u]
  have := Nat.mod_lt n hpos
  rw [Int.emod_eq_of_lt (by omega) (by omega)]
  simp
theorem k_andU {q : Nat} {c : Int} (hx : evS E x = some (.int .u64 m)) (hy : evS E y = some (.int .u64 c)) (hr : 0 ≤ m ∧ m < 18446744073709551616) (hq : q ≤ 64) (hc : c = (2 ^ q - 1 : Nat)) (hw : wOps FT HK r (bindE d (some (.sc (.int .u64 (m % (2 ^ q : Nat))))) E) h K) : wOps FT HK (⟨d, .bin .and x y, none⟩ :: r) E h K := by
  refine op_ok rfl rfl ?_ hw
  subst hc
  have := and_mask hr.1 hr.2 hq
  simp only [step1, hx, hy, binS, isShift, binI, Option.bind_some, Bool.false_eq_true, if_false, if_true, wrapI]
  rw [show IntKind.bits .u64 = 64 from rfl, this]; rfl
/-- With a carry. -/
theorem k_car0 (hx : evS E x = some (.int .u64 m)) (hy : evS E y = some (.int .u64 n)) (hz : evS E z = some (.int .u64 k)) (hr : 0 ≤ m ∧ 0 ≤ n ∧ n < 18446744073709551616 ∧ 0 ≤ k ∧ k ≤ 1)
    (hw : wOps FT HK r (bindE d (some (.tup [.sc (.int .u64 ((m + n + k) % 18446744073709551616)), .sc (.int .u64 ((m + n + k) / 18446744073709551616))])) E) h K) : wOps FT HK (⟨d, .car false x y z, none⟩ :: r) E h K :=
  op_ok rfl rfl (by simp only [step1, hx, hy, hz]; rw [if_pos hr]; rfl) hw
theorem k_car1 (hx : evS E x = some (.int .u64 m)) (hy : evS E y = some (.int .u64 n)) (hz : evS E z = some (.int .u64 k)) (hr : 0 ≤ m ∧ 0 ≤ n ∧ n < 18446744073709551616 ∧ 0 ≤ k ∧ k ≤ 1)
    (hw : wOps FT HK r (bindE d (some (.tup [.sc (.int .u64 ((m + 18446744073709551616 - n - k) % 18446744073709551616)), .sc (.int .u64 (if m < n + k then 1 else 0))])) E) h K) : wOps FT HK (⟨d, .car true x y z, none⟩ :: r) E h K :=
  op_ok rfl rfl (by simp only [step1, hx, hy, hz]; rw [if_pos hr]; rfl) hw
/-- == of two integers each. -/
theorem k_seq2 {neg : Bool} {k1 k2 : IntKind} {a b p q : Int} (hx : ev E x = some (.agg [.int k1 a, .int k2 p])) (hy : ev E y = some (.agg [.int k1 b, .int k2 q])) (hw : wOps FT HK r (bindE d (some (.sc (.bool (if neg then !(a == b && p == q) else (a == b && p == q))))) E) h K) :
    wOps FT HK (⟨d, .seq2 neg x y, none⟩ :: r) E h K :=
  op_ok rfl rfl (by simp [step1, hx, hy]) hw
end
end Go.Ab


/- Slices of pairs of cells: wherever they lie; of one's own: made, appended to, read, written. -/
namespace Go.Ab
set_option linter.unusedVariables false

abbrev P2 := SV × SV
def prs : List P2 → List SV
  | [] => []
  | p :: r => p.1 :: p.2 :: prs r
theorem prs_len : ∀ ps : List P2, (prs ps).length = ps.length * 2
  | [] => rfl
  | p :: r => by simp [prs, prs_len r]; omega
theorem prs_app : ∀ a b : List P2, prs (a ++ b) = prs a ++ prs b
  | [], b => rfl
  | p :: r, b => by simp [prs, prs_app r b]
theorem prs_at : ∀ {ps : List P2} {i : Nat} {p : P2}, ps[i]? = some p → ((prs ps).drop (i * 2)).take 2 = [p.1, p.2]
  | [], i, p, h => by simp at h
  | q :: r, 0, p, h => by simp at h; subst h; simp [prs]
  | q :: r, i + 1, p, h => by
    have e : (i + 1) * 2 = i * 2 + 1 + 1 := by omega
    rw [e]
    simp only [prs, List.drop_succ_cons]
    exact prs_at (by simpa using h)
theorem prs_take : ∀ (ps : List P2) (n : Nat), prs (ps.take n) = (prs ps).take (n * 2)
  | [], n => by simp [prs]
  | p :: r, 0 => by simp [prs]
  | p :: r, n + 1 => by
    rw [show (n + 1) * 2 = n * 2 + 1 + 1 by omega]
    simp [prs, prs_take r n]
theorem prs_drop : ∀ (ps : List P2) (n : Nat), prs (ps.drop n) = (prs ps).drop (n * 2)
  | [], n => by simp [prs]
  | p :: r, 0 => by simp [prs]
  | p :: r, n + 1 => by
    rw [show (n + 1) * 2 = n * 2 + 1 + 1 by omega]
    simp [prs, prs_drop r n]
theorem prs_set {ps : List P2} {i : Nat} (hi : i < ps.length) (p : P2) : prs (ps.set i p) = (prs ps).take (i * 2) ++ [p.1, p.2] ++ (prs ps).drop (i * 2 + 2) := by
  rw [List.set_eq_take_append_cons_drop, if_pos hi, prs_app, prs_take]
  simp only [prs]
  rw [prs_drop, show (i + 1) * 2 = i * 2 + 2 by omega]
  simp
theorem rep_prs (a b : SV) : ∀ n, rep [a, b] n = prs (List.replicate n (a, b))
  | 0 => rfl
  | n + 1 => by rw [List.replicate_succ]; simp [rep, prs, rep_prs a b n]
/-- A slice of pairs. -/
def IsD (h : Heap) (s : SV) (ps : List P2) : Prop := IsSl h s 2 ps.length (prs ps)
theorem IsD.ext {h h' : Heap} {s : SV} {ps : List P2} (i : IsD h s ps) (e : Ext h h') : IsD h' s ps := IsSl.ext i e
theorem IsD.len {h : Heap} {s : SV} {ps : List P2} (i : IsD h s ps) : lenS false s = some (ps.length : Int) := IsSl.len i
theorem IsD.nil (h : Heap) : IsD h .nilS [] := .inl ⟨rfl, rfl, rfl⟩
theorem IsD.at {h : Heap} {s : SV} {ps : List P2} (hs : IsD h s ps) {i : Nat} {p : P2} (hp : ps[i]? = some p) : ∃ id off cap, s = .slc id off ps.length cap ∧ readN h id (off + i * 2) 2 = some [p.1, p.2] := by
  have hi := (List.getElem?_eq_some_iff.1 hp).1
  rcases hs with ⟨-, h0, -⟩ | ⟨id, off, cap, b, rfl, h1, h2, h3, h4⟩
  · omega
  · obtain ⟨cs, rw', rfl, hc⟩ := h4 (by omega)
    refine ⟨id, off, cap, rfl, ?_⟩
    unfold readN
    rw [h1]
    simp only
    unfold cut at hc ⊢
    simp only [ez2] at hc
    split at hc
    · simp only [Option.some.injEq] at hc
      rw [if_pos (by omega)]
      have : (cs.drop (off + i * 2)).take 2 = (((cs.drop off).take (ps.length * 2)).drop (i * 2)).take 2 := by
        rw [List.drop_take, List.drop_drop, List.take_take]
        rw [Nat.min_eq_left (by omega)]
      rw [this, hc, prs_at hp]
    · simp at hc
def RoomD (n : Nat) (bl : List SV) : Option Nat → Prop
  | none => n * 2 ≤ bl.length
  | some c => bl.length = c * 2 ∧ n ≤ c
/-- One's own. -/
def OwnD (h0 h : Heap) (s : SV) (ps : List P2) : Prop := (s = .nilS ∧ ps = []) ∨ ∃ id cap bl, s = .slc id 0 ps.length cap ∧ h0.length ≤ id ∧ h[id]? = some (.cells bl true 2) ∧ bl.take (ps.length * 2) = prs ps ∧ RoomD ps.length bl cap
theorem RoomD.le {n : Nat} {bl : List SV} {cap : Option Nat} (r : RoomD n bl cap) : n * 2 ≤ bl.length := by
  cases cap with
  | none => exact r
  | some c => have := r.1; have := r.2; omega
theorem OwnD.is {h0 h : Heap} {s : SV} {ps : List P2} (ho : OwnD h0 h s ps) : IsD h s ps := by
  rcases ho with ⟨rfl, rfl⟩ | ⟨id, cap, bl, rfl, h1, h2, h3, h4⟩
  · exact .inl ⟨rfl, rfl, rfl⟩
  · refine .inr ⟨id, 0, cap, _, rfl, h2, rfl, fun h => ?_, fun _ => ⟨bl, true, rfl, ?_⟩⟩
    · rw [List.eq_nil_of_length_eq_zero h]; rfl
    · have := h4.le
      unfold cut
      simp only [ez2]
      rw [if_pos (by omega), List.drop_zero, h3]
theorem OwnD.len {h0 h : Heap} {s : SV} {ps : List P2} (ho : OwnD h0 h s ps) : lenS false s = some (ps.length : Int) := ho.is.len
theorem OwnD.ext {h0 h h' : Heap} {s : SV} {ps : List P2} (ho : OwnD h0 h s ps) (he : Ext h h') : OwnD h0 h' s ps := by
  rcases ho with ho | ⟨id, cap, bl, rfl, h1, h2, h3⟩
  · exact .inl ho
  · exact .inr ⟨id, cap, bl, rfl, h1, he.get _ _ h2, h3⟩
theorem OwnD.weaken {h0 h1 h : Heap} {s : SV} {ps : List P2} (ho : OwnD h1 h s ps) (hl : h0.length ≤ h1.length) : OwnD h0 h s ps := by
  rcases ho with ho | ⟨id, cap, bl, rfl, e1, e2, e3⟩
  · exact .inl ho
  · exact .inr ⟨id, cap, bl, rfl, by omega, e2, e3⟩
theorem OwnD.not {h0 h : Heap} {s : SV} {ps : List P2} (ho : OwnD h0 h s ps) {j : Nat} (hj : j < h0.length) : NotAt s j := by
  rcases ho with ⟨rfl, -⟩ | ⟨id, cap, bl, rfl, h1, -⟩
  · intro o n c e; cases e
  · intro o n c e; cases e; omega
/-- No cell is its block. -/
theorem OwnD.cel {h0 h : Heap} {s : SV} {ps : List P2} (ho : OwnD h0 h s ps) {j : Nat} {cs : List SV} {rw' : Bool} (hj : h[j]? = some (.cells cs rw' 0)) : NotAt s j := by
  rcases ho with ⟨rfl, -⟩ | ⟨id, cap, bl, rfl, h1, h2, -⟩
  · intro o n c e; cases e
  · intro o n c e; cases e
    rw [hj] at h2; simp at h2
    exact absurd h2.2.2 (by decide)
theorem IsD.cel {h : Heap} {s : SV} {ps : List P2} (ho : IsD h s ps) {j : Nat} {cs : List SV} {rw' : Bool} (hj : h[j]? = some (.cells cs rw' 0)) : NotAt s j := by
  rcases ho with ⟨rfl, -⟩ | ⟨id, off, cap, b, rfl, h1, h2, -⟩
  · intro o n c e; cases e
  · intro o n c e; cases e
    rw [hj] at h1; simp at h1; subst h1
    exact absurd (show (0 : ESz) = 2 from h2) (by decide)
theorem OwnD.away {h0 h h' : Heap} {s s' t : SV} {ps : List P2} (ht : OwnD h0 h t ps) (hf : Fram h h' s s') (ha : Apart s t) : OwnD h0 h' t ps := by
  rcases ht with hs | ⟨id, cap, bl, rfl, h1, h2, h3⟩
  · exact .inl hs
  · exact .inr ⟨id, cap, bl, rfl, h1, (hf id _ h2 ((ha id).resolve_right fun hn => hn _ _ _ rfl)).1, h3⟩
/-- Where another block is written it stays. -/
theorem OwnD.set {h0 h : Heap} {s : SV} {ps : List P2} (ho : OwnD h0 h s ps) {j : Nat} (hn : NotAt s j) (b : Blk) : OwnD h0 (h.set j b) s ps := by
  rcases ho with ho | ⟨id, cap, bl, rfl, h1, h2, h3⟩
  · exact .inl ho
  · exact .inr ⟨id, cap, bl, rfl, h1, by rw [List.getElem?_set_ne (fun e => by subst e; exact hn _ _ _ rfl)]; exact h2, h3⟩
theorem IsSl.setB {h : Heap} {t : SV} {e : ESz} {n : Nat} {ws : List SV} (ht : IsSl h t e n ws) {j : Nat} (hn : NotAt t j) (b : Blk) : IsSl (h.set j b) t e n ws :=
  ht.keep fun k c hk hx => by rw [List.getElem?_set_ne (fun e => by subst e; exact hx hn)]; exact hk
theorem appD {h0 h : Heap} {s : SV} {ps : List P2} {bytes : Nat} (he : Ext h0 h) (ho : OwnD h0 h s ps) (hb : (ps.length + 1) * (bytes + 1) ≤ bigN) (a b : SV) :
    ∃ s' h', appS h 2 bytes s 1 [a, b] = some (s', h') ∧ OwnD h0 h' s' (ps ++ [(a, b)]) ∧ Ext h0 h' ∧ h.length ≤ h'.length ∧ Fram h h' s s' := by
  have hl := he.len
  have hp : prs (ps ++ [(a, b)]) = prs ps ++ [a, b] := prs_app _ _
  have hpl : (ps ++ [(a, b)]).length = ps.length + 1 := by simp
  have hpr := prs_len ps
  rcases ho with ⟨rfl, rfl⟩ | ⟨id, cap, bl, rfl, h1, h2, h3, h4⟩
  · refine ⟨.slc h.length 0 1 none, h ++ [.cells [a, b] true 2], ?_, .inr ⟨h.length, none, [a, b], rfl, hl, by simp, rfl, by simp [RoomD]⟩, he.app _, by simp, fun j b' hj hn => ?_⟩
    · simp only [appS]
      rw [if_neg (by omega), if_pos (by simp at hb; omega)]
    · have hjl := (List.getElem?_eq_some_iff.1 hj).1
      exact ⟨mono_app j b' hj, fun o n c hc => by cases hc; omega⟩
  · have hid : id < h.length := (List.getElem?_eq_some_iff.1 h2).1
    have hle := h4.le
    have hcut : cut bl 0 (ps.length * 2) = some (prs ps) := by
      unfold cut
      rw [if_pos (by omega), List.drop_zero, h3]
    have fresh : ∀ (j : Nat) (b : Blk), h[j]? = some b → ∀ k, NotAt (SV.slc h.length 0 k none) j := by
      intro j b hj k o n c hc
      have := (List.getElem?_eq_some_iff.1 hj).1
      cases hc; omega
    cases cap with
    | none =>
      refine ⟨.slc h.length 0 (ps.length + 1) none, h.set id (.dead 2) ++ [.cells (prs ps ++ [a, b]) true 2], ?_, ?_, (he.set h1 _).app _, by simp, ?_⟩
      · simp only [appS]
        rw [if_neg (by omega), if_pos hb, h2]
        simp only [if_true, ez2, hcut]
        rw [if_pos ⟨trivial, .inl rfl⟩]
      · refine .inr ⟨h.length, none, prs ps ++ [a, b], by rw [hpl], hl, ?_, ?_, by simp [RoomD, hpr]; omega⟩
        · rw [List.getElem?_append_right (by simp)]; simp
        · rw [hp, List.take_of_length_le (by simp [hpr]; omega)]
      · intro j b' hj hn
        have hne : id ≠ j := fun e => by subst e; exact hn _ _ _ rfl
        refine ⟨mono_app j b' ?_, fresh j b' hj _⟩
        rw [List.getElem?_set_ne hne]; exact hj
    | some c =>
      obtain ⟨h5, h6⟩ := h4
      by_cases hc : c < ps.length + 1
      · refine ⟨.slc h.length 0 (ps.length + 1) none, h ++ [.cells (prs ps ++ [a, b]) true 2], ?_, ?_, he.app _, by simp, ?_⟩
        · simp only [appS]
          rw [if_neg (by omega), if_pos hb, h2]
          simp only [if_true, ez2, hcut]
          rw [if_pos hc]
        · refine .inr ⟨h.length, none, prs ps ++ [a, b], by rw [hpl], hl, ?_, ?_, by simp [RoomD, hpr]; omega⟩
          · rw [List.getElem?_append_right (Nat.le_refl _)]; simp
          · rw [hp, List.take_of_length_le (by simp [hpr]; omega)]
        · exact fun j b' hj hn => ⟨mono_app j b' hj, fresh j b' hj _⟩
      · have hsl : (splice bl (0 + ps.length * 2) [a, b]).length = c * 2 := by simp [splice]; omega
        refine ⟨.slc id 0 (ps.length + 1) (some c), h.set id (.cells (splice bl (0 + ps.length * 2) [a, b]) true 2), ?_, ?_, he.set h1 _, by simp, ?_⟩
        · simp only [appS]
          rw [if_neg (by omega), if_pos hb, h2]
          simp only [if_true, ez2, hcut]
          rw [if_neg hc]
          simp only [writeN, h2]
          rw [if_pos (by simp; omega)]; rfl
        · refine .inr ⟨id, some c, splice bl (0 + ps.length * 2) [a, b], by rw [hpl], h1, List.getElem?_set_self hid, ?_, ?_⟩
          · rw [hp, hpl]
            simp only [splice, Nat.zero_add]
            rw [h3, List.take_append_of_le_length (by simp [hpr]; omega), List.take_of_length_le (by simp [hpr]; omega)]
          · rw [hpl]; exact ⟨hsl, by omega⟩
        · intro j b' hj hn
          have hne : id ≠ j := fun e => by subst e; exact hn _ _ _ rfl
          refine ⟨?_, fun o n c' e => hn _ _ _ (by cases e; rfl)⟩
          rw [List.getElem?_set_ne hne]; exact hj
/-- A pair is read. -/
theorem OwnD.rd {h0 h : Heap} {s : SV} {ps : List P2} {i : Nat} {p : P2} (ho : OwnD h0 h s ps) (hp : ps[i]? = some p) : ∃ id cap, s = .slc id 0 ps.length cap ∧ readN h id (0 + i * 2) 2 = some [p.1, p.2] := by
  obtain ⟨id, off, cap, e, hr⟩ := ho.is.at hp
  rcases ho with ⟨rfl, rfl⟩ | ⟨id2, cap2, bl, rfl, h1, h2, h3⟩
  · simp at hp
  · cases e
    exact ⟨id, cap, rfl, hr⟩
/-- .. and is written. -/
theorem OwnD.wr {h0 h : Heap} {s : SV} {ps : List P2} {i : Nat} (he : Ext h0 h) (ho : OwnD h0 h s ps) (hi : i < ps.length) (a b : SV) :
    ∃ id cap h', s = .slc id 0 ps.length cap ∧ writeN h id (0 + i * 2) [a, b] = some h' ∧ OwnD h0 h' s (ps.set i (a, b)) ∧ Ext h0 h' ∧ Fram h h' s s ∧ h'.length = h.length := by
  rcases ho with ⟨rfl, rfl⟩ | ⟨id, cap, bl, rfl, h1, h2, h3, h4⟩
  · simp at hi
  · have hle := h4.le
    have hid : id < h.length := (List.getElem?_eq_some_iff.1 h2).1
    have hpr := prs_len ps
    refine ⟨id, cap, h.set id (.cells (splice bl (i * 2) [a, b]) true 2), rfl, ?_, .inr ⟨id, cap, splice bl (i * 2) [a, b], by simp, h1, List.getElem?_set_self hid, ?_, ?_⟩, he.set h1 _, ?_, by simp⟩
    · simp only [writeN, h2, Nat.zero_add]
      rw [if_pos (by simp; omega)]
    · rw [List.length_set, prs_set hi]
      simp only [splice, List.length_cons, List.length_nil]
      have e1 : bl.take (i * 2) = (prs ps).take (i * 2) := by
        rw [← h3, List.take_take, Nat.min_eq_left (by omega)]
      have e2 : (bl.drop (i * 2 + 2)).take (ps.length * 2 - (i * 2 + 2)) = (prs ps).drop (i * 2 + 2) := by
        rw [← h3, List.drop_take]
      rw [List.take_append, List.take_append]
      simp only [List.length_append, List.length_take, List.length_cons, List.length_nil]
      rw [Nat.min_eq_left (by omega), List.take_of_length_le (l := bl.take (i * 2)) (by simp; omega), List.take_of_length_le (l := [a, b]) (by simp; omega), e1,
        show ps.length * 2 - (i * 2 + (0 + 1 + 1)) = ps.length * 2 - (i * 2 + 2) by omega, show i * 2 + (0 + 1 + 1) = i * 2 + 2 by omega, e2]
    · rw [List.length_set]
      have hsl : (splice bl (i * 2) [a, b]).length = bl.length := by simp [splice]; omega
      cases cap with
      | none => show _ ≤ _; rw [hsl]; exact h4
      | some c => exact ⟨by rw [hsl]; exact h4.1, h4.2⟩
    · intro j b' hj hn
      have hne : id ≠ j := fun e => by subst e; exact hn _ _ _ rfl
      exact ⟨by rw [List.getElem?_set_ne hne]; exact hj, hn⟩
section
variable {FT : FuncId → Option AFun} {HK : FuncId → Option Hook} {E : Env} {h h0 : Heap} {K : Env → Heap → Prop} {d : Option Nat} {r : List AOp} {x y xo so : AO}
theorem k_mkD {bytes : Nat} {a b : SV} {n m : Int} {k1 k2 : IntKind} (he : Ext h0 h) (hx : evS E x = some (.int k1 n)) (hy : evS E y = some (.int k2 m)) (hb : 0 ≤ n ∧ n ≤ m ∧ m * (bytes + 1 : Nat) ≤ bigN)
    (hw : ∀ s h1, OwnD h h1 s (List.replicate n.toNat (a, b)) → Ext h h1 → Ext h0 h1 → h.length < h1.length → wOps FT HK r (bindE d (some (.sc s)) E) h1 K) : wOps FT HK (⟨d, .mk 2 bytes [a, b] x y, none⟩ :: r) E h K := by
  refine op_mk rfl hx hy hb (hw _ _ ?_ ⟨_, rfl⟩ (he.app _) (by simp))
  refine .inr ⟨h.length, some m.toNat, rep [a, b] m.toNat, by simp, Nat.le_refl _, by simp, ?_, ?_⟩
  · rw [rep_prs, List.length_replicate, ← prs_take, List.take_replicate, Nat.min_eq_left (by omega)]
  · rw [List.length_replicate, rep_prs]
    exact ⟨by rw [prs_len, List.length_replicate], by omega⟩
theorem k_pushD {t bytes : Nat} {s a b z0 z1 : SV} {ps : List P2} {z2 : List SV} (he : Ext h0 h) (ho : OwnD h0 h s ps) (hx : ev E xo = some (.agg [a, b])) (hs : evS (bindE (some t) (some (.sc (.slc h.length 0 1 (some 1)))) E) so = some s) (hb : (ps.length + 1) * (bytes + 1) ≤ bigN)
    (hw : ∀ s' h', OwnD h0 h' s' (ps ++ [(a, b)]) → Ext h0 h' → Fram h h' s s' → h.length ≤ h'.length → wOps FT HK r (bindE d (some (.sc s')) (bindE (some t) (some (.sc (.slc h.length 0 1 (some 1)))) E)) h' K) :
    wOps FT HK (⟨some t, .bsl 2 [z0, z1] 1 [(0, xo)], none⟩ :: ⟨d, .app 2 bytes z2 so (.t t), none⟩ :: r) E h K := by
  obtain ⟨s', h', h1, h2, h3, h4, h5⟩ := appD (bytes := bytes) (h := h ++ [.cells [a, b] true 2]) (he.app _) (ho.ext ⟨_, rfl⟩) hb a b
  refine op_ok (v := some (.sc (.slc h.length 0 1 (some 1)))) (h' := h ++ [.cells [a, b] true 2]) rfl rfl ?_ ?_
  · simp [step1, evParts, hx, AV.cells, fillA, rep, splice, ez2]
  refine op_ok (v := some (.sc s')) (h' := h') rfl rfl ?_ (hw s' h' h2 h3 (fun j b' hj hn => h5 j b' (mono_app j b' hj) hn) (by simp at h4; omega))
  have e1 : evS (bindE (some t) (some (.sc (.slc h.length 0 1 (some 1)))) E) (.t t) = some (.slc h.length 0 1 (some 1)) := by simp [evS, ev, bindE, Env.get]
  have e2 : srcCells (h ++ [Blk.cells [a, b] true 2]) 2 (.slc h.length 0 1 (some 1)) = some (1, [a, b]) := by simp [srcCells, readN, cut]
  simp only [step1, hs, e1, Option.bind_some, ez2, e2, h1, Option.map_some]
/-- A pair is loaded, and stored. -/
theorem k_ldD {id off : Nat} {a b : SV} (hx : evS E x = some (.ptr id off)) (hr : readN h id off 2 = some [a, b]) (hw : wOps FT HK r (bindE d (some (.agg [a, b])) E) h K) : wOps FT HK (⟨d, .ld 2 true x, none⟩ :: r) E h K :=
  op_ok rfl rfl (by simp [step1, hx, hr, cellsAV]) hw
theorem k_stD {id off : Nat} {a b : SV} {h' : Heap} {p : AO} (ha : evS E p = some (.ptr id off)) (hx : ev E x = some (.agg [a, b])) (hr : writeN h id off [a, b] = some h') (hw : wOps FT HK r (bindE d none E) h' K) : wOps FT HK (⟨d, .st 2 p x, none⟩ :: r) E h K :=
  op_ok rfl rfl (by simp [step1, ha, hx, AV.cells, hr]) hw
theorem w_nilK (hw : K E h) : wOps FT HK [] E h K := hw
/-- A cell of one value: new, stored. -/
theorem k_new1 {a : SV} (hw : ∀ h1, Ext h h1 → h1[h.length]? = some (.cells [a] true 0) → wOps FT HK r (bindE d (some (.sc (.ptr h.length 0))) E) h1 K) : wOps FT HK (⟨d, .new [a], none⟩ :: r) E h K :=
  op_ok (v := some (.sc (.ptr h.length 0))) (h' := h ++ [.cells [a] true 0]) rfl rfl rfl (hw _ ⟨_, rfl⟩ (by simp))
theorem k_st1 {q : Nat} {a v : SV} {p : AO} (ha : evS E p = some (.ptr q 0)) (hx : ev E x = some (.sc v)) (hc : h[q]? = some (.cells [a] true 0)) (hw : ∀ h1, h1 = h.set q (.cells [v] true 0) → h1[q]? = some (.cells [v] true 0) → wOps FT HK r (bindE d none E) h1 K) :
    wOps FT HK (⟨d, .st 1 p x, none⟩ :: r) E h K :=
  op_ok (v := none) (h' := h.set q (.cells [v] true 0)) rfl rfl (by simp [step1, ha, hx, AV.cells, writeN, hc, splice]) (hw _ rfl (List.getElem?_set_self (List.getElem?_eq_some_iff.1 hc).1))
/-- The second cell of two is stored. -/
theorem k_stC1 {q : Nat} {a b v : SV} {p : AO} (ha : evS E p = some (.ptr q (0 + 1))) (hx : ev E x = some (.sc v)) (hc : Cel h q a b) (hw : ∀ h1, Wr h h1 q a v → wOps FT HK r (bindE d none E) h1 K) :
    wOps FT HK (⟨d, .st 1 p x, none⟩ :: r) E h K :=
  op_ok (v := none) (h' := h.set q (.cells [a, v] true 0)) rfl rfl (by
    have hc' : h[q]? = some (.cells [a, b] true 0) := hc
    simp [step1, ha, hx, AV.cells, writeN, hc', splice]) (hw _ ⟨rfl, _, _, hc⟩)
end
theorem readN_ext {h h' : Heap} {id off n : Nat} {vs : List SV} (e : Ext h h') (hr : readN h id off n = some vs) : readN h' id off n = some vs := by
  unfold readN at hr ⊢
  split at hr
  · rename_i hg; rw [e.get _ _ hg]; exact hr
  · cases hr
theorem Cel.fram {h h' : Heap} {q : Nat} {a b s s' : SV} (c : Cel h q a b) (hf : Fram h h' s s') (hn : NotAt s q) : Cel h' q a b := (hf _ _ c hn).1
theorem OwnD.wrC {h0 h h1 : Heap} {q : Nat} {a b s : SV} {ps : List P2} (ho : OwnD h0 h s ps) (w : Wr h h1 q a b) : OwnD h0 h1 s ps := by
  obtain ⟨c, d, hc⟩ := w.old
  rw [w.eq]; exact ho.set (ho.cel hc) _
theorem IsD.wrC {h h1 : Heap} {q : Nat} {a b s : SV} {ps : List P2} (ho : IsD h s ps) (w : Wr h h1 q a b) : IsD h1 s ps := by
  obtain ⟨c, d, hc⟩ := w.old
  rw [w.eq]; exact IsSl.setB ho (ho.cel hc) _
end Go.Ab

