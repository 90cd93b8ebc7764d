import Derived.Test.YtehnalbdfnmphaaDoorAb35
import Derived.Test.YtehnalbdfnmphaaDoorAb32
/- Slices of bytes of one's own: read, written, made, grown; shifts. -/
namespace Go.Ab
set_option linter.unusedVariables false

/-- Numbers below 256, as bytes in memory. -/
def u8n (L : List Nat) : List SV := L.map fun (x : Nat) => .int .u8 (x : Int)
theorem u8n_len (L : List Nat) : (u8n L).length = L.length := by simp [u8n]
theorem u8n_app (L M : List Nat) : u8n (L ++ M) = u8n L ++ u8n M := by simp [u8n]
theorem u8n_set (L : List Nat) (i x : Nat) : u8n (L.set i x) = (u8n L).set i (.int .u8 (x : Int)) := by simp [u8n, List.map_set]
theorem u8n_u8s {L : List Nat} (h : ∀ x ∈ L, x < 256) : u8n L = u8s (L.map UInt8.ofNat) := by
  unfold u8n u8s
  rw [List.map_map]
  refine List.map_congr_left fun x hx => ?_
  have : (UInt8.ofNat x).toNat = x := by rw [UInt8.toNat_ofNat']; exact Nat.mod_eq_of_lt (h x hx)
  simp only [Function.comp, this]

theorem OwnZ.rd {z : ESz} {h0 h : Heap} {s : SV} {vs : List SV} {i : Nat} {v : SV} (ho : OwnZ z h0 h s vs) (hv : vs[i]? = some v) : ∃ id cap, s = .slc id 0 vs.length cap ∧ readN h id (0 + i * 1) 1 = some [v] := by
  rcases ho with ⟨rfl, rfl⟩ | ⟨id, cap, cs, rfl, h0', h1, h2, h3, h4⟩
  · simp at hv
  · refine ⟨id, cap, rfl, ?_⟩
    have hi := (List.getElem?_eq_some_iff.1 hv).1
    have hl : vs.length ≤ cs.length := by have := congrArg List.length h3; simp at this; omega
    have hc : cs[i]? = some v := by
      rw [← h3, List.getElem?_take_of_lt hi] at hv
      exact hv
    simp only [readN, h2]
    exact cut1 hc
theorem OwnZ.wr {z : ESz} {h0 h : Heap} {s : SV} {vs : List SV} {i : Nat} (he : Ext h0 h) (ho : OwnZ z h0 h s vs) (hi : i < vs.length) (v : SV) :
    ∃ id cap h', s = .slc id 0 vs.length cap ∧ writeN h id (0 + i * 1) [v] = some h' ∧ OwnZ z h0 h' s (vs.set i v) ∧ Ext h0 h' := by
  rcases ho with ⟨rfl, rfl⟩ | ⟨id, cap, cs, rfl, h0', h1, h2, h3, h4⟩
  · simp at hi
  · have hl : vs.length ≤ cs.length := by have := congrArg List.length h3; simp at this; omega
    have hid : id < h.length := (List.getElem?_eq_some_iff.1 h2).1
    have hsp : splice cs i [v] = cs.set i v := by
      rw [List.set_eq_take_append_cons_drop, if_pos (by omega)]
      simp [splice]
    refine ⟨id, cap, h.set id (.cells (cs.set i v) true z), rfl, ?_, .inr ⟨id, cap, cs.set i v, by simp, by simpa using h0', h1, List.getElem?_set_self hid, ?_, ?_⟩, he.set h1 _⟩
    · simp only [writeN, h2, Nat.zero_add, Nat.mul_one, List.length_singleton]
      rw [if_pos (by omega), hsp]
    · rw [List.length_set, List.take_set, h3]
    · cases cap with
      | none => simpa [Room] using h4
      | some c => simpa [Room] using h4
theorem OwnZ.all {z : ESz} {h0 h : Heap} {s : SV} {vs : List SV} (ho : OwnZ z h0 h s vs) (hn : 0 < vs.length) : ∃ id cap, s = .slc id 0 vs.length cap ∧ readN h id 0 vs.length = some vs := by
  rcases ho with ⟨rfl, rfl⟩ | ⟨id, cap, cs, rfl, h0', h1, h2, h3, h4⟩
  · simp at hn
  · refine ⟨id, cap, rfl, ?_⟩
    have hl : vs.length ≤ cs.length := by have := congrArg List.length h3; simp at this; omega
    simp only [readN, h2]
    unfold cut
    rw [if_pos (by omega), List.drop_zero, h3]
theorem OwnZ.weaken {z : ESz} {h0 h1 h : Heap} {s : SV} {vs : List SV} (hs : OwnZ z h1 h s vs) (hl : h0.length ≤ h1.length) : OwnZ z h0 h s vs := by
  rcases hs with hs | ⟨id, cap, cs, rfl, h0', h1, h2, h3⟩
  · exact .inl hs
  · exact .inr ⟨id, cap, cs, rfl, h0', by omega, h2, h3⟩

section
variable {FT : FuncId → Option AFun} {HK : FuncId → Option Hook} {E : Env} {h h0 : Heap} {K : Env → Heap → Prop} {d : Option Nat} {r : List AOp} {x y : AO}
theorem k_mkZ {z : ESz} {bytes : Nat} {v : SV} {n m : Int} {k1 k2 : IntKind} (he : Ext h0 h) (hx : evS E x = some (.int k1 n)) (hy : evS E y = some (.int k2 m)) (hb : 0 < n ∧ n ≤ m ∧ m * (bytes + 1 : Nat) ≤ bigN)
    (hw : ∀ s h1, OwnZ z h h1 s (List.replicate n.toNat v) → Ext h h1 → Ext h0 h1 → wOps FT HK r (bindE d (some (.sc s)) E) h1 K) : wOps FT HK (⟨d, .mk z bytes [v] x y, none⟩ :: r) E h K := by
  refine op_mk rfl hx hy ⟨by omega, hb.2⟩ (hw _ _ ?_ ⟨_, rfl⟩ (he.app _))
  refine .inr ⟨h.length, some m.toNat, rep [v] m.toNat, by simp, by simp; omega, Nat.le_refl _, by simp, ?_, ?_⟩
  · rw [rep1, List.length_replicate, List.take_replicate, Nat.min_eq_left (by omega)]
  · rw [rep1]; simp [Room]; omega
theorem k_pushZ {z : ESz} {s v zz : SV} {vs : List SV} {a b bytes : Nat} {ao bo : AO} {zs : List SV} (hz : z.n = 1) (he : Ext h0 h) (ho : OwnZ z h0 h s vs) (hx : ev E bo = some (.sc v)) (hs : evS (bindE (some a) (some (.sc (.slc h.length 0 1 (some 1)))) E) ao = some s) (hb : (vs.length + 1) * (bytes + 1) ≤ bigN)
    (hw : ∀ s' h', OwnZ z h0 h' s' (vs ++ [v]) → Ext h0 h' → wOps FT HK r (bindE (some b) (some (.sc s')) (bindE (some a) (some (.sc (.slc h.length 0 1 (some 1)))) E)) h' K) :
    wOps FT HK (⟨some a, .bsl z [zz] 1 [(0, bo)], none⟩ :: ⟨some b, .app z bytes zs ao (.t a), none⟩ :: r) E h K := by
  refine op_ok (v := some (.sc (.slc h.length 0 1 (some 1)))) (h' := h ++ [.cells [v] true z]) rfl rfl ?_ ?_
  · simp only [step1, hz]
    rw [if_pos (by omega)]
    simp [evParts, hx, AV.cells, fillA, rep, splice]
  · obtain ⟨s', h', h1, h2, h3, h4, h5⟩ := ownz_app (z := z) (bytes := bytes) (ws := [v]) hz (he.app [.cells [v] true z]) (ho.ext ⟨_, rfl⟩) hb
    refine op_ok (v := some (.sc s')) (h' := h') rfl rfl ?_ (hw s' h' h2 h3)
    simp only [step1, hs, Option.bind_some]
    have h6 : evS (bindE (some a) (some (.sc (.slc h.length 0 1 (some 1)))) E) (.t a) = some (.slc h.length 0 1 (some 1)) := by
      simp [evS, ev, bindE, Env.get]
    rw [h6]
    have hsrc : srcCells (h ++ [Blk.cells [v] true z]) 1 (.slc h.length 0 1 (some 1)) = some (1, [v]) := by
      simp only [srcCells]
      rw [if_neg (by omega), Nat.one_mul, rd_last rfl]; rfl
    simp only [Option.bind_some, hz, hsrc]
    rw [show ([v] : List SV).length = 1 from rfl] at h1
    rw [h1]; rfl
/-- A number that fits, as a byte. -/
theorem k_cv8 {kd : IntKind} {m : Int} (hx : evS E x = some (.int kd m)) (hr : 0 ≤ m ∧ m < 256) (hw : wOps FT HK r (bindE d (some (.sc (.int .u8 m))) E) h K) : wOps FT HK (⟨d, .conv .u8 x, none⟩ :: r) E h K := by
  refine op_ok (v := some (.sc (wrapI .u8 m))) (h' := h) rfl rfl (by simp only [step1, hx]) ?_
  have : IntKind.u8.wrap m = m := by
    obtain ⟨k, rfl⟩ : ∃ k : Nat, m = k := ⟨m.toNat, by omega⟩
    have hk : k < 256 := by omega
    simp only [IntKind.wrap]
    show (if IntKind.u8.signed = true then _ else _) = _
    simp [IntKind.signed, IntKind.bits]
    omega
  rw [wrapI, this]; exact hw
theorem k_shl {kd k2 : IntKind} {a b c : Int} (hx : evS E x = some (.int kd a)) (hy : evS E y = some (.int k2 b)) (h0 : 0 ≤ b) (hc : kd.wrap (a * 2 ^ (min b.toNat kd.bits)) = c) (hw : wOps FT HK r (bindE d (some (.sc (.int kd c))) E) h K) :
    wOps FT HK (⟨d, .bin .shl x y, none⟩ :: r) E h K := by
  refine op_ok (v := some (.sc (.int kd c))) (h' := h) rfl rfl ?_ hw
  simp only [step1, hx, hy, Option.bind_some, binS, isShift, if_true, shI]
  rw [if_neg (by omega)]
  simp only [wrapI, hc, Option.map_some]
theorem k_or8 {a b c : Int} (hx : evS E x = some (.int .u8 a)) (hy : evS E y = some (.int .u8 b)) (hc : IntKind.u8.wrap ((BitVec.ofInt 8 a ||| BitVec.ofInt 8 b).toNat : Int) = c) (hw : wOps FT HK r (bindE d (some (.sc (.int .u8 c))) E) h K) :
    wOps FT HK (⟨d, .bin .or x y, none⟩ :: r) E h K := by
  refine op_ok (v := some (.sc (.int .u8 c))) (h' := h) rfl rfl ?_ hw
  simp only [step1, hx, hy, Option.bind_some, binS, isShift, if_true, binI]
  simp only [wrapI]
  have : IntKind.u8.wrap ((BitVec.ofInt IntKind.u8.bits a ||| BitVec.ofInt IntKind.u8.bits b).toNat : Int) = c := hc
  simp only [this]; rfl
end
theorem shl8 {k : Nat} (hk : k < 8) {b : Int} (hb : b = k) : IntKind.u8.wrap (1 * 2 ^ (min b.toNat IntKind.u8.bits)) = ((2 ^ k : Nat) : Int) := by
  subst hb
  rw [Int.toNat_natCast]
  have h : ∀ k : Fin 8, IntKind.u8.wrap (1 * 2 ^ (min k.val IntKind.u8.bits)) = ((2 ^ k.val : Nat) : Int) := by decide +kernel
  exact h ⟨k, hk⟩
theorem shl64 {k : Nat} (hk : k < 8) {b : Int} (hb : b = k) : IntKind.i64.wrap (1 * 2 ^ (min b.toNat IntKind.i64.bits)) = ((2 ^ k : Nat) : Int) := by
  subst hb
  rw [Int.toNat_natCast]
  have h : ∀ k : Fin 8, IntKind.i64.wrap (1 * 2 ^ (min k.val IntKind.i64.bits)) = ((2 ^ k.val : Nat) : Int) := by decide +kernel
  exact h ⟨k, hk⟩
theorem or8 {k x : Nat} (hk : k < 8) (hx : x < 2 ^ k) : IntKind.u8.wrap ((BitVec.ofInt 8 (x : Int) ||| BitVec.ofInt 8 ((2 ^ k : Nat) : Int)).toNat : Int) = ((x + 2 ^ k : Nat) : Int) := by
  have h : ∀ k : Fin 8, ∀ x : Fin 128, x.val < 2 ^ k.val → IntKind.u8.wrap ((BitVec.ofInt 8 (x.val : Int) ||| BitVec.ofInt 8 ((2 ^ k.val : Nat) : Int)).toNat : Int) = ((x.val + 2 ^ k.val : Nat) : Int) := by decide +kernel
  have h2 : x < 128 := Nat.lt_of_lt_of_le hx (Nat.le_trans (Nat.pow_le_pow_right (by omega) (show k ≤ 7 by omega)) (by decide))
  exact h ⟨k, hk⟩ ⟨x, h2⟩ hx
end Go.Ab

