import Derived.Test.YtleoalcbgpjieaaDoorAb35
import Derived.Test.YtleoalcbgpjieaaDoorAb32
/- Slices of bytes of one's own: read, written, made, grown; shifts. -/
namespace Go.Ab
set_option linter.unusedVariables false

/-- Numbers below 256, as bytes in memory. -/
def u8n (L : List Nat) : List SV := L.map fun (x : Nat) => .int .u8 (x : Int)
theorem u8n_len (L : List Nat) : (u8n L).length = L.length := by simp [u8n]
theorem u8n_app (L M : List Nat) : u8n (L ++ M) = u8n L ++ u8n M := by simp [u8n]
theorem u8n_set (L : List Nat) (i x : Nat) : u8n (L.set i x) = (u8n L).set i (.int .u8 (x : Int)) := by simp [u8n, List.map_set]
theorem u8n_u8s {L : List Nat} (h : ∀ x ∈ L, x < 256) : u8n L = u8s (L.map UInt8.ofNat) := by
  unfold u8n u8s
  rw [List.map_map]
  refine List.map_congr_left fun x hx => ?_
  have : (UInt8.ofNat x).toNat = x := by rw [UInt8.toNat_ofNat']; exact Nat.mod_eq_of_lt (h x hx)
  simp only [Function.comp, this]

theorem OwnZ.rd {z : ESz} {h0 h : Heap} {s : SV} {vs : List SV} {i : Nat} {v : SV} (ho : OwnZ z h0 h s vs) (hv : vs[i]? = some v) : ∃ id cap, s = .slc id 0 vs.length cap ∧ readN h id (0 + i * 1) 1 = some [v] := by
  rcases ho with ⟨rfl, rfl⟩ | ⟨id, cap, cs, rfl, h0', h1, h2, h3, h4⟩
  · simp at hv
  · refine ⟨id, cap, rfl, ?_⟩
    have hi := (List.getElem?_eq_some_iff.1 hv).1
    have hl : vs.length ≤ cs.length := by have := congrArg List.length h3; simp at this; omega
    have hc : cs[i]? = some v := by
      rw [← h3, List.getElem?_take_of_lt hi] at hv
      exact hv
    simp only [readN, h2]
    exact cut1 hc
theorem OwnZ.wr {z : ESz} {h0 h : Heap} {s : SV} {vs : List SV} {i : Nat} (he : Ext h0 h) (ho : OwnZ z h0 h s vs) (hi : i < vs.length) (v : SV) :
    ∃ id cap h', s = .slc id 0 vs.length cap ∧ writeN h id (0 + i * 1) [v] = some h' ∧ OwnZ z h0 h' s (vs.set i v) ∧ Ext h0 h' := by
  rcases ho with ⟨rfl, rfl⟩ | ⟨id, cap, cs, rfl, h0', h1, h2, h3, h4⟩
  · simp at hi
  · have hl : vs.length ≤ cs.length := by have := congrArg List.length h3; simp at this; omega
    have hid : id < h.length := (List.getElem?_eq_some_iff.1 h2).1
    have hsp : splice cs i [v] = cs.set i v := by
      rw [List.set_eq_take_append_cons_drop, if_pos (by omega)]
      simp [splice]
    refine ⟨id, cap, h.set id (.cells (cs.set i v) true z), rfl, ?_, .inr ⟨id, cap, cs.set i v, by simp, by simpa using h0', h1, List.getElem?_set_self hid, ?_, ?_⟩, he.set h1 _⟩
    · simp only [writeN, h2, Nat.zero_add, Nat.mul_one, List.length_singleton]
      rw [if_pos (by omega), hsp]
    · rw [List.length_set, List.take_set, h3]
    · cases cap with
      | none => simpa [Room] using h4
      | some c => simpa [Room] using h4
theorem OwnZ.all {z : ESz} {h0 h : Heap} {s : SV} {vs : List SV} (ho : OwnZ z h0 h s vs) (hn : 0 < vs.length) : ∃ id cap, s = .slc id 0 vs.length cap ∧ readN h id 0 vs.length = some vs := by
  rcases ho with ⟨rfl, rfl⟩ | ⟨id, cap, cs, rfl, h0', h1, h2, h3, h4⟩
  · simp at hn
  · refine ⟨id, cap, rfl, ?_⟩
    have hl : vs.length ≤ cs.length := by have := congrArg List.length h3; simp at this; omega
    simp only [readN, h2]
    unfold cut
    rw [if_pos (by omega), List.drop_zero, h3]
theorem OwnZ.weaken {z : ESz} {h0 h1 h : Heap} {s : SV} {vs : List SV} (hs : OwnZ z h1 h s vs) (hl : h0.length ≤ h1.length) : OwnZ z h0 h s vs := by
  rcases hs with hs | ⟨id, cap, cs, rfl, h0', h1, h2, h3⟩
  · exact .inl hs
  · exact .inr ⟨id, cap, cs, rfl, h0', by omega, h2, h3⟩

section
variable {FT : FuncId → Option AFun} {HK : FuncId → Option Hook} {E : Env} {h h0 : Heap} {K : Env → Heap → Prop} {d : Option Nat} {r : List AOp} {x y : AO}
theorem k_mkZ {z : ESz} {bytes : Nat} {v : SV} {n m : Int} {k1 k2 : IntKind} (he : Ext h0 h) (hx : evS E x = some (.int k1 n)) (hy : evS E y = some (.int k2 m)) (hb : 0 < n ∧ n ≤ m ∧ m * (bytes + 1 : Nat) ≤ bigN)
    (hw : ∀ s h1, OwnZ z h h1 s (List.replicate n.toNat v) → Ext h h1 → Ext h0 h1 → wOps FT HK r (bindE d (some (.sc s)) E) h1 K) : wOps FT HK (⟨d, .mk z bytes [v] x y, none⟩ :: r) E h K := by
  refine op_mk rfl hx hy ⟨by omega, hb.2⟩ (hw _ _ ?_ ⟨_, rfl⟩ (he.app _))
  refine .inr ⟨h.length, some m.toNat, rep [v] m.toNat, by simp, by simp; omega, Nat.le_refl _, by simp, ?_, ?_⟩
  · rw [rep1, List.length_replicate, List.take_replicate, Nat.min_eq_left (by omega)]
  · rw [rep1]; simp [Room]; omega
theorem k_pushZ {z : ESz} {s v zz : SV} {vs : List SV} {a b bytes : Nat} {ao bo : AO} {zs : List SV} (hz : z.n = 1) (he : Ext h0 h) (ho : OwnZ z h0 h s vs) (hx : ev E bo = some (.sc v)) (hs : evS (bindE (some a) (some (.sc (.slc h.length 0 1 (some 1)))) E) ao = some s) (hb : (vs.length + 1) * (bytes + 1) ≤ bigN)
    (hw : ∀ s' h', OwnZ z h0 h' s' (vs ++ [v]) → Ext h0 h' → wOps FT HK r (bindE (some b) (some (.sc s')) (bindE (some a) (some (.sc (.slc h.length 0 1 (some 1)))) E)) h' K) :
    wOps FT HK (⟨some a, .bsl z [zz] 1 [(0, bo)], none⟩ :: ⟨some b, .app z bytes zs ao (.t a), none⟩ :: r) E h K := by
  refine op_ok (v := some (.sc (.slc h.length 0 1 (some 1)))) (h' := h ++ [.cells [v] true z]) rfl rfl ?_ ?_
  · simp only [step1, hz]
    rw [if_pos (by omega)]
    simp [evParts, hx, AV.cells, fillA, rep, splice]
  · obtain ⟨s', h', h1, h2, h3, h4, h5⟩ := ownz_app (z := z) (bytes := bytes) (ws := [v]) hz (he.app [.cells [v] true z]) (ho.ext ⟨_, rfl⟩) hb
    refine op_ok (v := some (.sc s')) (h' := h') rfl rfl ?_ (hw s' h' h2 h3)
    simp only [step1, hs, Option.bind_some]
    have h6 : evS (bindE (some a) (some (.sc (.slc h.length 0 1 (some 1)))) E) (.t a) = some (.slc h.length 0 1 (some 1)) := by
      simp [evS, ev, bindE, Env.get]
    rw [h6]
    have hsrc : srcCells (h ++ [Blk.cells [v] true z]) 1 (.slc h.length 0 1 (some 1)) = some (1, [v]) := by
      simp only [srcCells]
      rw [if_neg (by omega), Nat.one_mul, rd_last rfl]; rfl
    simp only [Option.bind_some, hz, hsrc]
    rw [show ([v] : List SV).length = 1 from rfl] at h1
    rw [h1]; rfl
/-- A number that fits, as a byte. -/
theorem k_cv8 {kd : IntKind} {m : Int} (hx : evS E x = some (.int kd m)) (hr : 0 ≤ m ∧ m < 256) (hw : wOps FT HK r (bindE d (some (.sc (.int .u8 m))) E) h K) : wOps FT HK (⟨d, .conv .u8 x, none⟩ :: r) E h K := by
  refine op_ok (v := some (.sc (wrapI .u8 m))) (h' := h) rfl rfl (by simp only [step1, hx]) ?_
  have : IntKind.u8.wrap m = m := by
    obtain ⟨k, rfl⟩ : ∃ k : Nat, m = k := ⟨m.toNat, by omega⟩
    have hk : k < 256 := by omega
    simp only [IntKind.wrap]
    show (if IntKind.u8.signed = true then _ else _) = _
    simp [IntKind.signed, IntKind.bits]
    omega
  rw [wrapI, this]; exact hw
theorem k_shl {kd k2 : IntKind} {a b c : Int} (hx : evS E x = some (.int kd a)) (hy : evS E y = some (.int k2 b)) (h0 : 0 ≤ b) (hc : kd.wrap (a * 2 ^ (min b.toNat kd.bits)) = c) (hw : wOps FT HK r (bindE d (some (.sc (.int kd c))) E) h K) :
    wOps FT HK (⟨d, .bin .shl x y, none⟩ :: r) E h K := by
  refine op_ok (v := some (.sc (.int kd c))) (h' := h) rfl rfl ?_ hw
  simp only [step1, hx, hy, Option.bind_some, binS, isShift, if_true, shI]
  rw [if_neg (by omega)]
  simp only [wrapI, hc, Option.map_some]
theorem k_or8 {a b c : Int} (hx : evS E x = some (.int .u8 a)) (hy : evS E y = some (.int .u8 b)) (hc : IntKind.u8.wrap ((BitVec.ofInt 8 a ||| BitVec.ofInt 8 b).toNat : Int) = c) (hw : wOps FT HK r (bindE d (some (.sc (.int .u8 c))) E) h K) :
    wOps FT HK (⟨d, .bin .or x y, none⟩ :: r) E h K := by
  refine op_ok (v := some (.sc (.int .u8 c))) (h' := h) rfl rfl ?_ hw
  simp only [step1, hx, hy, Option.bind_some, binS, isShift, if_true, binI]
  simp only [wrapI]
  have : IntKind.u8.wrap ((BitVec.ofInt IntKind.u8.bits a ||| BitVec.ofInt IntKind.u8.bits b).toNat : Int) = c := hc
  simp only [this]; rfl
end
theorem shl8 {k : Nat} (hk : k < 8) {b : Int} (hb : b = k) : IntKind.u8.wrap (1 * 2 ^ (min b.toNat IntKind.u8.bits)) = ((2 ^ k : Nat) : Int) := by
  subst hb
  rw [Int.toNat_natCast]
  have h : ∀ k : Fin 8, IntKind.u8.wrap (1 * 2 ^ (min k.val IntKind.u8.bits)) = ((2 ^ k.val : Nat) : Int) := by decide +kernel
  exact h ⟨k, hk⟩
theorem shl64 {k : Nat} (hk : k < 8) {b : Int} (hb : b = k) : IntKind.i64.wrap (1 * 2 ^ (min b.toNat IntKind.i64.bits)) = ((2 ^ k : Nat) : Int) := by
  subst hb
  rw [Int.toNat_natCast]
  have h : ∀ k : Fin 8, IntKind.i64.wrap (1 * 2 ^ (min k.val IntKind.i64.bits)) = ((2 ^ k.val : Nat) : Int) := by decide +kernel
  exact h ⟨k, hk⟩
theorem or8 {k x : Nat} (hk : k < 8) (hx : x < 2 ^ k) : IntKind.u8.wrap ((BitVec.ofInt 8 (x : Int) ||| BitVec.ofInt 8 ((2 ^ k : Nat) : Int)).toNat : Int) = ((x + 2 ^ k : Nat) : Int) := by
  have h : ∀ k : Fin 8, ∀ x : Fin 128, x.val < 2 ^ k.val → IntKind.u8.wrap ((BitVec.ofInt 8 (x.val : Int) ||| BitVec.ofInt 8 ((2 ^ k.val : Nat) : Int)).toNat : Int) = ((x.val + 2 ^ k.val : Nat) : Int) := by decide +kernel
  have h2 : x < 128 := Nat.lt_of_lt_of_le hx (Nat.le_trans (Nat.pow_le_pow_right (by omega) (show k ≤ 7 by omega)) (by decide))
  exact h ⟨k, hk⟩ ⟨x, h2⟩ hx
end Go.Ab


/- Slices of bytes, wherever they lie; rows of integers of any kind that came in. -/
namespace Go.Ab
set_option linter.unusedVariables false

/-- s is a slice of these bytes. -/
def IsBy (h : Heap) (s : SV) (L : List Nat) : Prop := (s = .nilS ∧ L = []) ∨ ∃ id off cap, s = .slc id off L.length cap ∧ (0 < L.length → readN h id off L.length = some (u8n L))
theorem IsBy.len {h : Heap} {s : SV} {L : List Nat} (hs : IsBy h s L) : lenS false s = some (L.length : Int) := by
  rcases hs with ⟨rfl, rfl⟩ | ⟨id, off, cap, rfl, _⟩ <;> rfl
theorem IsBy.ext {h h' : Heap} {s : SV} {L : List Nat} (hs : IsBy h s L) (he : Ext h h') : IsBy h' s L := by
  obtain ⟨t, rfl⟩ := he
  rcases hs with hs | ⟨id, off, cap, e1, e2⟩
  · exact .inl hs
  · exact .inr ⟨id, off, cap, e1, fun hl => readN_app t (e2 hl)⟩
theorem readN_sub {h : Heap} {id off n i k : Nat} {vs : List SV} (hr : readN h id off n = some vs) (hi : i + k ≤ n) : readN h id (off + i) k = some ((vs.drop i).take k) := by
  unfold readN at *
  split at hr
  · unfold cut at *
    split at hr
    · simp only [Option.some.injEq] at hr
      subst hr
      rw [if_pos (by omega), List.drop_take, List.drop_drop, List.take_take, Nat.min_eq_left (by omega)]
    · simp at hr
  · simp at hr
theorem IsBy.at {h : Heap} {s : SV} {L : List Nat} (hs : IsBy h s L) {i x : Nat} (hi : L[i]? = some x) : ∃ id off cap, s = .slc id off L.length cap ∧ readN h id (off + i * 1) 1 = some [.int .u8 (x : Int)] := by
  have hl := (List.getElem?_eq_some_iff.1 hi).1
  rcases hs with ⟨rfl, rfl⟩ | ⟨id, off, cap, rfl, e2⟩
  · simp at hi
  · refine ⟨id, off, cap, rfl, ?_⟩
    have h1 := readN_sub (i := i) (k := 1) (e2 (by omega)) (by omega)
    rw [Nat.mul_one, h1]
    have h2 : (u8n L)[i]? = some (.int .u8 (x : Int)) := by simp [u8n, hi]
    obtain ⟨h9, h10⟩ := List.getElem?_eq_some_iff.1 h2
    rw [List.drop_eq_getElem_cons h9, h10]; rfl
theorem IsBy.part {h : Heap} {s : SV} {L : List Nat} {l u : Nat} (hs : IsBy h s L) (hlu : l ≤ u) (hu : u ≤ L.length) : ∃ s', slice1 l u s = some s' ∧ IsBy h s' ((L.drop l).take (u - l)) := by
  rcases hs with ⟨rfl, rfl⟩ | ⟨id, off, cap, rfl, e2⟩
  · have hu0 : u = 0 := by simpa using hu
    have hl0 : l = 0 := by omega
    subst hu0 hl0
    exact ⟨.nilS, rfl, .inl ⟨rfl, rfl⟩⟩
  · have hlen : ((L.drop l).take (u - l)).length = u - l := by simp; omega
    refine ⟨.slc id (off + l) (u - l) (cap.map (· - l)), by simp only [slice1]; rw [if_pos ⟨hlu, hu⟩], .inr ⟨id, off + l, cap.map (· - l), by rw [hlen], fun hp => ?_⟩⟩
    rw [hlen] at hp ⊢
    rw [readN_sub (e2 (by omega)) (by omega)]
    simp only [u8n, List.map_take, List.map_drop]
theorem IsBy.from {h : Heap} {s : SV} {L : List Nat} {l : Nat} (hs : IsBy h s L) (hl : l ≤ L.length) : ∃ s', slice1 l L.length s = some s' ∧ IsBy h s' (L.drop l) := by
  obtain ⟨s', h1, h2⟩ := hs.part hl (Nat.le_refl _)
  rw [List.take_of_length_le (by simp)] at h2
  exact ⟨s', h1, h2⟩
theorem OwnZ.by {z : ESz} {h0 h : Heap} {s : SV} {L : List Nat} (ho : OwnZ z h0 h s (u8n L)) : IsBy h s L := by
  by_cases hp : 0 < (u8n L).length
  · obtain ⟨id, cap, e1, e2⟩ := ho.all hp
    rw [u8n_len] at e1 e2
    exact .inr ⟨id, 0, cap, e1, fun _ => e2⟩
  · have hL : L = [] := List.eq_nil_of_length_eq_zero (by rw [u8n_len] at hp; omega)
    subst hL
    rcases ho with ⟨h1, -⟩ | ⟨id, cap, cs, e1, e2, _⟩
    · exact .inl ⟨h1, rfl⟩
    · exact absurd e2 hp
theorem isSl_by {h : Heap} {s : SV} {zs : List Int} (hs : IsSl h s 1 zs.length (zs.map (.int .u8))) (hz : ∀ n ∈ zs, 0 ≤ n ∧ n ≤ 255) : IsBy h s (zs.map Int.toNat) ∧ ∀ x ∈ zs.map Int.toNat, x < 256 := by
  refine ⟨?_, fun x hx => ?_⟩
  · rcases hs with ⟨e1, e2, e3⟩ | ⟨id, off, cap, b, e1, e2, e3, e4, e5⟩
    · exact .inl ⟨e1, by rw [List.eq_nil_of_length_eq_zero e2]; rfl⟩
    · refine .inr ⟨id, off, cap, by rw [List.length_map]; exact e1, fun hp => ?_⟩
      rw [List.length_map] at hp ⊢
      obtain ⟨cs, rw', rfl, h6⟩ := e5 hp
      simp only [readN, e2]
      rw [ESz.one_n, Nat.mul_one] at h6
      rw [h6]
      unfold u8n
      rw [List.map_map]
      refine congrArg some (List.map_congr_left fun n hn => ?_)
      have := hz n hn
      simp only [Function.comp]
      congr 1
      omega
  · obtain ⟨n, hn, rfl⟩ := List.mem_map.1 hx
    have := hz n hn
    omega
theorem RowI.wf {kd : IntKind} {w : World} {a : Option Addr} {len cap : Nat} {zs : List Int} (hr : RowI kd w a len cap zs) (n : Int) (hn : n ∈ zs) : (Lit.int kd n).wf = true := by
  rcases hr with ⟨_, _, _, rfl⟩ | ⟨x, _, _, _, _, _, h⟩
  · simp at hn
  · exact h n hn
section
variable [Base]
set_option linter.unusedSectionVars false
/-- A row of integers of any kind that came in, as the heap's block number id. -/
theorem arg_rowk {kd : IntKind} {w : World} {a : Option Addr} {len cap : Nat} {zs : List Int} (hr : RowI kd w a len cap zs) (id : Nat) :
    ∃ (s : SV) (b : Blk) (L : Loc), ArgB w L b ∧ (∀ β : Bt, β id = some L → SRel β s (.slice a len cap)) ∧ (∀ h : Heap, h[id]? = some b → IsSl h s 1 (zs.take len).length ((zs.take len).map (.int kd))) ∧ (zs.take len).length = len := by
  rcases hr with ⟨rfl, rfl, rfl, rfl⟩ | ⟨x, rfl, h1, h2, h3, h4, h5⟩
  · refine ⟨.nilS, .dead 1, ⟨0, 0, 0, 1⟩, ⟨rfl, ⟨rfl, show (1 : ESz).n < 1000000 by decide⟩, fun cs rw e h => by simp at h⟩, fun β _ => .nilS, fun h _ => .inl ⟨rfl, by simp, by simp⟩, by simp⟩
  · have hlen : (zs.take len).length = len := by simp; omega
    by_cases h0 : len = 0
    · subst h0
      by_cases hc : cap = 0
      · subst hc
        refine ⟨.slc id 0 0 none, .dead 1, ⟨0, 0, 0, 1⟩, ⟨rfl, ⟨rfl, show (1 : ESz).n < 1000000 by decide⟩, fun cs rw e h => by simp at h⟩, fun β hb => .slc hb (fun k hk => by simp at hk) (Nat.le_refl _) (fun h => by omega) (fun h => by omega) (show (1 : ESz).n < 1000000 by decide), fun h hg => ?_, by simp⟩
        exact .inr ⟨id, 0, none, _, by simp, hg, rfl, by simp, by simp⟩
      · have hc0 := h4 0 (by omega)
        have hx := add_spot hc0
        have hlast := h4 (cap - 1) (by omega)
        rw [hx, Addr.add_off] at hlast
        unfold World.cell? at hlast
        split at hlast
        · rename_i ccs e fz hh
          simp at hlast
          have hsz := (Array.getElem?_eq_some_iff.1 hlast).1
          refine ⟨.slc id 0 0 none, .dead 1, ⟨x.block, x.off, ccs.size, 1⟩, ⟨rfl, ⟨rfl, show (1 : ESz).n < 1000000 by decide⟩, fun cs rw e h => by simp at h⟩, fun β hb => .slc hb (fun k hk => by simp at hk) h1 (fun _ => by simpa using hx) (fun _ => ⟨Nat.le_refl _, by simp at hsz ⊢; omega⟩) (show (1 : ESz).n < 1000000 by decide), fun h hg => ?_, by simp⟩
          exact .inr ⟨id, 0, none, _, by simp, hg, rfl, by simp, by simp⟩
        · simp at hlast
    · have hc0 := h4 0 (by omega)
      have hx := add_spot hc0
      have hlast := h4 (cap - 1) (by omega)
      rw [hx, Addr.add_off] at hlast
      unfold World.cell? at hlast
      split at hlast
      · rename_i ccs e fz hh
        simp at hlast hh
        have hsz := (Array.getElem?_eq_some_iff.1 hlast).1
        refine ⟨.slc id 0 len none, .cells ((zs.take len).map (.int kd)) false 1, ⟨x.block, x.off, ccs.size, 1⟩, ⟨rfl, ⟨rfl, show (1 : ESz).n < 1000000 by decide⟩, fun cs rw e' h => ?_⟩, fun β hb => .slc hb (fun k hk => by simp at hk) h1 (fun _ => by simpa using hx) (fun _ => ⟨Nat.le_refl _, by simp at hsz ⊢; omega⟩) (show (1 : ESz).n < 1000000 by decide), fun h hg => ?_, hlen⟩
        · simp at h
          obtain ⟨rfl, rfl, rfl⟩ := h
          refine ⟨rfl, ccs, e, fz, hh, rfl, by simp at hsz ⊢; omega, fun i v hi => ?_⟩
          have hil := (List.getElem?_eq_some_iff.1 hi).1
          simp at hil
          have hil1 : i < len := by omega
          have hil2 : i < zs.length := by omega
          have hci := h4 i hil2
          rw [hx, Addr.add_off, cell_of_row w x.block _ ccs e fz hh] at hci
          refine ⟨_, hci, fun β => ?_⟩
          simp [hil1, hil2] at hi
          subst hi
          simp [List.getD, hil2]
          exact .int _ _
        · refine .inr ⟨id, 0, none, _, by rw [hlen], hg, rfl, fun h => by omega, fun _ => ⟨_, _, rfl, ?_⟩⟩
          rw [hlen]
          unfold cut
          simp only [ESz.one_n]
          rw [if_pos (by simp; omega)]
          simp
          apply List.take_of_length_le
          simp; omega
      · simp at hlast
end
end Go.Ab
namespace Go.Ab
section
variable {FT : FuncId → Option AFun} {HK : FuncId → Option Hook} {E : Env} {h : Heap} {K : Env → Heap → Prop} {d : Option Nat} {r : List AOp} {x y : AO}
theorem k_shr {kd k2 : IntKind} {a b c : Int} (hx : evS E x = some (.int kd a)) (hy : evS E y = some (.int k2 b)) (h0 : 0 ≤ b) (hc : a.fdiv (2 ^ (min b.toNat kd.bits)) = c) (hw : wOps FT HK r (bindE d (some (.sc (.int kd c))) E) h K) :
    wOps FT HK (⟨d, .bin .shr x y, none⟩ :: r) E h K := by
  refine op_ok (v := some (.sc (.int kd c))) (h' := h) rfl rfl ?_ hw
  simp only [step1, hx, hy, Option.bind_some, binS, isShift, if_true, shI]
  rw [if_neg (by omega)]
  simp only [hc, Option.map_some]
theorem k_and8 {a b c : Int} (hx : evS E x = some (.int .u8 a)) (hy : evS E y = some (.int .u8 b)) (hc : IntKind.u8.wrap ((BitVec.ofInt 8 a &&& BitVec.ofInt 8 b).toNat : Int) = c) (hw : wOps FT HK r (bindE d (some (.sc (.int .u8 c))) E) h K) :
    wOps FT HK (⟨d, .bin .and x y, none⟩ :: r) E h K := by
  refine op_ok (v := some (.sc (.int .u8 c))) (h' := h) rfl rfl ?_ hw
  simp only [step1, hx, hy, Option.bind_some, binS, isShift, if_true, binI]
  simp only [wrapI]
  have : IntKind.u8.wrap ((BitVec.ofInt IntKind.u8.bits a &&& BitVec.ofInt IntKind.u8.bits b).toNat : Int) = c := hc
  simp only [this]; rfl
end
theorem shrN {kd : IntKind} (hb : 8 ≤ kd.bits) {x k : Nat} (hk : k < 8) {b : Int} (hb2 : b = k) : ((x : Nat) : Int).fdiv (2 ^ (min b.toNat kd.bits)) = ((x / 2 ^ k : Nat) : Int) := by
  subst hb2
  rw [Int.toNat_natCast, Nat.min_eq_left (by omega)]
  have h2 : (2 : Int) ^ k = ((2 ^ k : Nat) : Int) := by simp
  rw [h2, Int.fdiv_eq_ediv_of_nonneg _ (Int.natCast_nonneg _)]
  exact (Int.natCast_ediv x (2 ^ k)).symm
theorem and1 {y : Nat} (hy : y < 256) : IntKind.u8.wrap ((BitVec.ofInt 8 ((y : Nat) : Int) &&& BitVec.ofInt 8 1).toNat : Int) = ((y % 2 : Nat) : Int) := by
  have h : ∀ y : Fin 256, IntKind.u8.wrap ((BitVec.ofInt 8 ((y.val : Nat) : Int) &&& BitVec.ofInt 8 1).toNat : Int) = ((y.val % 2 : Nat) : Int) := by decide +kernel
  exact h ⟨y, hy⟩
end Go.Ab


/- Step by step through a region whose order is open and whose loads read what stays. -/
namespace Go.Ab
set_option linter.unusedVariables false
section
variable {FT : FuncId → Option AFun} {HK : FuncId → Option Hook} {E : Env} {h h' : Heap} {K : Env → Heap → Prop} {r : List (AOp × Nat × Bool)} {Q : Ex → Env → Heap → Prop} {S A fr : List Nat} {i : Nat}
theorem w_opsS {ops : List (AOp × Nat × Bool)} {ks : List Nat} (S : List Nat) (hw : wOpsS FT HK S [] fr ops E h (fun E' h' => Q .nm (E'.keep ks) h')) : wA FT HK (.regs ops fr ks) E h Q := ⟨S, [], hw⟩
theorem w_opsSA {ops : List (AOp × Nat × Bool)} {ks : List Nat} (S A : List Nat) (hw : wOpsS FT HK S A fr ops E h (fun E' h' => Q .nm (E'.keep ks) h')) : wA FT HK (.regs ops fr ks) E h Q := ⟨S, A, hw⟩
theorem s_one {o : AOp} {ord : Bool} (hl : ∀ id, ldX E ord o.k = some id → id ∈ S) (hw : wOps FT HK [o] E h (fun E' h' => (ord = true ∨ h'.take h.length = h) ∧ (i ∈ fr ∨ (∀ id ∈ S, h'[id]? = h[id]?) ∧ ∀ id ∈ A, id < h.length → h'[id]? = h[id]?) ∧ (1000 + i ∈ fr → ∀ id, h.length ≤ id → id < h'.length → id ∈ A) ∧ wOpsS FT HK S A fr r E' h' K)) : wOpsS FT HK S A fr ((o, i, ord) :: r) E h K := ⟨hl, hw⟩
/-- Memory is as it was. -/
theorem s_same {E' : Env} {ord : Bool} (hw : wOpsS FT HK S A fr r E' h K) : wOps FT HK [] E' h (fun E' h' => (ord = true ∨ h'.take h.length = h) ∧ (i ∈ fr ∨ (∀ id ∈ S, h'[id]? = h[id]?) ∧ ∀ id ∈ A, id < h.length → h'[id]? = h[id]?) ∧ (1000 + i ∈ fr → ∀ id, h.length ≤ id → id < h'.length → id ∈ A) ∧ wOpsS FT HK S A fr r E' h' K) := ⟨.inr (List.take_length), .inr ⟨fun _ _ => rfl, fun _ _ _ => rfl⟩, fun _ id h1 h2 => by omega, hw⟩
/-- Memory grew. -/
theorem s_grow {E' : Env} {ord : Bool} (he : Ext h h') (hS : ∀ id ∈ S, id < h.length) (hw : wOpsS FT HK S A fr r E' h' K) (hq : fr.contains (1000 + i) = false := by rfl) : wOps FT HK [] E' h' (fun E' h' => (ord = true ∨ h'.take h.length = h) ∧ (i ∈ fr ∨ (∀ id ∈ S, h'[id]? = h[id]?) ∧ ∀ id ∈ A, id < h.length → h'[id]? = h[id]?) ∧ (1000 + i ∈ fr → ∀ id, h.length ≤ id → id < h'.length → id ∈ A) ∧ wOpsS FT HK S A fr r E' h' K) :=
  have st : ∀ id, id < h.length → h'[id]? = h[id]? := fun id this => by
    rw [List.getElem?_eq_getElem this]
    exact he.get _ _ (List.getElem?_eq_getElem this)
  ⟨.inr he.take, .inr ⟨fun id hid => st id (hS id hid), fun id _ hlt => st id hlt⟩, fun hm => (by rw [List.contains_iff_mem.2 hm] at hq; cases hq), hw⟩
/-- Memory grew, by what may come after changes. -/
theorem s_al {E' : Env} {ord : Bool} (he : Ext h h') (hS : ∀ id ∈ S, id < h.length) (hA : ∀ id, h.length ≤ id → id < h'.length → id ∈ A) (hw : wOpsS FT HK S A fr r E' h' K) : wOps FT HK [] E' h' (fun E' h' => (ord = true ∨ h'.take h.length = h) ∧ (i ∈ fr ∨ (∀ id ∈ S, h'[id]? = h[id]?) ∧ ∀ id ∈ A, id < h.length → h'[id]? = h[id]?) ∧ (1000 + i ∈ fr → ∀ id, h.length ≤ id → id < h'.length → id ∈ A) ∧ wOpsS FT HK S A fr r E' h' K) :=
  have st : ∀ id, id < h.length → h'[id]? = h[id]? := fun id this => by
    rw [List.getElem?_eq_getElem this]
    exact he.get _ _ (List.getElem?_eq_getElem this)
  ⟨.inr he.take, .inr ⟨fun id hid => st id (hS id hid), fun id _ hlt => st id hlt⟩, fun _ => hA, hw⟩
/-- It is ordered against all that is not a load; the blocks that are read stay. -/
theorem s_ord {E' : Env} (hs : ∀ id ∈ S, h'[id]? = h[id]?) (hw : wOpsS FT HK S A fr r E' h' K) (hA : ∀ id ∈ A, id < h.length → h'[id]? = h[id]? := by nofun) (hq : fr.contains (1000 + i) = false := by rfl) : wOps FT HK [] E' h' (fun E' h' => (true = true ∨ h'.take h.length = h) ∧ (i ∈ fr ∨ (∀ id ∈ S, h'[id]? = h[id]?) ∧ ∀ id ∈ A, id < h.length → h'[id]? = h[id]?) ∧ (1000 + i ∈ fr → ∀ id, h.length ≤ id → id < h'.length → id ∈ A) ∧ wOpsS FT HK S A fr r E' h' K) := ⟨.inl rfl, .inr ⟨hs, hA⟩, fun hm => (by rw [List.contains_iff_mem.2 hm] at hq; cases hq), hw⟩
/-- It comes after all loads. -/
theorem s_free {E' : Env} (hi : fr.contains i = true) (hw : wOpsS FT HK S A fr r E' h' K) (hq : fr.contains (1000 + i) = false := by rfl) : wOps FT HK [] E' h' (fun E' h' => (true = true ∨ h'.take h.length = h) ∧ (i ∈ fr ∨ (∀ id ∈ S, h'[id]? = h[id]?) ∧ ∀ id ∈ A, id < h.length → h'[id]? = h[id]?) ∧ (1000 + i ∈ fr → ∀ id, h.length ≤ id → id < h'.length → id ∈ A) ∧ wOpsS FT HK S A fr r E' h' K) := ⟨.inl rfl, .inl (List.contains_iff_mem.1 hi), fun hm => (by rw [List.contains_iff_mem.2 hm] at hq; cases hq), hw⟩
theorem s_nil (hw : wOps FT HK [] E h K) : wOpsS FT HK S A fr [] E h K := hw
end
end Go.Ab

