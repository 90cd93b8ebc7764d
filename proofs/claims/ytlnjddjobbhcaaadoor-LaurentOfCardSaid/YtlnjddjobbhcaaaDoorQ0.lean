/- Steps that the division needs. -/
import Derived.Test.YtlnjddjobbhcaaaDoorPZ
namespace Go.Proofs.YtlnjddjobbhcaaaDoor
open Go.Ab
set_option linter.unusedVariables false
set_option linter.unusedSimpArgs false
section
variable {FT : FuncId → Option AFun} {HK : FuncId → Option Hook} {E : Env} {h h0 : Heap} {K : Env → Heap → Prop} {d : Option Nat} {r : List AOp} {x y xo so : AO} {m n : Int}
theorem k_bslD {a b z0 z1 : SV} (hx : ev E xo = some (.agg [a, b])) (hw : ∀ h1, Ext h h1 → srcCells h1 2 (.slc h.length 0 1 (some 1)) = some (1, [a, b]) → wOps FT HK r (bindE d (some (.sc (.slc h.length 0 1 (some 1)))) E) h1 K) :
    wOps FT HK (⟨d, .bsl 2 [z0, z1] 1 [(0, xo)], none⟩ :: r) E h K := by
  refine op_ok (v := some (.sc (.slc h.length 0 1 (some 1)))) (h' := h ++ [.cells [a, b] true 2]) rfl rfl ?_ (hw _ ⟨_, rfl⟩ (by simp [srcCells, readN, cut]))
  simp [step1, evParts, hx, AV.cells, fillA, rep, splice, ez2]
theorem k_appD1 {bytes : Nat} {s t a b : SV} {ps : List P2} {z2 : List SV} (he : Ext h0 h) (ho : OwnD h0 h s ps) (hs : evS E so = some s) (hx : evS E x = some t) (ht : srcCells h 2 t = some (1, [a, b])) (hb : (ps.length + 1) * (bytes + 1) ≤ bigN)
    (hw : ∀ s' h', OwnD h0 h' s' (ps ++ [(a, b)]) → Ext h0 h' → Fram h h' s s' → h.length ≤ h'.length → wOps FT HK r (bindE d (some (.sc s')) E) h' K) :
    wOps FT HK (⟨d, .app 2 bytes z2 so x, none⟩ :: r) E h K := by
  obtain ⟨s', h', h1, h2, h3, h4, h5⟩ := appD (bytes := bytes) he ho hb a b
  refine op_ok (v := some (.sc s')) (h' := h') rfl rfl ?_ (hw s' h' h2 h3 h5 h4)
  simp only [step1, hs, hx, Option.bind_some, ez2, ht, h1, Option.map_some]
theorem k_tdiv (hx : evS E x = some (.int .i64 m)) (hy : evS E y = some (.int .i64 n)) (hr : n ≠ 0 ∧ -9223372036854775808 ≤ m.tdiv n ∧ m.tdiv n ≤ 9223372036854775807) (hw : wOps FT HK r (bindE d (some (.sc (.int .i64 (m.tdiv n)))) E) h K) : wOps FT HK (⟨d, .bin .quo x y, none⟩ :: r) E h K := by
  refine op_wrap (n := m.tdiv n) rfl rfl ?_ hr.2 hw
  simp only [step1, hx, hy, Option.bind_some, binS, isShift, binI]
  rw [if_neg (by decide), if_pos trivial, if_neg hr.1]; rfl
theorem k_slD {S : SV} {ps : List P2} {lo : AO} {l : Int} (ho : OwnD h0 h S ps) (hx : evS E x = some S) (hl : evS E lo = some (.int .i64 l)) (hb : 0 ≤ l ∧ l ≤ ps.length)
    (hw : ∀ s', IsD h s' (ps.drop l.toNat) → wOps FT HK r (bindE d (some (.sc s')) E) h K) :
    wOps FT HK (⟨d, .sl 2 x (some lo) none, none⟩ :: r) E h K := by
  rcases ho with ⟨rfl, rfl⟩ | ⟨id, cap, bl, rfl, h1, h2, h3, h4⟩
  · have : l = 0 := by simp at hb; omega
    subst this
    refine op_ok (v := some (.sc .nilS)) (h' := h) rfl rfl ?_ (hw .nilS (IsD.nil _))
    simp [step1, hx, hl, lenS, bnd, sliceS]
  · refine op_ok (v := some (.sc (.slc id (0 + l.toNat * 2) (ps.length - l.toNat) (cap.map (· - l.toNat))))) (h' := h) rfl rfl ?_ (hw _ ?_)
    · have : l.toNat ≤ ps.length := by omega
      have h2' : l ≤ (ps.length : Int) := hb.2
      simp [step1, hx, hl, lenS, bnd, sliceS, h2, Blk.esz, ez2, this, hb.1, h2']
    · have hle := h4.le
      refine .inr ⟨id, 0 + l.toNat * 2, _, _, by rw [List.length_drop], h2, rfl, fun h => ?_, fun _ => ⟨_, _, rfl, ?_⟩⟩
      · rw [List.eq_nil_of_length_eq_zero h]; rfl
      · unfold cut
        simp only [ez2, List.length_drop]
        rw [if_pos (by omega), prs_drop, ← h3, List.drop_take, Nat.zero_add, Nat.sub_mul]
end
end Go.Proofs.YtlnjddjobbhcaaaDoor
