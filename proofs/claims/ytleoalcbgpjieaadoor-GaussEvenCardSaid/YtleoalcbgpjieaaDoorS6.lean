/- The code of a diagram is valid: plain. -/
import Derived.Test.YtleoalcbgpjieaaDoorS5
import Derived.Test.YtleoalcbgpjieaaDoorGA
import Derived.Test.YtleoalcbgpjieaaDoorGV
namespace Go.Proofs.YtleoalcbgpjieaaDoor
open Go.Ab
set_option linter.unusedVariables false

/-- Whether the slot of a crossing with a sign is outgoing. -/
def outS (x : Int) (s : Nat) : Bool := (s == 1 && x == 1) || s == 2 || (s == 3 && x == -1)
theorem outB_S (xs : List Int) (h : Nat) : outB xs h = outS (xs.getD (h / 4) 0) (h % 4) := rfl

/-- How many of the half-edges below h are outgoing. -/
def cntO (xs : List Int) (h : Nat) : Nat := ((List.range h).filter (outB xs)).length
theorem cntO_succ (xs : List Int) (h : Nat) : cntO xs (h + 1) = cntO xs h + if outB xs h = true then 1 else 0 := by
  unfold cntO
  rw [List.range_succ, List.filter_append, List.length_append]
  by_cases ho : outB xs h = true <;> simp [ho]
theorem outB_at {xs : List Int} {c r : Nat} (hr : r < 4) : outB xs (4 * c + r) = outS (xs.getD c 0) r := by
  rw [outB_S, show (4 * c + r) / 4 = c by omega, show (4 * c + r) % 4 = r by omega]
theorem cntO_four {xs : List Int} (hs : ∀ x ∈ xs, Sgn x) : ∀ c, c ≤ xs.length → cntO xs (4 * c) = 2 * c
  | 0, _ => rfl
  | c + 1, hc => by
    have ih := cntO_four hs c (by omega)
    have hx : xs[c]? = some (xs.getD c 0) := by simp [List.getD, show c < xs.length by omega]
    have hsg := hs _ (List.mem_of_getElem? hx)
    have o0 := outB_at (xs := xs) (c := c) (r := 0) (by omega)
    have o1 := outB_at (xs := xs) (c := c) (r := 1) (by omega)
    have o2 := outB_at (xs := xs) (c := c) (r := 2) (by omega)
    have o3 := outB_at (xs := xs) (c := c) (r := 3) (by omega)
    rw [show 4 * (c + 1) = 4 * c + 0 + 1 + 1 + 1 + 1 by omega, cntO_succ, cntO_succ, cntO_succ, cntO_succ, Nat.add_zero, ih]
    rw [Nat.add_zero] at o0
    rw [o0, show 4 * c + 1 + 1 + 1 = 4 * c + 3 by omega, o3, show 4 * c + 1 + 1 = 4 * c + 2 by omega, o2, o1]
    rcases hsg with h | h <;> rw [h] <;> simp [outS] <;> omega

def visH (h : Nat) : Vis := ((h : Int) / 4, decide (h % 2 = 1))
theorem codeC_flat (Ls : List (List Nat)) : (codeC Ls).flatten = Ls.flatten.map visH := by
  unfold codeC
  rw [List.map_flatten]; rfl
/-- Cycles that hold each outgoing half-edge once. -/
structure Cov (xs ms : List Int) (Ls : List (List Nat)) : Prop where
  cyc : ∀ L ∈ Ls, ∃ s, Cyc (psi ms) s L
  mem : ∀ h, h ∈ Ls.flatten ↔ h < ms.length ∧ outB xs h = true
  nd : Ls.flatten.Nodup
theorem strs_cov {xs ms : List Int} {l : Int} (hF : Front xs ms l) : Cov xs ms (strs xs ms) := ⟨fun L hL => by
  unfold strs at hL
  obtain ⟨s, hs, rfl⟩ := List.mem_map.1 hL
  exact ⟨s, (cyc_is hF.mates hF.inv (starts_mem.1 hs).1).1⟩, fun h => walkA_mem hF, walkA_nodup hF⟩
theorem Cov.len {xs ms : List Int} {l : Int} (hF : Front xs ms l) {Ls : List (List Nat)} (hC : Cov xs ms Ls) : Ls.flatten.length = 2 * xs.length := by
  have h := cntO_four hF.sgn xs.length (Nat.le_refl _)
  unfold cntO at h
  rw [← h, ← hF.four]
  refine List.Perm.length_eq ((List.perm_ext_iff_of_nodup hC.nd ?_).2 fun h => ?_)
  · exact List.Pairwise.filter _ (List.nodup_range)
  · rw [hC.mem, List.mem_filter, List.mem_range]
theorem cov_VG {xs ms : List Int} {l : Int} (hF : Front xs ms l) {Ls : List (List Nat)} (hC : Cov xs ms Ls) : VG ⟨codeC Ls, xs, l⟩ := by
  have h4 := hF.four
  refine ⟨hF.n64, ⟨hF.l0, hF.l64⟩, hF.sgn, fun c hc => ?_, fun v hv => ?_, ?_, ?_⟩
  · obtain ⟨L, hL, rfl⟩ := List.mem_map.1 hc
    obtain ⟨s, hs⟩ := hC.cyc L hL
    have h6 := (hs.mem (g := s)).2 ⟨0, rfl⟩
    intro h0
    unfold visL at h0
    rw [List.map_eq_nil_iff] at h0
    rw [h0] at h6
    cases h6
  · simp only [codeC_flat] at hv
    obtain ⟨h, hh, rfl⟩ := List.mem_map.1 hv
    have := ((hC.mem h).1 hh).1
    simp only [visH]
    omega
  · simp only [codeC_flat]
    unfold List.Nodup
    rw [List.pairwise_map]
    refine List.Pairwise.imp_of_mem ?_ hC.nd
    intro a b ha hb hab he
    obtain ⟨a1, a2⟩ := (hC.mem a).1 ha
    obtain ⟨b1, b2⟩ := (hC.mem b).1 hb
    simp only [visH, Prod.mk.injEq, decide_eq_decide] at he
    exact hab (out_same hF a1 b1 a2 b2 (by omega) (by omega))
  · simp only [codeC_flat]
    rw [List.length_map, hC.len hF]
theorem codeG_VG {xs ms : List Int} {l : Int} (hF : Front xs ms l) : VG (codeG xs ms l) := cov_VG hF (strs_cov hF)
end Go.Proofs.YtleoalcbgpjieaaDoor
