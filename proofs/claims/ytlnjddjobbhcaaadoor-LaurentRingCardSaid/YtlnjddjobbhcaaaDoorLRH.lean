/- What the laws share. -/
import Derived.Test.YtlnjddjobbhcaaaDoorLS1
import Derived.Test.YtlnjddjobbhcaaaDoorQS
import Derived.Test.YtlnjddjobbhcaaaDoorPE
import Derived.Test.YtlnjddjobbhcaaaDoorT5
namespace Go.Proofs.YtlnjddjobbhcaaaDoor
open Go.Ab
set_option linter.unusedVariables false
set_option linter.unusedSimpArgs false
set_option maxRecDepth 20000
set_option maxHeartbeats 16000000
attribute [local irreducible] wOps wA wSeq wBlk wRound wRoundI wOpsD wOpsS

theorem Pok.len3 {p : Pol} (k : Pok p) : p.ts.length ≤ 3000000 := by have := k.len; omega
theorem call17t (h0 : Heap) (s t : SV) (p q : Pol) (hs : IsD h0 s (tms p.ts)) (ht : IsD h0 t (tms q.ts)) (hn : p.ts.length ≤ 3000000) (he : p = q) : ∃ r h', Cal FT HKt 17 [.agg [.bool p.big, s], .agg [.bool q.big, t]] h0 r h' ∧ Ext h0 h' ∧ r = .sc (.bool true) := by
  obtain ⟨r, h', a, b, rfl⟩ := call17 h0 s t p q hs ht hn
  exact ⟨_, h', a, b, by rw [decide_eq_true he]⟩
theorem ofN_bd {low : Int} {xs : List Int} : ∀ {i : Nat} {r : List Tm}, ofN low xs i = some r → ∀ t ∈ r, low ≤ t.1 ∧ t.1 < low + i
  | 0, r, h, t, ht => by simp only [ofN, Option.some.injEq] at h; subst h; simp at ht
  | i + 1, r, h, t, ht => by
    simp only [ofN, Option.bind_eq_some_iff] at h
    obtain ⟨r0, h1, h2⟩ := h
    have ih := ofN_bd h1
    split at h2
    · cases h2
      have := ih t ht
      omega
    · split at h2
      · cases h2
        rcases List.mem_append.1 ht with ht | ht
        · have := ih t ht
          omega
        · simp at ht
          subst ht
          simp only
          omega
      · cases h2
theorem ofP_bd {low : Int} {xs : List Int} (h : smallP low xs) : Bd 120 (ofP low xs).ts := fun t ht => by
  unfold ofP at ht
  split at ht
  · rename_i r hr
    have := ofN_bd hr t ht
    have h1 := h.1
    have h2 := h.2.1
    have h3 := h.2.2.1
    omega
  · simp at ht
end Go.Proofs.YtlnjddjobbhcaaaDoor
