/- The reference's Valid, at the hooks in use. -/
import Derived.Test.YtehnalbdfnmphaaDoorT1
namespace Go.Proofs.YtehnalbdfnmphaaDoor
open Go.Ab
/-- The reference's Valid, at the hooks in use. -/
theorem valR (h0 : Heap) (s m : SV) (l : Int) (xs ms : List Int) (hx : IsInts h0 s xs) (hs : IsInts h0 m ms) : ∃ v h', Cal FT HKt 13 [.agg [s, m, .int .i64 l]] h0 v h' ∧ Ext h0 h' ∧ ∃ b, v = .sc (.bool b) ∧ (b = true ↔ PV xs ms l) :=
  call13 rfl rfl rfl rfl rfl rfl h0 s m l xs ms hx hs
theorem valR_T {h0 : Heap} {s m : SV} {l : Int} {xs ms : List Int} (hx : IsInts h0 s xs) (hs : IsInts h0 m ms) (hV : PV xs ms l) : ∃ v h', Cal FT HKt 13 [.agg [s, m, .int .i64 l]] h0 v h' ∧ Ext h0 h' ∧ v = .sc (.bool true) := by
  obtain ⟨v, h', a, b, c, rfl, d⟩ := valR h0 s m l xs ms hx hs
  exact ⟨_, h', a, b, by rw [d.2 hV]⟩
theorem valR_F {h0 : Heap} {s m : SV} {l : Int} {xs ms : List Int} (hx : IsInts h0 s xs) (hs : IsInts h0 m ms) (hV : ¬ PV xs ms l) : ∃ v h', Cal FT HKt 13 [.agg [s, m, .int .i64 l]] h0 v h' ∧ Ext h0 h' ∧ v = .sc (.bool false) := by
  obtain ⟨v, h', a, b, c, rfl, d⟩ := valR h0 s m l xs ms hx hs
  cases c with
  | false => exact ⟨_, h', a, b, rfl⟩
  | true => exact absurd (d.1 rfl) hV
end Go.Proofs.YtehnalbdfnmphaaDoor
