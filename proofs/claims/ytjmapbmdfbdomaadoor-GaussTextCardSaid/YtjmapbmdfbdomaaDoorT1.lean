/- Hooks for the library's functions of texts; what they answer. -/
import Derived.Test.YtjmapbmdfbdomaaDoorHk
import Derived.Test.YtjmapbmdfbdomaaDoorAb32
namespace Go.Proofs.YtjmapbmdfbdomaaDoor
open Go.Ab
set_option linter.unusedVariables false

def HKt : FuncId → Option Hook := fun f => if f = 22 then some joinHook else if f = 24 then some fieldsHook else if f = 38 then some atoiHook else if f = 20 then some itoaHook else if f = 6 then some (constHook (.sc (.bool true))) else HK0 f

theorem take_snoc {α : Type} {xs : List α} {i : Nat} {x : α} (hx : xs[i]? = some x) : xs.take (i + 1) = xs.take i ++ [x] := by
  rw [List.take_add_one, hx]; rfl
theorem awake_callT (h : Heap) : ∃ v h', Cal FT HKt 6 [] h v h' ∧ v = .sc (.bool true) ∧ h' = h := ⟨_, _, Cal.hook (g := constHook (.sc (.bool true))) rfl rfl, rfl, rfl⟩
theorem fields_call {h : Heap} (s : List UInt8) (hl : s.length ≤ 1000000) : ∃ v h', Cal FT HKt 24 [.sc (tb s)] h v h' ∧ ∃ t, v = .sc t ∧ Ext h h' ∧ IsSl h' t 1 (Lib.fieldsD s).length ((Lib.fieldsD s).map tb) := by
  refine ⟨_, _, Cal.hook (g := fieldsHook) rfl (by simp only [fieldsHook, tb, tb_size]; rw [if_pos (by omega)]), _, rfl, ⟨_, rfl⟩, .inr ⟨h.length, 0, _, _, rfl, by simp; rfl, rfl, fun h0 => by rw [List.eq_nil_of_length_eq_zero h0]; rfl, fun _ => ⟨_, false, rfl, ?_⟩⟩⟩
  unfold cut
  simp only [ESz.one_n, Nat.mul_one]
  rw [if_pos (by simp)]
  simp only [List.drop_zero, Option.some.injEq]
  exact List.take_of_length_le (by simp)
def atoiV (s : List UInt8) : AV := match Lib.atoiAll s with
  | .ok v => .tup [.sc (.int .i64 v), .sc .nilI]
  | .range => .tup [.sc (.int .i64 (Lib.atoiSat s)), .sc .ifc]
  | _ => .tup [.sc (.int .i64 0), .sc .ifc]
theorem atoi_call {h : Heap} (s : List UInt8) (hl : s.length ≤ 1000000) : ∃ v h', Cal FT HKt 38 [.sc (tb s)] h v h' ∧ h' = h ∧ v = atoiV s := by
  refine ⟨atoiV s, h, Cal.hook (g := atoiHook) rfl ?_, rfl, rfl⟩
  simp only [atoiHook, tb, tb_size]
  rw [if_pos (by omega)]
  unfold atoiV
  cases Lib.atoiAll s <;> rfl
theorem itoa_call {h : Heap} (n : Int) (hn : -9223372036854775808 ≤ n ∧ n ≤ 9223372036854775807) : ∃ v h', Cal FT HKt 20 [.sc (.int .i64 n)] h v h' ∧ h' = h ∧ v = .sc (tb (Lib.itoa n)) :=
  ⟨_, _, Cal.hook (g := itoaHook) rfl (by simp only [itoaHook]; rw [if_pos hn]), rfl, rfl⟩
theorem strsOf_tb : ∀ ws : List (List UInt8), strsOf (ws.map tb) = some ws
  | [] => rfl
  | w :: r => by
    simp only [List.map_cons, tb, strsOf]
    rw [strsOf_tb r]; rfl
theorem join_call {h : Heap} {s : SV} (ws : List (List UInt8)) (sep : List UInt8) (hs : IsSl h s 1 ws.length (ws.map tb)) (hn : ws.length ≤ 1000000) (hl : (Lib.join ws sep).length ≤ 1000000) :
    ∃ v h', Cal FT HKt 22 [.sc s, .sc (tb sep)] h v h' ∧ h' = h ∧ v = .sc (tb (Lib.join ws sep)) := by
  refine ⟨.sc (tb (Lib.join ws sep)), h, Cal.hook (g := joinHook) rfl ?_, rfl, rfl⟩
  rcases hs with ⟨rfl, h1, h2⟩ | ⟨id, off, cap, b, rfl, h1, h2, h3, h4⟩
  · have : ws = [] := List.eq_nil_of_length_eq_zero h1
    subst this; rfl
  · by_cases h0 : ws.length = 0
    · have : ws = [] := List.eq_nil_of_length_eq_zero h0
      subst this; rfl
    · obtain ⟨cs, rw', rfl, h5⟩ := h4 (by omega)
      have e : readN h id off ws.length = some (ws.map tb) := by
        unfold readN
        rw [h1]
        simpa using h5
      simp only [joinHook, tb]
      rw [if_neg h0, e]
      simp only [Option.bind_some, strsOf_tb]
      rw [if_pos ⟨by omega, by omega, trivial⟩]
end Go.Proofs.YtjmapbmdfbdomaaDoor
