/- The text of a diagram: plain. -/
import Derived.Test.YtehnalbdfnmphaaDoorT2
import Derived.Test.YtehnalbdfnmphaaDoorVR
import Derived.Test.YtehnalbdfnmphaaDoorS4
import Derived.Test.YtehnalbdfnmphaaDoorAb38
import Derived.Lib.ItoaLen
namespace Go.Proofs.YtehnalbdfnmphaaDoor
open Go.Ab
set_option linter.unusedVariables false

/-- The labels after k steps along the strands. -/
def lbK (ms : List Int) (H : List Nat) : Nat → List Int
  | 0 => List.replicate ms.length 0
  | k + 1 => ((lbK ms H k).set (H.getD k 0) ((k + 1 : Nat) : Int)).set (mateN ms (H.getD k 0)) ((k + 1 : Nat) : Int)
theorem lbK_len (ms : List Int) (H : List Nat) : ∀ k, (lbK ms H k).length = ms.length
  | 0 => by simp [lbK]
  | k + 1 => by simp [lbK, lbK_len ms H k]
theorem lbK_mem (ms : List Int) (H : List Nat) : ∀ k, ∀ x ∈ lbK ms H k, 0 ≤ x ∧ x ≤ k
  | 0, x, hx => by simp [lbK] at hx; omega
  | k + 1, x, hx => by
    rw [lbK] at hx
    rcases List.mem_or_eq_of_mem_set hx with hx | rfl
    · rcases List.mem_or_eq_of_mem_set hx with hx | rfl
      · have := lbK_mem ms H k x hx; omega
      · omega
    · omega
theorem lbK_get {ms : List Int} {H : List Nat} {k i : Nat} (hi : i < ms.length) : ∃ x : Int, (lbK ms H k)[i]? = some x ∧ 0 ≤ x ∧ x ≤ k := by
  have hl : i < (lbK ms H k).length := by rw [lbK_len]; exact hi
  exact ⟨_, List.getElem?_eq_getElem hl, lbK_mem ms H k _ (List.getElem_mem hl)⟩
/-- All half-edges in the strands' order. -/
noncomputable def walkH (xs ms : List Int) : List Nat := (strs xs ms).flatten
/-- The labels. -/
noncomputable def labs (xs ms : List Int) : List Int := lbK ms (walkH xs ms) (walkH xs ms).length
theorem strs_small {xs ms : List Int} {l : Int} (hF : Front xs ms l) : ∀ L ∈ strs xs ms, L.length ≤ 256 ∧ ∀ g ∈ L, g < ms.length := by
  intro L hL
  unfold strs at hL
  obtain ⟨h, hh, rfl⟩ := List.mem_map.1 hL
  obtain ⟨h1, h2, h3⟩ := starts_mem.1 hh
  obtain ⟨hc, hl⟩ := cyc_is hF.mates hF.inv h1
  have h4 := hF.four
  have h5 := hF.n64
  refine ⟨by omega, fun g hg => ?_⟩
  obtain ⟨j, rfl⟩ := hc.mem.1 hg
  exact hF.mates.pit_lt h1 j
theorem strs_len {xs ms : List Int} {l : Int} (hF : Front xs ms l) : (strs xs ms).length ≤ 256 := by
  unfold strs
  rw [List.length_map]
  have := starts_le xs ms ms.length
  have h4 := hF.four
  have h5 := hF.n64
  omega
theorem flat_bound {α : Type} {C : List (List α)} {k : Nat} (h : ∀ c ∈ C, c.length ≤ k) : C.flatten.length ≤ C.length * k := by
  induction C with
  | nil => simp
  | cons c r ih =>
    have h1 := h c (by simp)
    have h2 := ih fun d hd => h d (by simp [hd])
    simp only [List.flatten_cons, List.length_append, List.length_cons, Nat.add_mul, Nat.one_mul]
    omega
theorem walkH_len {xs ms : List Int} {l : Int} (hF : Front xs ms l) : (walkH xs ms).length ≤ 65536 := by
  have := flat_bound (C := strs xs ms) (k := 256) fun c hc => (strs_small hF c hc).1
  have h2 := strs_len hF
  unfold walkH
  omega
/-- Where a step stands in the whole walk. -/
theorem flat_at {C : List (List Nat)} {i k x : Nat} {L : List Nat} (hL : C[i]? = some L) (hx : L[k]? = some x) : C.flatten[(C.take i).flatten.length + k]? = some x := by
  have e : C.flatten = (C.take i).flatten ++ C.flatten.drop ((C.take i).flatten.length) := by
    conv => lhs; rw [← List.take_append_drop i C, List.flatten_append]
    conv => rhs; rw [← List.take_append_drop i C, List.flatten_append]
    simp
  obtain ⟨hi, hLe⟩ := List.getElem?_eq_some_iff.1 hL
  have e2 : C.flatten = (C.take i).flatten ++ (L ++ (C.drop (i + 1)).flatten) := by
    conv => lhs; rw [← List.take_append_drop i C, List.flatten_append]
    rw [List.drop_eq_getElem_cons hi, hLe, List.flatten_cons]
  have hk := (List.getElem?_eq_some_iff.1 hx).1
  rw [e2, List.getElem?_append_right (by omega), Nat.add_sub_cancel_left, List.getElem?_append_left hk, hx]
theorem flat_take {C : List (List Nat)} {i : Nat} {L : List Nat} (hL : C[i]? = some L) : (C.take (i + 1)).flatten.length = (C.take i).flatten.length + L.length := by
  rw [take_snoc hL, List.flatten_append, List.length_append]; simp
theorem flat_pre {C : List (List Nat)} (i : Nat) : (C.take i).flatten.length ≤ C.flatten.length := by
  conv => rhs; rw [← List.take_append_drop i C, List.flatten_append, List.length_append]
  omega

/-! ### The text -/
def sgT (x : Int) : List UInt8 := if x = 1 then [43] else [45]
/-- A row, up to its first k labels. -/
def rowK (xs lb : List Int) (c : Nat) : Nat → List UInt8
  | 0 => sgT (xs.getD c 0)
  | k + 1 => rowK xs lb c k ++ [32] ++ Lib.itoa (lb.getD (4 * c + k) 0)
/-- The first c rows. -/
def txtK (xs lb : List Int) : Nat → List UInt8
  | 0 => []
  | c + 1 => txtK xs lb c ++ (rowK xs lb c 4 ++ [10])
def loopsT : List UInt8 := [108, 111, 111, 112, 115, 32]
def txt (xs lb : List Int) (l : Int) : List UInt8 := txtK xs lb xs.length ++ loopsT ++ Lib.itoa l ++ [10]
/-- Labels of moderate size. -/
def Mod (lb : List Int) : Prop := ∀ x ∈ lb, 0 ≤ x ∧ x ≤ 65536
theorem Mod.get {lb : List Int} (h : Mod lb) (i : Nat) : 0 ≤ lb.getD i 0 ∧ lb.getD i 0 ≤ 65536 := by
  cases hx : lb[i]? with
  | none => simp [List.getD, hx]
  | some x =>
    have := h x (List.mem_of_getElem? hx)
    simpa [List.getD, hx] using this
theorem itoa_len {x : Int} (h : 0 ≤ x ∧ x ≤ 65536) : (Lib.itoa x).length ≤ 21 := Lib.itoa_length_le x (by omega) (by omega)
theorem rowK_len {xs lb : List Int} (h : Mod lb) (c : Nat) : ∀ k, (rowK xs lb c k).length ≤ 1 + 22 * k
  | 0 => by simp [rowK, sgT]; split <;> simp
  | k + 1 => by
    have := rowK_len (xs := xs) h c k
    have h2 := itoa_len (h.get (4 * c + k))
    simp only [rowK, List.length_append, List.length_cons, List.length_nil]
    omega
theorem txtK_len {xs lb : List Int} (h : Mod lb) : ∀ c, (txtK xs lb c).length ≤ 100 * c
  | 0 => by simp [txtK]
  | c + 1 => by
    have := txtK_len (xs := xs) h c
    have h2 := rowK_len (xs := xs) h c 4
    simp only [txtK, List.length_append, List.length_cons, List.length_nil]
    omega
theorem labs_mod {xs ms : List Int} {l : Int} (hF : Front xs ms l) : Mod (labs xs ms) := by
  intro x hx
  have := lbK_mem ms _ _ x hx
  have := walkH_len hF
  omega
end Go.Proofs.YtehnalbdfnmphaaDoor
