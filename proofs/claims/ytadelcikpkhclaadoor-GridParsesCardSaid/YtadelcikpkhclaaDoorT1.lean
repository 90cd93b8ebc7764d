/- The library's contracts at this program; the hooks of the laws on texts. -/
import Derived.Test.YtadelcikpkhclaaDoorAwake
import Derived.Test.YtadelcikpkhclaaDoorShelf
import Derived.Test.YtadelcikpkhclaaDoorAb32
import Derived.Test.YtadelcikpkhclaaDoorAb32
namespace Go.Proofs.YtadelcikpkhclaaDoor
open Go.Ab
set_option linter.unusedVariables false

/-- Four package variables lie first: MaxLen, ErrSyntax, ErrRange, the powers of ten. -/
instance pin4 : PinN := ⟨4⟩

def HKt : FuncId → Option Hook := fun f => if f = 45 then some (cutHook 0) else if f = 57 then some (splitHook 0) else if f = 58 then some (atoiHook 1 2) else if f = 54 then some (itoaHook 3) else HK1 f
theorem HKt_ok : HKok Tryd.prog HKt := fun f g h => by
  unfold HKt at h
  split at h
  · rename_i hf
    simp only [Option.some.injEq] at h
    subst hf h
    exact cutHook_ok (by kernel_rfl) (by decide) (by decide) fun s sep m w h1 h2 => strings_Cut s sep m w h1 h2
  split at h
  · rename_i hf
    simp only [Option.some.injEq] at h
    subst hf h
    exact splitHook_ok (e := 9) (by kernel_rfl) (by decide) (by decide) fun s sep m w h1 h2 h3 => strings_Split s sep m w h1 h2 h3
  split at h
  · rename_i hf
    simp only [Option.some.injEq] at h
    subst hf h
    refine atoiHook_ok (te := 92) (ty := 5) (by kernel_rfl) (by decide) (by decide) (by decide) (fun s h1 v h2 w => strconv_Atoi_ok s h1 v h2 w) (fun s h1 h2 ev w h3 h4 => ⟨fun _ _ _ => True, (strconv_Atoi_bad s h1 h2 ev w h3 h4).mono fun e w' ⟨N, a, b, _, d⟩ => ⟨N, a, b, trivial, d⟩⟩) (fun s h1 h2 ev w h3 h4 => ⟨fun _ _ _ => True, (strconv_Atoi_range s h1 h2 ev w h3 h4).mono fun e w' ⟨N, a, b, _, d⟩ => ⟨N, a, b, trivial, d⟩⟩)
  split at h
  · rename_i hf
    simp only [Option.some.injEq] at h
    subst hf h
    exact itoaHook_ok (nm := "internal/strconv.uint64pow10") (by kernel_rfl) (by decide) (by decide) (by kernel_rfl) fun n h1 h2 w h3 => strconv_Itoa n h1 h2 w h3
  · exact HK1_ok f g h

/-- The pinned blocks lie first. -/
structure IsPins (h : Heap) : Prop where
  p0 : PinInt h 0 0 = true
  p1 : PinIfc h 1 1 = true
  p2 : PinIfc h 2 2 = true
  p3 : PinTab h 3 3 = true
theorem IsPins.mk4 (m : Int) (t : Heap) : IsPins (.cells [.int .i64 m] false (pinZ 0 1) :: .cells [.ifc] false (pinZ 1 1) :: .cells [.ifc] false (pinZ 2 1) :: .cells (Lib.pow10Tab.map (.int .u64)) false (pinZ 3 20) :: t) :=
  ⟨rfl, rfl, rfl, by simp [PinTab]⟩
theorem IsPins.ext {h h' : Heap} (hp : IsPins h) (he : Ext h h') : IsPins h' := by
  obtain ⟨t, rfl⟩ := he
  have key : ∀ i (b : Blk), h[i]? = some b → (h ++ t)[i]? = some b := fun i b hb => mono_app i b hb
  obtain ⟨p0, p1, p2, p3⟩ := hp
  refine ⟨?_, ?_, ?_, ?_⟩
  · unfold PinInt at *
    split at p0
    · rename_i hg; rw [key _ _ hg]; exact p0
    · simp at p0
  · unfold PinIfc at *
    split at p1
    · rename_i hg; rw [key _ _ hg]; exact p1
    · simp at p1
  · unfold PinIfc at *
    split at p2
    · rename_i hg; rw [key _ _ hg]; exact p2
    · simp at p2
  · unfold PinTab at *
    split at p3
    · rename_i hg; rw [key _ _ hg]; exact p3
    · simp at p3

theorem awake_callT (h : Heap) : ∃ v h', Cal FT HKt 11 [] h v h' ∧ v = .sc (.bool true) ∧ h' = h := ⟨_, _, Cal.hook (g := constHook (.sc (.bool true))) rfl rfl, rfl, rfl⟩
theorem cut_call {h : Heap} (hp : IsPins h) (s sep : List UInt8) (hl : s.length ≤ 1000000) : ∃ v h', Cal FT HKt 45 [.sc (tb s), .sc (tb sep)] h v h' ∧ h' = h ∧ v = .tup [.sc (tb (Lib.cut s sep).1), .sc (tb (Lib.cut s sep).2.1), .sc (.bool (Lib.cut s sep).2.2)] :=
  ⟨_, _, Cal.hook (g := cutHook 0) rfl (by simp only [cutHook, tb, tb_size]; rw [if_pos ⟨hp.p0, by omega⟩]), rfl, rfl⟩
theorem split_call {h : Heap} (hp : IsPins h) (s sep : List UInt8) (hl : s.length ≤ 1000000) (h1 : 1 ≤ sep.length) : ∃ v h', Cal FT HKt 57 [.sc (tb s), .sc (tb sep)] h v h' ∧ ∃ t, v = .sc t ∧ Ext h h' ∧ IsSl h' t 1 (Lib.split s sep).length ((Lib.split s sep).map tb) := by
  refine ⟨_, _, Cal.hook (g := splitHook 0) rfl (by simp only [splitHook, tb, tb_size]; rw [if_pos ⟨hp.p0, by omega, h1⟩]), _, rfl, ⟨_, rfl⟩, .inr ⟨h.length, 0, _, _, rfl, by simp; rfl, rfl, fun h0 => by rw [List.eq_nil_of_length_eq_zero h0]; rfl, fun _ => ⟨_, true, rfl, ?_⟩⟩⟩
  unfold cut
  simp only [ESz.one_n, Nat.mul_one]
  rw [if_pos (by simp)]
  simp only [List.drop_zero, Option.some.injEq]
  exact List.take_of_length_le (by simp)
def atoiV (s : List UInt8) : AV := match Lib.atoiAll s with
  | .ok v => .tup [.sc (.int .i64 v), .sc .nilI]
  | .range => .tup [.sc (.int .i64 (Lib.atoiSat s)), .sc .ifc]
  | _ => .tup [.sc (.int .i64 0), .sc .ifc]
theorem atoi_call {h : Heap} (hp : IsPins h) (s : List UInt8) (hl : s.length ≤ 1000000) : ∃ v h', Cal FT HKt 58 [.sc (tb s)] h v h' ∧ h' = h ∧ v = atoiV s := by
  refine ⟨atoiV s, h, Cal.hook (g := atoiHook 1 2) rfl ?_, rfl, rfl⟩
  simp only [atoiHook, tb, tb_size]
  rw [if_pos ⟨hp.p1, hp.p2, by omega⟩]
  unfold atoiV
  cases Lib.atoiAll s <;> rfl
theorem itoa_call {h : Heap} (hp : IsPins h) (n : Int) (hn : -9223372036854775808 ≤ n ∧ n ≤ 9223372036854775807) : ∃ v h', Cal FT HKt 54 [.sc (.int .i64 n)] h v h' ∧ h' = h ∧ v = .sc (tb (Lib.itoa n)) :=
  ⟨_, _, Cal.hook (g := itoaHook 3) rfl (by simp only [itoaHook]; rw [if_pos ⟨hp.p3, hn⟩]), rfl, rfl⟩
end Go.Proofs.YtadelcikpkhclaaDoor
