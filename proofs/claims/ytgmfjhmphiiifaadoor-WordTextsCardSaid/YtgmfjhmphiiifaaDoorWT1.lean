/- The library's contracts at this program; the hooks of the laws on texts. -/
import Derived.Test.YtgmfjhmphiiifaaDoorAwake
import Derived.Test.YtgmfjhmphiiifaaDoorShelf
import Derived.Test.YtgmfjhmphiiifaaDoorAb32
import Derived.Test.YtgmfjhmphiiifaaDoorAb32
namespace Go.Proofs.YtgmfjhmphiiifaaDoor
open Go.Ab
set_option linter.unusedVariables false

/-- Two package variables lie first: MaxLen, the powers of ten. -/
instance pin2 : PinN := ⟨2⟩

def HKt : FuncId → Option Hook := fun f => if f = 41 then some (splitHook 0 1) else if f = 39 then some (itoaHook 1 0) else HK1 f
theorem HKt_ok : HKok Tryd.prog HKt := fun f g h => by
  unfold HKt at h
  split at h
  · rename_i hf
    simp only [Option.some.injEq] at h
    subst hf h
    exact splitHook_ok (e := 9) (by kernel_rfl) (by decide) (by decide) fun s sep m w h1 h2 h3 => strings_Split s sep m w h1 h2 h3
  split at h
  · rename_i hf
    simp only [Option.some.injEq] at h
    subst hf h
    exact itoaHook_ok (nm := "internal/strconv.uint64pow10") (by kernel_rfl) (by decide) (by decide) (by kernel_rfl) fun n h1 h2 w h3 => strconv_Itoa n h1 h2 w h3
  · exact HK1_ok f g h

/-- The pinned blocks lie first. -/
structure IsPins (h : Heap) : Prop where
  p0 : PinInt h 0 1 = true
  p1 : PinTab h 1 0 = true
theorem IsPins.mk4 (m : Int) (t : Heap) : IsPins (.cells [.int .i64 m] false (pinZ 1 1) :: .cells (Lib.pow10Tab.map (.int .u64)) false (pinZ 0 20) :: t) :=
  ⟨rfl, by simp [PinTab]⟩
theorem IsPins.ext {h h' : Heap} (hp : IsPins h) (he : Ext h h') : IsPins h' := by
  obtain ⟨t, rfl⟩ := he
  have key : ∀ i (b : Blk), h[i]? = some b → (h ++ t)[i]? = some b := fun i b hb => mono_app i b hb
  obtain ⟨p0, p3⟩ := hp
  refine ⟨?_, ?_⟩
  · unfold PinInt at *
    split at p0
    · rename_i hg; rw [key _ _ hg]; exact p0
    · simp at p0
  · unfold PinTab at *
    split at p3
    · rename_i hg; rw [key _ _ hg]; exact p3
    · simp at p3

theorem awake_callT (h : Heap) : ∃ v h', Cal FT HKt 12 [] h v h' ∧ v = .sc (.bool true) ∧ h' = h := ⟨_, _, Cal.hook (g := constHook (.sc (.bool true))) rfl rfl, rfl, rfl⟩
theorem split_call {h : Heap} (hp : IsPins h) (s sep : List UInt8) (hl : s.length ≤ 1000000) (h1 : 1 ≤ sep.length) : ∃ v h', Cal FT HKt 41 [.sc (tb s), .sc (tb sep)] h v h' ∧ ∃ t, v = .sc t ∧ Ext h h' ∧ IsSl h' t 1 (Lib.split s sep).length ((Lib.split s sep).map tb) := by
  refine ⟨_, _, Cal.hook (g := splitHook 0 1) rfl (by simp only [splitHook, tb, tb_size]; rw [if_pos ⟨hp.p0, by omega, h1⟩]), _, rfl, ⟨_, rfl⟩, .inr ⟨h.length, 0, _, _, rfl, by simp; rfl, rfl, fun h0 => by rw [List.eq_nil_of_length_eq_zero h0]; rfl, fun _ => ⟨_, true, rfl, ?_⟩⟩⟩
  unfold cut
  simp only [ESz.one_n, Nat.mul_one]
  rw [if_pos (by simp)]
  simp only [List.drop_zero, Option.some.injEq]
  exact List.take_of_length_le (by simp)
theorem itoa_call {h : Heap} (hp : IsPins h) (n : Int) (hn : -9223372036854775808 ≤ n ∧ n ≤ 9223372036854775807) : ∃ v h', Cal FT HKt 39 [.sc (.int .i64 n)] h v h' ∧ h' = h ∧ v = .sc (tb (Lib.itoa n)) :=
  ⟨_, _, Cal.hook (g := itoaHook 1 0) rfl (by simp only [itoaHook]; rw [if_pos ⟨hp.p1, hn⟩]), rfl, rfl⟩
end Go.Proofs.YtgmfjhmphiiifaaDoor
