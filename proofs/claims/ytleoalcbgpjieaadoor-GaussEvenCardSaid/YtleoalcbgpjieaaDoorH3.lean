/- copyCheck; the wakening: it says true. -/
import Derived.Test.YtleoalcbgpjieaaDoorCode
import Derived.Test.YtleoalcbgpjieaaDoorAb34
import Derived.WalkKit
import Derived.Laws.Externs
import Derived.Test.YtleoalcbgpjieaaDoorS4
import Derived.Test.YtleoalcbgpjieaaDoorAb32
import Derived.Test.YtleoalcbgpjieaaDoorGM
namespace Go.Proofs.YtleoalcbgpjieaaDoor
open Go.Ab Go.RowKit
set_option linter.unusedVariables false

theorem sizeB : (Tryd.prog.info? 80).map (·.size) = some 2 := by kernel_rfl
theorem liesB : liesAt Tryd.prog Tryd.prog.depth 80 (2 / Tryd.prog.cellsOf 80) 0 80 1 = true := by kernel_rfl

set_option maxRecDepth 100000 in
theorem cc_used (b : Nat) (w : World) (h0 : w.cell? ⟨b, 0, none⟩ = some (.pointer (some ⟨b, 0, none⟩))) :
    Calls Tryd.prog 60 #[.pointer (some ⟨b, 0, none⟩)] w fun e w' => e = .returned (.tuple #[]) ∧ w' = w := by
  obtain ⟨j, hj, hjs⟩ := Option.map_eq_some_iff.1 sizeB
  go_enter Tryd.func60, Tryd.ntmps60
  go_wp2
  rw [Lib.run_neq_ptr_same w _ Tryd.underlying77 hj]
  go_wp2
  go_end0
  exact ⟨rfl, rfl⟩

set_option maxHeartbeats 1000000 in
set_option maxRecDepth 100000 in
theorem cc_new (b : Nat) (w : World) (h0 : w.cell? ⟨b, 0, none⟩ = some (.pointer none)) (hsh : w.shape? b = some (80, 2)) (hfz : w.frozen? ⟨b, 0, none⟩ = false) :
    Calls Tryd.prog 60 #[.pointer (some ⟨b, 0, none⟩)] w fun e w' => e = .returned (.tuple #[]) ∧ w' = w.setCell ⟨b, 0, none⟩ (.pointer (some ⟨b, 0, none⟩)) := by
  obtain ⟨j, hj, hjs⟩ := Option.map_eq_some_iff.1 sizeB
  go_enter Tryd.func60, Tryd.ntmps60
  go_wp2
  rw [Lib.run_to_unsafe w ⟨b, 0, none⟩ Tryd.underlying77 Tryd.underlying107 hj (by rw [hjs]; decide) hsh (Nat.zero_lt_succ 1)]
  simp only [Result.andThen]
  rw [Oper.upon_value]
  go_wp2
  rw [run_callFunc_extern Tryd.func68 (by kernel_rfl) (by kernel_rfl) (by kernel_rfl) (e := Extern.AbiNoEscape.same) (by kernel_rfl)]
  rw [Lib.run_noEscape]
  simp only [Result.andThen]
  rw [Oper.upon_value]
  go_wp2
  rw [Lib.run_from_unsafe w ⟨b, 0, none⟩ Tryd.underlying107 Tryd.underlying77 hj hsh liesB]
  simp only [Result.andThen]
  rw [Oper.upon_value]
  go_wp2
  go_end0
  exact ⟨rfl, rfl⟩

def HK0 : FuncId → Option Hook := fun f => if f = 60 then some (ccHook 80) else none
theorem HK0_ok [Base] : HKok Tryd.prog HK0 := fun f g h => by
  unfold HK0 at h
  split at h
  · rename_i hf
    simp only [Option.some.injEq] at h
    subst hf h
    exact ccHook_ok (by kernel_rfl) cc_used cc_new
  · simp at h

/-- The hooks over which the wakening is reckoned. -/
def HKs : FuncId → Option Hook := fun f => if f = 48 then some joinHook else if f = 49 then some fieldsHookA else if f = 65 then some atoiHook else if f = 46 then some itoaHookA else HK0 f
end Go.Proofs.YtleoalcbgpjieaaDoor


namespace Go.Proofs.YtleoalcbgpjieaaDoor
open Go.Ab
set_option linter.unusedVariables false

def HKt : FuncId → Option Hook := fun f => if f = 9 then some (constHook (.sc (.bool true))) else HK0 f
theorem awake_callT (h : Heap) : ∃ v h', Cal FT HKt 9 [] h v h' ∧ v = .sc (.bool true) ∧ h' = h := ⟨_, _, Cal.hook (g := constHook (.sc (.bool true))) rfl rfl, rfl, rfl⟩
end Go.Proofs.YtleoalcbgpjieaaDoor



namespace Go.Proofs.YtleoalcbgpjieaaDoor
open Go.Ab
set_option linter.unusedVariables false
set_option linter.unusedSimpArgs false
set_option maxRecDepth 20000
attribute [local irreducible] wOps wA wSeq wBlk wRound wOpsD

structure Po (h0 H h : Heap) (qo : Nat) (X S : SV) (L : Int) (C : List (List Vis)) : Prop where
  e : Ext h0 h
  len : H.length ≤ h.length
  kp : ∀ (j : Nat) (b : Blk), H[j]? = some b → j ≠ qo → h[j]? = some b
  c : Cel3 h qo X S (.int .i64 L)
  x : ∃ ss, ss.length = C.length ∧ Own h0 h X ss ∧ ∀ (i : Nat) (t : SV) (vs : List Vis), ss[i]? = some t → C[i]? = some vs → IsVis h t vs ∧ Ab.Apart X t ∧ Fsh H t
  xf : Fsh H X
theorem Po.ext {h0 H h h' : Heap} {qo : Nat} {X S : SV} {L : Int} {C : List (List Vis)} (s : Po h0 H h qo X S L C) (e : Ext h h') : Po h0 H h' qo X S L C := by
  obtain ⟨ss, x1, x2, x3⟩ := s.x
  exact ⟨s.e.trans e, Nat.le_trans s.len e.len, fun j b a c => e.get _ _ (s.kp j b a c), s.c.ext e, ⟨ss, x1, x2.ext e, fun i t vs a b => ⟨(x3 i t vs a b).1.ext e, (x3 i t vs a b).2⟩⟩, s.xf⟩
theorem Po.push {h0 H h2 h3 : Heap} {qo : Nat} {X X' S t : SV} {L : Int} {C : List (List Vis)} {vs : List Vis} {ss : List SV} (q0 : h0.length ≤ qo) (q1 : qo < H.length) (s : Po h0 H h2 qo X S L C)
    (x1 : ss.length = C.length) (x3 : ∀ (i : Nat) (t : SV) (vs : List Vis), ss[i]? = some t → C[i]? = some vs → IsVis h2 t vs ∧ Ab.Apart X t ∧ Fsh H t)
    (v1 : IsVis h2 t vs) (hfH : Fsh H t) (hat : Ab.Apart X t) (o3 : Own h0 h3 X' (ss ++ [t])) (e3 : Ext h0 h3) (f3 : Fram h2 h3 X X') (l3 : h2.length ≤ h3.length) :
    Po h0 H (h3.set qo (.cells [X', S, .int .i64 L] true 0)) qo X' S L (C ++ [vs]) := by
  have xf' : Fsh H X' := fun j hj => by
    have hj2 : j < h2.length := Nat.lt_of_lt_of_le hj s.len
    exact (f3 j _ (List.getElem?_eq_getElem hj2) (s.xf j hj)).2
  have c3 : Cel3 h3 qo X S (.int .i64 L) := (f3 _ _ s.c (s.xf _ q1)).1
  refine ⟨e3.set q0 _, by rw [List.length_set]; exact Nat.le_trans s.len l3, fun j b h1 h2 => ?_, c3.wr.2.2.2 _ _ _, ⟨ss ++ [t], by simp [x1], own_set o3 (xf' _ q1) _, fun i u us a b => ?_⟩, xf'⟩
  · rw [List.getElem?_set_ne (fun e => h2 e.symm)]
    exact (f3 j b (s.kp j b h1 h2) (s.xf j (List.getElem?_eq_some_iff.1 h1).1)).1
  · rcases Nat.lt_or_ge i ss.length with hi | hi
    · rw [List.getElem?_append_left hi] at a
      rw [List.getElem?_append_left (by omega)] at b
      obtain ⟨v1, v2, v3⟩ := x3 i u us a b
      exact ⟨vis_set (IsSl.away v1 f3 v2) (v3 _ q1) _, Fram.apart f3 v1 v2, v3⟩
    · rw [List.getElem?_append_right hi] at a
      rw [List.getElem?_append_right (by omega), ← x1] at b
      have h0' : i - ss.length = 0 := by
        have := (List.getElem?_eq_some_iff.1 a).1
        simp at this; omega
      rw [h0'] at a b
      simp only [List.getElem?_cons_zero, Option.some.injEq] at a b
      subst a b
      exact ⟨vis_set (IsSl.away v1 f3 hat) (hfH _ q1) _, Fram.apart f3 v1 hat, hfH⟩

theorem vcs_snoc (vs : List Vis) (v : Vis) : vcs (vs ++ [v]) = vcs vs ++ [.int .i64 v.1, .bool v.2] := by rw [vcs_app]; rfl
def I13v (hb : Heap) (qr qo : Nat) (X t : SV) (n i : Nat) (vs : List Vis) (E : Env) (h : Heap) : Prop := ∃ (k : Nat) (u : SV), k ≤ vs.length ∧ Ext hb h ∧ Own2 hb h u k (vcs (vs.take k)) ∧
  E = [(2, some (.sc (.ptr qr 0))), (3, some (.sc (.ptr qo 0))), (6, some (.sc u)), (15, some (.sc X)), (16, some (.sc (.int .i64 (n : Nat)))), (17, some (.sc (.int .i64 (i : Nat)))), (21, some (.sc t)), (22, some (.sc (.int .i64 (vs.length : Nat)))), (23, some (.sc (.int .i64 (k : Nat))))]
def R13v (hb : Heap) (qr qo : Nat) (X : SV) (n i : Nat) (vs : List Vis) (ex : Ex) (E : Env) (h : Heap) : Prop := ex = .ex 2 ∧ Ext hb h ∧ ∃ u a b c d, Own2 hb h u vs.length (vcs vs) ∧
  E = [(2, some (.sc (.ptr qr 0))), (3, some (.sc (.ptr qo 0))), (6, some (.sc u)), (15, some (.sc X)), (16, some (.sc (.int .i64 (n : Nat)))), (17, some (.sc (.int .i64 (i : Nat)))), (21, a), (22, b), (23, c), (24, d)]
def I13c (h0 H : Heap) (qr qo : Nat) (X S : SV) (g : GC) (E : Env) (h : Heap) : Prop := ∃ (i : Nat) (Y : SV), i ≤ g.C.length ∧ Po h0 H h qo Y S g.L (g.C.take i) ∧
  E = [(2, some (.sc (.ptr qr 0))), (3, some (.sc (.ptr qo 0))), (15, some (.sc X)), (16, some (.sc (.int .i64 (g.C.length : Nat)))), (17, some (.sc (.int .i64 (i : Nat))))]
def R13c (h0 H : Heap) (qr qo : Nat) (S : SV) (g : GC) (ex : Ex) (E : Env) (h : Heap) : Prop := ex = .ex 0 ∧ ∃ Y a b c d, Po h0 H h qo Y S g.L g.C ∧
  E = [(2, some (.sc (.ptr qr 0))), (3, some (.sc (.ptr qo 0))), (15, a), (16, b), (17, c), (18, d)]
end Go.Proofs.YtleoalcbgpjieaaDoor

