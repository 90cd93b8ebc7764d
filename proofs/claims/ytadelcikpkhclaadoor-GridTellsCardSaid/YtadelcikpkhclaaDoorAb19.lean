/- Looking things up, step by step: for simp. -/
import Derived.Test.YtadelcikpkhclaaDoorAb18
namespace Go.Ab
set_option linter.unusedVariables false

def pickE (b : Bool) (v : Option AV) (r : Env) (t : Nat) : Option AV := match b with
  | true => v
  | false => r.get t

theorem get_cons (k t : Nat) (v : Option AV) (r : Env) : Env.get ((k, v) :: r) t = pickE (k == t) v r t := by
  by_cases h : k = t
  · subst h; simp [Env.get, pickE]
  · have h2 : (k == t) = false := by simpa using h
    rw [h2]; simp [Env.get, h, pickE]
theorem pickE_true (v : Option AV) (r : Env) (t : Nat) : pickE true v r t = v := rfl
theorem pickE_false (v : Option AV) (r : Env) (t : Nat) : pickE false v r t = r.get t := rfl
theorem pickE_congr {b b' : Bool} {v : Option AV} {r : Env} {t : Nat} (h : b = b') : pickE b v r t = pickE b' v r t := by rw [h]
theorem get_nil (t : Nat) : Env.get [] t = none := rfl
theorem keep_nil (E : Env) : E.keep [] = [] := rfl
theorem keep_cons (E : Env) (k : Nat) (ks : List Nat) : E.keep (k :: ks) = (k, E.get k) :: E.keep ks := rfl

theorem beq_tt : (true == true) = true := rfl
theorem beq_tf : (true == false) = false := rfl
theorem beq_ft : (false == true) = false := rfl
theorem beq_ff : (false == false) = true := rfl

section
variable {FT : FuncId → Option AFun} {HK : FuncId → Option Hook} {a b : AC} {E : Env} {h : Heap} {Q : Ex → Env → Heap → Prop}

theorem w_seq (hw : wA FT HK a E h (wSeq (fun E' h' => wA FT HK b E' h' Q) Q)) : wA FT HK (.seq a b) E h Q := hw
theorem w_seqN {w : Env → Heap → Prop} (hw : w E h) : wSeq w Q .nm E h := hw
theorem w_seqX {w : Env → Heap → Prop} {i : Nat} (hw : Q (.ex i) E h) : wSeq w Q (.ex i) E h := hw
theorem w_seqR {w : Env → Heap → Prop} (hw : Q .rt E h) : wSeq w Q .rt E h := hw
theorem w_blk {i : Nat} (hw : wA FT HK a E h (wBlk i Q)) : wA FT HK (.block i a) E h Q := hw
theorem w_blkN {i : Nat} (hw : Q .nm E h) : wBlk i Q .nm E h := hw
theorem w_blkX {i : Nat} (hw : Q .nm E h) : wBlk i Q (.ex i) E h := ⟨fun _ => hw, fun hc => absurd rfl hc⟩
theorem w_blkY {i j : Nat} (hj : (j == i) = false) (hw : Q (.ex j) E h) : wBlk i Q (.ex j) E h := ⟨fun hc => by subst hc; simp at hj, fun _ => hw⟩
theorem w_blkR {i : Nat} (hw : Q .rt E h) : wBlk i Q .rt E h := hw
theorem w_skip (hw : Q .nm E h) : wA FT HK .skip E h Q := hw
theorem w_ret (hw : Q .rt E h) : wA FT HK .ret E h Q := hw
theorem w_exit {i : Nat} (hw : Q (.ex i) E h) : wA FT HK (.exit i) E h Q := hw
theorem w_cond {c : AO} (t : Bool) (hc : evS E c = some (.bool t)) (ht : t = true → wA FT HK a E h Q) (hf : t = false → wA FT HK b E h Q) : wA FT HK (.cond c a b) E h Q := by
  show oK (evS E c) _
  rw [hc]
  exact ⟨ht, fun h2 => hf (by simpa using h2)⟩
theorem w_reg {ops : List AOp} {ks : List Nat} (hw : ∀ K : Env → Heap → Prop, (∀ E' h', Q .nm E' h' → K E' h') → wOps FT HK ops E h (fun E' h' => K (E'.keep ks) h')) : wA FT HK (.reg ops ks) E h Q :=
  hw _ fun _ _ h2 => h2
theorem w_regd {ops : List (AOp × Nat × Bool)} {ks : List Nat} (hw : ∀ K : Env → Heap → Prop, (∀ E' h', Q .nm E' h' → K E' h') → wOpsD FT HK ops E h (fun E' h' => K (E'.keep ks) h')) : wA FT HK (.regd ops ks) E h Q :=
  hw _ fun _ _ h2 => h2
theorem w_loop {ks : List Nat} (I : Env → Heap → Prop) (μ : Env → Heap → Nat) (R : Ex → Env → Heap → Prop) (h0 : I E h)
    (round : ∀ E h, I E h → wA FT HK a (E.keep ks) h (wRound I μ (μ E h) R)) (hQ : ∀ ex E' h', R ex E' h' → Q ex E' h') : wA FT HK (.loop ks a) E h Q :=
  wLoop_of (Lp.of I μ round E h h0) hQ
theorem w_roundN {I : Env → Heap → Prop} {μ : Env → Heap → Nat} {k : Nat} {R : Ex → Env → Heap → Prop} (h1 : I E h) (h2 : μ E h < k) : wRound I μ k R .nm E h := ⟨h1, h2⟩
theorem w_roundX {I : Env → Heap → Prop} {μ : Env → Heap → Nat} {k i : Nat} {R : Ex → Env → Heap → Prop} (h1 : R (.ex i) E h) : wRound I μ k R (.ex i) E h := h1
theorem w_roundR {I : Env → Heap → Prop} {μ : Env → Heap → Nat} {k : Nat} {R : Ex → Env → Heap → Prop} (h1 : R .rt E h) : wRound I μ k R .rt E h := h1
end

end Go.Ab
