/- Two facts about lists. -/
import Derived.Test.YtleoalcbgpjieaaDoorCode
import Derived.Test.YtleoalcbgpjieaaDoorAb35
import Derived.Test.YtleoalcbgpjieaaDoorAb23
import Derived.Test.YtleoalcbgpjieaaDoorAb23
namespace Go.Proofs.YtleoalcbgpjieaaDoor
open Go.Ab
theorem take_snoc {α : Type} {xs : List α} {i : Nat} {x : α} (hx : xs[i]? = some x) : xs.take (i + 1) = xs.take i ++ [x] := by
  rw [List.take_add_one, hx]; rfl

theorem fit_len : ∀ {ys T : List Nat}, ys.Nodup → (∀ y ∈ ys, y ∈ T) → ys.length ≤ T.length
  | [], _, _, _ => by simp
  | y :: ys, T, hn, hs => by
    have hy := hs y (by simp)
    have h1 : ∀ z ∈ ys, z ∈ T.erase y := fun z hz => by
      have hne : z ≠ y := fun he => by subst he; exact (List.nodup_cons.1 hn).1 hz
      exact (List.mem_erase_of_ne hne).2 (hs z (by simp [hz]))
    have h2 := fit_len (List.nodup_cons.1 hn).2 h1
    rw [List.length_erase_of_mem hy] at h2
    have := List.length_pos_of_mem hy
    simp; omega

end Go.Proofs.YtleoalcbgpjieaaDoor


/- Contracts of the leaves: Turn, outgoing, and their references. -/
namespace Go.Proofs.YtleoalcbgpjieaaDoor
open Go.Ab
set_option linter.unusedVariables false
set_option maxRecDepth 20000
set_option maxHeartbeats 2000000
variable {HK : FuncId → Option Hook}

theorem rem_nat (h k : Nat) : ((h : Int).tmod (k : Int)) = ((h % k : Nat) : Int) := by
  rw [Int.tmod_eq_emod_of_nonneg (by omega)]; rfl
theorem quo_nat (h k : Nat) : ((h : Int).tdiv (k : Int)) = ((h / k : Nat) : Int) := by
  rw [Int.tdiv_eq_ediv_of_nonneg (by omega)]; rfl

/-- The half-edge k slots further at the same crossing. -/
def turnN (h k : Nat) : Nat := h - h % 4 + (h % 4 + k) % 4

/-- What is handed on: a number that hangs on no memory, and memory as it was. -/
def IsN (n : Int) (h0 : Heap) (v : AV) (h' : Heap) : Prop := v = .sc (.int .i64 n) ∧ h' = h0
def IsB (b : Bool) (h0 : Heap) (v : AV) (h' : Heap) : Prop := v = .sc (.bool b) ∧ h' = h0

theorem call57 (hk : HK 57 = none) (h0 : Heap) (h k : Nat) (b : Int) (hh : h < 1000000) (hk4 : k < 4) (hb : b.tmod 4 = k ∨ b.tmod 4 = (k : Int) - 4) :
    ∃ v h', Cal FT HK 57 [.sc (.int .i64 h), .sc (.int .i64 b)] h0 v h' ∧ IsN (turnN h k) h0 v h' := by
  refine Cal.of (F := a57) hk rfl rfl ?_
  refine w_seq (w_ops ?_)
  refine op_ok rfl rfl rfl ?_
  refine w_end (keep_c rfl (keep_c rfl (keep_nil _))) (w_seqN (w_seq (w_seq (w_ops ?_))))
  refine op_ok rfl rfl rfl ?_
  refine op_test_f rfl rfl rfl (by simp) ?_
  refine w_end (keep_c rfl (keep_c rfl (keep_c rfl (keep_nil _)))) (w_seqN (w_condF rfl (w_skip (w_seqN (w_seq (w_ops ?_))))))
  refine op_ok rfl rfl rfl ?_
  refine op_ok rfl rfl rfl ?_
  refine op_eq rfl rfl rfl (y := .int .i64 ((h % 4 : Nat) : Int)) (by rw [← rem_nat]; rfl) ?_
  refine op_wrap rfl rfl rfl (by omega) ?_
  refine op_ok rfl rfl rfl ?_
  refine op_eq rfl rfl rfl (y := .int .i64 ((h % 4 : Nat) : Int)) (by rw [← rem_nat]; rfl) ?_
  refine op_ok rfl rfl rfl ?_
  refine op_ok rfl rfl rfl ?_
  refine op_wrap rfl rfl rfl (by rcases hb with hb | hb <;> rw [hb] <;> omega) ?_
  refine op_wrap rfl rfl rfl (by rcases hb with hb | hb <;> rw [hb] <;> omega) ?_
  refine op_eq rfl rfl rfl (y := .int .i64 (((h % 4 + k) % 4 : Nat) : Int)) ?_ ?_
  · congr 1
    rcases hb with hb | hb <;> rw [hb]
    · rw [show ((h % 4 : Nat) : Int) + (k : Int) + 4 = ((h % 4 + k + 4 : Nat) : Int) by omega, show (4 : Int) = ((4 : Nat) : Int) from rfl, rem_nat]; omega
    · rw [show ((h % 4 : Nat) : Int) + ((k : Int) - 4) + 4 = ((h % 4 + k : Nat) : Int) by omega, show (4 : Int) = ((4 : Nat) : Int) from rfl, rem_nat]
  refine op_wrap rfl rfl rfl (by omega) ?_
  refine op_ok rfl rfl rfl ?_
  refine w_end (keep_c rfl (keep_nil _)) (w_seqN (w_ret ?_))
  refine ⟨.inr rfl, ?_, rfl⟩
  show AV.sc (.int .i64 (((h : Int) - ((h % 4 : Nat) : Int)) + (((h % 4 + k) % 4 : Nat) : Int))) = _
  unfold turnN
  congr 2
  omega

/-- Whether half-edge h is outgoing. -/
def outB (xs : List Int) (h : Nat) : Bool := (h % 4 == 1 && xs.getD (h / 4) 0 == 1) || h % 4 == 2 || (h % 4 == 3 && xs.getD (h / 4) 0 == -1)

/-- The answer, and what was there still there. -/
def ToB (b : Bool) (h0 : Heap) (v : AV) (h' : Heap) : Prop := (∃ t, h' = h0 ++ t) ∧ v = .sc (.bool b)

theorem getD_at {xs : List Int} {i : Nat} {x : Int} (hx : xs[i]? = some x) : xs.getD i 0 = x := by simp [List.getD, hx]

theorem rd_box {h : Heap} {cs : List SV} {k : Nat} {x : SV} (hx : cs[k]? = some x) : readN (h ++ [.cells cs true 0]) h.length k 1 = some [x] := rd_last hx

theorem call38 (hk : HK 38 = none) (h0 : Heap) (s m l : SV) (xs : List Int) (hs : IsInts h0 s xs) (h : Nat) (hh : h < 4 * xs.length) (hn : xs.length ≤ 1000) :
    ∃ v h', Cal FT HK 38 [.agg [s, m, l], .sc (.int .i64 h)] h0 v h' ∧ ToB (outB xs h) h0 v h' := by
  obtain ⟨x, hx⟩ : ∃ x, xs[h / 4]? = some x := ⟨_, List.getElem?_eq_getElem (by omega)⟩
  obtain ⟨id, off, cap, rfl, hr⟩ := IsInts.at (IsSl.mono hs (mono_app (t := [.cells [s, m, l] true 0]))) hx
  have hgd := getD_at hx
  have hr2 : readN (h0 ++ [.cells [.slc id off xs.length cap, m, l] true 0]) id (off + ((h / 4 : Nat) : Int).toNat * 1) 1 = some [.int .i64 x] := by rw [Int.toNat_natCast]; exact hr
  have hbx : readN (h0 ++ [.cells [.slc id off xs.length cap, m, l] true 0]) h0.length (0 + 0) 1 = some [.slc id off xs.length cap] := rd_last rfl
  refine Cal.of (F := a38) hk rfl rfl ?_
  refine w_seq (w_ops ?_)
  refine op_ok rfl rfl rfl ?_
  refine op_ok rfl rfl rfl ?_
  refine w_end (keep_c rfl (keep_c rfl (keep_nil _))) (w_seqN (w_seq (w_seq (w_ops ?_))))
  refine op_ok rfl rfl rfl ?_
  refine op_eq rfl rfl rfl (y := .int .i64 ((h % 4 : Nat) : Int)) (by rw [← rem_nat]; rfl) ?_
  refine w_end (keep_c rfl (keep_c rfl (keep_c rfl (keep_nil _)))) (w_seqN (w_blk (w_seq (w_ops ?_))))
  refine op_test rfl rfl rfl (fun c1 => ?_) (fun c1 => ?_)
  ·
    have e1 : h % 4 = 1 := by have := eq_of_beq c1; omega
    refine op_ok rfl rfl rfl ?_
    refine w_end (keep_c rfl (keep_c rfl (keep_c rfl (keep_c rfl (keep_nil _))))) (w_seqN (w_condT rfl (w_seq (w_ops ?_))))
    refine op_ok rfl rfl rfl ?_
    refine op_ld rfl rfl hbx ?_
    refine op_ok rfl rfl rfl ?_
    refine op_eq rfl rfl rfl (y := .int .i64 ((h / 4 : Nat) : Int)) (by rw [← quo_nat, wrapI, wrap_in]; rfl; rw [show (4 : Int) = ((4 : Nat) : Int) from rfl, quo_nat]; omega) ?_
    refine op_idxA rfl rfl rfl ⟨by omega, by omega⟩ ?_
    refine op_ld rfl rfl hr2 ?_
    refine op_ok rfl rfl rfl ?_
    refine op_ok rfl rfl rfl ?_
    refine w_end (keep_c rfl (keep_nil _)) (w_seqN (w_ret ?_))
    refine ⟨.inr rfl, ⟨_, rfl⟩, ?_⟩
    show AV.sc (.bool (x == 1)) = _
    unfold outB
    rw [hgd, e1]
    simp
  have n1 : h % 4 ≠ 1 := fun he => by rw [he] at c1; simp at c1
  refine op_ok rfl rfl rfl ?_
  refine w_end (keep_c rfl (keep_c rfl (keep_c rfl (keep_c rfl (keep_nil _))))) (w_seqN (w_condF rfl (w_seq (w_ops ?_))))
  refine op_test rfl rfl rfl (fun c2 => ?_) (fun c2 => ?_)
  ·
    have e2 : h % 4 = 2 := by have := eq_of_beq c2; omega
    refine op_ok rfl rfl rfl ?_
    refine w_end (keep_c rfl (keep_c rfl (keep_c rfl (keep_c rfl (keep_nil _))))) (w_seqN (w_condT rfl (w_seq (w_ops ?_))))
    refine op_ok rfl rfl rfl ?_
    refine w_end (keep_c rfl (keep_nil _)) (w_seqN (w_ret ?_))
    refine ⟨.inr rfl, ⟨_, rfl⟩, ?_⟩
    show AV.sc (.bool true) = _
    simp [outB, e2]
  have n2 : h % 4 ≠ 2 := fun he => by rw [he] at c2; simp at c2
  refine op_ok rfl rfl rfl ?_
  refine w_end (keep_c rfl (keep_c rfl (keep_c rfl (keep_c rfl (keep_nil _))))) (w_seqN (w_condF rfl (w_seq (w_ops ?_))))
  refine op_test rfl rfl rfl (fun c3 => ?_) (fun c3 => ?_)
  ·
    have e3 : h % 4 = 3 := by have := eq_of_beq c3; omega
    refine op_ok rfl rfl rfl ?_
    refine w_end (keep_c rfl (keep_c rfl (keep_c rfl (keep_nil _)))) (w_seqN (w_condT rfl (w_seq (w_ops ?_))))
    refine op_ok rfl rfl rfl ?_
    refine op_ld rfl rfl hbx ?_
    refine op_ok rfl rfl rfl ?_
    refine op_eq rfl rfl rfl (y := .int .i64 ((h / 4 : Nat) : Int)) (by rw [← quo_nat, wrapI, wrap_in]; rfl; rw [show (4 : Int) = ((4 : Nat) : Int) from rfl, quo_nat]; omega) ?_
    refine op_idxA rfl rfl rfl ⟨by omega, by omega⟩ ?_
    refine op_ld rfl rfl hr2 ?_
    refine op_ok rfl rfl rfl ?_
    refine op_ok rfl rfl rfl ?_
    refine w_end (keep_c rfl (keep_nil _)) (w_seqN (w_ret ?_))
    refine ⟨.inr rfl, ⟨_, rfl⟩, ?_⟩
    show AV.sc (.bool (x == -1)) = _
    unfold outB
    rw [hgd, e3]
    simp
  have n3 : h % 4 ≠ 3 := fun he => by rw [he] at c3; simp at c3
  refine op_ok rfl rfl rfl ?_
  refine w_end (keep_c rfl (keep_c rfl (keep_c rfl (keep_nil _)))) (w_seqN (w_condF rfl (w_skip (w_blkN (w_seqN (w_seq (w_ops ?_)))))))
  refine op_ok rfl rfl rfl ?_
  refine w_end (keep_c rfl (keep_nil _)) (w_seqN (w_ret ?_))
  refine ⟨.inr rfl, ⟨_, rfl⟩, ?_⟩
  show AV.sc (.bool false) = _
  simp [outB, n1, n2, n3]

end Go.Proofs.YtleoalcbgpjieaaDoor


/- The reference's Face: the orbit of a half-edge. -/
namespace Go.Proofs.YtleoalcbgpjieaaDoor
open Go.Ab
set_option linter.unusedVariables false
set_option maxRecDepth 20000
set_option maxHeartbeats 2000000
variable {HK : FuncId → Option Hook}

/-- The mates are half-edges, four to a crossing. -/
structure Mates (ms : List Int) : Prop where
  four : ms.length % 4 = 0
  len : ms.length ≤ 1000
  get : ∀ i, i < ms.length → ∃ m : Nat, ms[i]? = some (m : Int) ∧ m < ms.length

/-- The next half-edge along the face. -/
def phi (ms : List Int) (h : Nat) : Nat := turnN (ms.getD h 0).toNat 3

theorem turn_lt {n h k : Nat} (h4 : n % 4 = 0) (hh : h < n) : turnN h k < n := by unfold turnN; omega

theorem Mates.phi_lt {ms : List Int} (hm : Mates ms) {h : Nat} (hh : h < ms.length) : phi ms h < ms.length := by
  obtain ⟨m, h1, h2⟩ := hm.get h hh
  unfold phi
  rw [getD_at h1]
  exact turn_lt hm.four (by simpa using h2)

def it (f : Nat → Nat) : Nat → Nat → Nat
  | 0, h => h
  | n + 1, h => f (it f n h)

theorem Mates.it_lt {ms : List Int} (hm : Mates ms) {h : Nat} (hh : h < ms.length) : ∀ n, it (phi ms) n h < ms.length
  | 0 => hh
  | n + 1 => hm.phi_lt (hm.it_lt hh n)

/-- The first k + 1 of the orbit. -/
def orb (f : Nat → Nat) (h k : Nat) : List Int := (List.range (k + 1)).map fun j => ((it f j h : Nat) : Int)
theorem orb_succ (f : Nat → Nat) (h k : Nat) : orb f h (k + 1) = orb f h k ++ [((it f (k + 1) h : Nat) : Int)] := by
  unfold orb
  rw [List.range_succ, List.map_append]; rfl
theorem orb_len (f : Nat → Nat) (h k : Nat) : (orb f h k).length = k + 1 := by simp [orb]

/-- The orbit as Face takes it. -/
def FaceTo (ms : List Int) (h k : Nat) : Prop := (∀ j, 1 ≤ j → j ≤ k → it (phi ms) j h ≠ h) ∧ k ≤ ms.length ∧ (it (phi ms) (k + 1) h = h ∨ k = ms.length)

def I55 (h0 : Heap) (s : SV) (ms : List Int) (h : Nat) (E : Env) (hp : Heap) : Prop := ∃ (k : Nat) (s' : SV), k ≤ ms.length ∧ (∀ j, 1 ≤ j → j ≤ k → it (phi ms) j h ≠ h) ∧
  Ext h0 hp ∧ Own h0 hp s' ((orb (phi ms) h k).map (.int .i64)) ∧
  E = [(0, some (.sc s)), (1, some (.sc (.int .i64 h))), (5, some (.sc s')), (6, some (.sc (.int .i64 ((it (phi ms) (k + 1) h : Nat) : Int))))]

def μ55 (n : Nat) (E : Env) (hp : Heap) : Nat := match E.get 5 with
  | some (.sc (.slc _ _ k _)) => n + 1 - k
  | _ => n + 2

def R55 (h0 : Heap) (s : SV) (ms : List Int) (h : Nat) (ex : Ex) (E : Env) (hp : Heap) : Prop := ex = .ex 0 ∧ ∃ (k : Nat) (s' : SV), FaceTo ms h k ∧ Ext h0 hp ∧ Own h0 hp s' ((orb (phi ms) h k).map (.int .i64)) ∧ E.get 5 = some (.sc s')

theorem own_slc {h0 h : Heap} {s : SV} {f : Nat → Nat} {i k : Nat} (ho : Own h0 h s ((orb f i k).map (.int .i64))) : ∃ id cap, s = .slc id 0 (k + 1) cap := by
  rcases ho with ⟨rfl, h1⟩ | ⟨id, cap, cs, rfl, _⟩
  · have := congrArg List.length h1
    simp [orb_len] at this
  · exact ⟨id, cap, by simp [orb_len]⟩

end Go.Proofs.YtleoalcbgpjieaaDoor


/- The reference's Faces: inner loop. -/
namespace Go.Proofs.YtleoalcbgpjieaaDoor
open Go.Ab
set_option linter.unusedVariables false
set_option maxRecDepth 20000
set_option maxHeartbeats 2000000
variable {HK : FuncId → Option Hook}

/-- Is h at most each of the list? -/
def leB (h : Int) (ys : List Int) : Bool := ys.all fun y => decide (h ≤ y)

theorem leB_snoc (h : Int) (ys : List Int) (y : Int) : leB h (ys ++ [y]) = (leB h ys && decide (h ≤ y)) := by simp [leB]

def I33i (hp : Heap) (s o f : SV) (h : Int) (ys : List Int) (E : Env) (hp' : Heap) : Prop := hp' = hp ∧ ∃ i : Nat, i ≤ ys.length ∧
  E = [(0, some (.sc s)), (3, some (.sc o)), (4, some (.sc (.int .i64 h))), (5, some (.sc f)), (6, some (.sc (.bool (leB h (ys.take i))))), (7, some (.sc (.int .i64 i)))]

def μ33i (n : Nat) (E : Env) (_ : Heap) : Nat := match E.get 7 with
  | some (.sc (.int _ i)) => n - i.toNat
  | _ => 0

def R33i (hp : Heap) (s o f : SV) (h : Int) (ys : List Int) (ex : Ex) (E : Env) (hp' : Heap) : Prop := hp' = hp ∧ ex = .ex 2 ∧ ∃ (i c : SV),
  E = [(0, some (.sc s)), (3, some (.sc o)), (4, some (.sc (.int .i64 h))), (5, some (.sc f)), (6, some (.sc (.bool (leB h ys)))), (7, some (.sc i)), (20, some (.sc c))]

end Go.Proofs.YtleoalcbgpjieaaDoor


/- Orbits of a one to one map: plain. -/
namespace Go.Proofs.YtleoalcbgpjieaaDoor
open Go.Ab
set_option linter.unusedVariables false

theorem it_add (f : Nat → Nat) (h : Nat) : ∀ a b, it f (a + b) h = it f a (it f b h)
  | 0, b => by simp [it]
  | a + 1, b => by rw [show a + 1 + b = (a + b) + 1 by omega]; simp [it, it_add f h a b]

theorem it_all {f : Nat → Nat} {h k : Nat} (hk : it f (k + 1) h = h) : ∀ j, ∃ i, i ≤ k ∧ it f j h = it f i h := by
  intro j
  induction j using Nat.strongRecOn with
  | _ j ih =>
    by_cases hj : j ≤ k
    · exact ⟨j, hj, rfl⟩
    · obtain ⟨i, h1, h2⟩ := ih (j - (k + 1)) (by omega)
      refine ⟨i, h1, ?_⟩
      rw [show j = (j - (k + 1)) + (k + 1) by omega, it_add, hk, h2]

/-- One to one below n. -/
def Inj (n : Nat) (f : Nat → Nat) : Prop := ∀ a b, a < n → b < n → f a = f b → a = b

theorem it_cancel {n : Nat} {f : Nat → Nat} (hi : Inj n f) (hl : ∀ h, h < n → f h < n) {h : Nat} (hh : h < n) : ∀ a b, it f a h = it f (a + b) h → it f b h = h
  | 0, b, he => by simpa [it] using he.symm
  | a + 1, b, he => by
    have il : ∀ m, it f m h < n := fun m => by
      induction m with
      | zero => exact hh
      | succ m ih => exact hl _ ih
    refine it_cancel hi hl hh a b (hi _ _ (il a) (il _) ?_)
    rw [show a + 1 + b = (a + b) + 1 by omega] at he
    exact he

/-- It comes back within n steps. -/
theorem it_back {n : Nat} {f : Nat → Nat} (hi : Inj n f) (hl : ∀ h, h < n → f h < n) {h : Nat} (hh : h < n) : ∃ j, 1 ≤ j ∧ j ≤ n ∧ it f j h = h := by
  refine Classical.byContradiction fun hc => ?_
  have il : ∀ m, it f m h < n := fun m => by
    induction m with
    | zero => exact hh
    | succ m ih => exact hl _ ih
  have hnd : ((List.range (n + 1)).map fun j => it f j h).Nodup := by
    unfold List.Nodup
    rw [List.pairwise_map]
    refine List.Pairwise.imp_of_mem (R := fun a b => a < b) ?_ List.pairwise_lt_range
    intro a b ha hb hab he
    simp only [List.mem_range] at ha hb
    refine hc ⟨b - a, by omega, by omega, it_cancel hi hl hh a (b - a) ?_⟩
    rw [show a + (b - a) = b by omega]
    exact he
  have := fit_len (T := List.range n) hnd (fun y hy => by
    simp only [List.mem_map] at hy
    obtain ⟨j, _, rfl⟩ := hy
    simpa using il j)
  simp at this
  omega

/-- The mates of mates. -/
def Inv (ms : List Int) : Prop := ∀ (i m : Nat), ms[i]? = some (m : Int) → ms[m]? = some (i : Int)

theorem turn_inj {x y k : Nat} (hk : k < 4) (he : turnN x k = turnN y k) : x = y := by unfold turnN at he; omega

theorem phi_inj {ms : List Int} (hm : Mates ms) (hv : Inv ms) : Inj ms.length (phi ms) := by
  intro a b ha hb he
  obtain ⟨m, h1, h2⟩ := hm.get a ha
  obtain ⟨m', h3, h4⟩ := hm.get b hb
  unfold phi at he
  rw [getD_at h1, getD_at h3] at he
  have h5 := turn_inj (by omega) he
  simp at h5
  subst h5
  have h6 := hv _ _ h1
  have h7 := hv _ _ h3
  rw [h6] at h7
  have h8 := Option.some.inj h7
  omega

/-- Face takes the whole orbit. -/
theorem FaceTo.back {ms : List Int} (hm : Mates ms) (hv : Inv ms) {h k : Nat} (hh : h < ms.length) (hf : FaceTo ms h k) : it (phi ms) (k + 1) h = h := by
  rcases hf.2.2 with hf2 | hf2
  · exact hf2
  · obtain ⟨j, h1, h2, h3⟩ := it_back (phi_inj hm hv) (fun h hh => hm.phi_lt hh) hh
    exact absurd h3 (hf.1 j h1 (by omega))

/-- The least of its orbit. -/
def Least (f : Nat → Nat) (h : Nat) : Prop := ∀ j, h ≤ it f j h

theorem least_iff {f : Nat → Nat} {h k : Nat} (hk : it f (k + 1) h = h) : (orb f h k).all (fun y => decide ((h : Int) ≤ y)) = true ↔ Least f h := by
  simp only [List.all_eq_true, orb, List.mem_map, List.mem_range, decide_eq_true_eq]
  constructor
  · intro ha j
    obtain ⟨i, h1, h2⟩ := it_all hk j
    have := ha _ ⟨i, by omega, rfl⟩
    rw [h2]; omega
  · rintro hl y ⟨j, hj, rfl⟩
    have := hl j
    omega

end Go.Proofs.YtleoalcbgpjieaaDoor


/- The reference's Faces. -/
namespace Go.Proofs.YtleoalcbgpjieaaDoor
open Go.Ab
set_option linter.unusedVariables false
set_option maxRecDepth 20000
set_option maxHeartbeats 2000000
variable {HK : FuncId → Option Hook}

/-- A slice in a block that is not o's. -/
def Apart (hp : Heap) (o f : SV) (vs : List SV) : Prop := ∃ id cap cs, f = .slc id 0 vs.length cap ∧ hp[id]? = some (.cells cs true 1) ∧ cs.take vs.length = vs ∧ Room vs.length cs cap ∧ ∀ a n c, o ≠ .slc id a n c

/-- One face: the orbit of its least half-edge. -/
def FaceAt (ms : List Int) (hp : Heap) (o f : SV) (h : Nat) : Prop := h < ms.length ∧ ∃ k, it (phi ms) (k + 1) h = h ∧ Apart hp o f ((orb (phi ms) h k).map (.int .i64))

open Classical in
/-- The least half-edges of the faces below n. -/
noncomputable def leasts (ms : List Int) (n : Nat) : List Nat := (List.range n).filter fun h => decide (Least (phi ms) h)

theorem leasts_succ (ms : List Int) (n : Nat) : leasts ms (n + 1) = leasts ms n ++ (open Classical in if Least (phi ms) n then [n] else []) := by
  unfold leasts
  rw [List.range_succ, List.filter_append]
  congr 1
  by_cases h : Least (phi ms) n <;> simp [h]

def I33o (h0 : Heap) (s : SV) (ms : List Int) (E : Env) (hp : Heap) : Prop := ∃ (i : Nat) (o : SV) (fs : List SV), i ≤ ms.length ∧ Ext h0 hp ∧ Own h0 hp o fs ∧ F2 (FaceAt ms hp o) fs (leasts ms i) ∧
  E = [(0, some (.sc s)), (3, some (.sc o)), (4, some (.sc (.int .i64 i)))]

def μ33o (n : Nat) (E : Env) (_ : Heap) : Nat := match E.get 4 with
  | some (.sc (.int _ i)) => n - i.toNat
  | _ => 0

def R33o (h0 : Heap) (ms : List Int) (ex : Ex) (E : Env) (hp : Heap) : Prop := ex = .ex 0 ∧ ∃ (o : SV) (fs : List SV), Ext h0 hp ∧ Own h0 hp o fs ∧ F2 (FaceAt ms hp o) fs (leasts ms ms.length) ∧ E.get 3 = some (.sc o)

theorem f2_mono {α β : Type} {R S : α → β → Prop} (hRS : ∀ a b, R a b → S a b) : ∀ {l : List α} {m : List β}, F2 R l m → F2 S l m
  | _, _, .nil => .nil
  | _, _, .cons h t => .cons (hRS _ _ h) (f2_mono hRS t)

theorem f2_snoc {α β : Type} {R : α → β → Prop} {a : α} {b : β} (hab : R a b) : ∀ {l : List α} {m : List β}, F2 R l m → F2 R (l ++ [a]) (m ++ [b])
  | _, _, .nil => .cons hab .nil
  | _, _, .cons h t => .cons h (f2_snoc hab t)

theorem f2_length {α β : Type} {R : α → β → Prop} : ∀ {l : List α} {m : List β}, F2 R l m → l.length = m.length
  | _, _, .nil => rfl
  | _, _, .cons h t => by simp [f2_length t]

theorem leasts_le (ms : List Int) (n : Nat) : (leasts ms n).length ≤ n := by
  unfold leasts
  exact Nat.le_trans (List.length_filter_le _ _) (by simp)

theorem Own.apart {h0 hp : Heap} {f o : SV} {f0 : Nat → Nat} {h k : Nat} (ho : Own h0 hp f ((orb f0 h k).map (.int .i64))) (hne : ∀ id, h0.length ≤ id → ∀ a n c, o ≠ .slc id a n c) : Apart hp o f ((orb f0 h k).map (.int .i64)) := by
  rcases ho with ⟨rfl, h1⟩ | ⟨id, cap, cs, rfl, h1, h2, h3, h4⟩
  · have := congrArg List.length h1
    simp [orb_len] at this
  · exact ⟨id, cap, cs, rfl, h2, h3, h4, hne id h1⟩

theorem Own.below {h0 hp : Heap} {o : SV} {vs : List SV} (ho : Own h0 hp o vs) : ∀ id, hp.length ≤ id → ∀ a n c, o ≠ .slc id a n c := by
  intro id hid a n c he
  rcases ho with ⟨rfl, h1⟩ | ⟨id2, cap, cs, rfl, h1, h2, h3, h4⟩
  · cases he
  · injection he with e1
    have := (List.getElem?_eq_some_iff.1 h2).1
    omega

theorem Own.ext {h0 hp hp' : Heap} {o : SV} {vs : List SV} (ho : Own h0 hp o vs) (he : Ext hp hp') : Own h0 hp' o vs := by
  rcases ho with h | ⟨id2, cap, cs, h0, h1, h2, h3, h4⟩
  · exact .inl h
  · exact .inr ⟨id2, cap, cs, h0, h1, he.get _ _ h2, h3, h4⟩

theorem FaceAt.ext {ms : List Int} {hp hp' : Heap} {o f : SV} {h : Nat} (hf : FaceAt ms hp o f h) (he : Ext hp hp') : FaceAt ms hp' o f h := by
  obtain ⟨h1, k, h2, id, cap, cs, h3, h4, h5⟩ := hf
  exact ⟨h1, k, h2, id, cap, cs, h3, he.get _ _ h4, h5⟩

theorem FaceAt.push {ms : List Int} {hp hp' : Heap} {o o' f : SV} {h : Nat} (hf : FaceAt ms hp o f h) (hfr : ∀ (j : Nat) (b : Blk), hp[j]? = some b → (∀ a n c, o ≠ .slc j a n c) → hp'[j]? = some b ∧ ∀ a n c, o' ≠ .slc j a n c) : FaceAt ms hp' o' f h := by
  obtain ⟨h1, k, h2, id, cap, cs, h3, h4, h5, h6, h7⟩ := hf
  obtain ⟨h8, h9⟩ := hfr id _ h4 h7
  exact ⟨h1, k, h2, id, cap, cs, h3, h8, h5, h6, h9⟩

end Go.Proofs.YtleoalcbgpjieaaDoor

