/- The reference's Label: the innermost loop. -/
import Derived.Test.YtleoalcbgpjieaaDoorFaces2
import Derived.Test.YtleoalcbgpjieaaDoorAb23
namespace Go.Proofs.YtleoalcbgpjieaaDoor
open Go.Ab
set_option linter.unusedVariables false
set_option maxRecDepth 20000
set_option maxHeartbeats 2000000
variable {HK : FuncId → Option Hook}

/-- The mate of a half-edge. -/
def mateN (ms : List Int) (h : Nat) : Nat := (ms.getD h 0).toNat

/-- Both ends of an edge take the least of their two labels. -/
def labStep (ms : List Int) (ls : List Int) (h : Nat) : List Int :=
  let low := min (ls.getD (h / 4) 0) (ls.getD (mateN ms h / 4) 0)
  (ls.set (h / 4) low).set (mateN ms h / 4) low

def labPass (ms : List Int) (ls : List Int) (n : Nat) : List Int := (List.range n).foldl (labStep ms) ls
theorem labPass_succ (ms ls : List Int) (n : Nat) : labPass ms ls (n + 1) = labStep ms (labPass ms ls n) n := by
  unfold labPass
  rw [List.range_succ, List.foldl_append]; rfl
theorem labStep_len (ms ls : List Int) (h : Nat) : (labStep ms ls h).length = ls.length := by simp [labStep]
theorem labPass_len (ms ls : List Int) : ∀ n, (labPass ms ls n).length = ls.length
  | 0 => rfl
  | n + 1 => by rw [labPass_succ, labStep_len, labPass_len ms ls n]

def LB (h0 : Heap) (ls : List Int) : Heap := h0 ++ [.cells (ls.map (.int .i64)) true 1]

theorem LB_rd {h0 : Heap} {ls : List Int} {k : Nat} (hk : k < ls.length) : readN (LB h0 ls) h0.length (0 + ((k : Nat) : Int).toNat * 1) 1 = some [.int .i64 (ls.getD k 0)] := by
  rw [Int.toNat_natCast, Nat.mul_one, Nat.zero_add]
  refine rd_last ?_
  simp [hk, List.getD]
theorem LB_wr {h0 : Heap} {ls : List Int} {k : Nat} {x : Int} (hk : k < ls.length) : writeN (LB h0 ls) h0.length (0 + ((k : Nat) : Int).toNat * 1) [.int .i64 x] = some (LB h0 (ls.set k x)) := by
  rw [Int.toNat_natCast, Nat.mul_one, Nat.zero_add]
  unfold LB
  rw [wr_last (by simpa using hk), List.map_set]

def I32i (h0 : Heap) (s : SV) (p : Int) (ms ls : List Int) (E : Env) (hp : Heap) : Prop := ∃ i : Nat, i ≤ ms.length ∧ hp = LB h0 (labPass ms ls i) ∧
  E = [(0, some (.sc s)), (3, some (.sc (.int .i64 ls.length))), (4, some (.sc (.slc h0.length 0 ls.length (some ls.length)))), (6, some (.sc (.int .i64 p))), (7, some (.sc (.int .i64 i)))]

def μ32i (n : Nat) (E : Env) (_ : Heap) : Nat := match E.get 7 with
  | some (.sc (.int _ i)) => n - i.toNat
  | _ => 0

def R32i (h0 : Heap) (s : SV) (p : Int) (ms ls : List Int) (ex : Ex) (E : Env) (hp : Heap) : Prop := hp = LB h0 (labPass ms ls ms.length) ∧ ex = .ex 4 ∧ ∃ t,
  E = (0, some (.sc s)) :: (3, some (.sc (.int .i64 ls.length))) :: (4, some (.sc (.slc h0.length 0 ls.length (some ls.length)))) :: (6, some (.sc (.int .i64 p))) :: t

/-! ### The first labels -/
def initL (n i : Nat) : List Int := (List.range n).map fun c => if c < i then (c : Int) else 0
theorem initL_len (n i : Nat) : (initL n i).length = n := by simp [initL]
theorem initL_succ {n i : Nat} (hi : i < n) : (initL n i).set i (i : Int) = initL n (i + 1) := by
  refine List.ext_getElem? fun k => ?_
  unfold initL
  rw [List.getElem?_set]
  split
  · rename_i he
    subst he
    simp [hi]
  · rename_i he
    by_cases hk : k < n
    · simp only [List.getElem?_map, List.getElem?_range hk, Option.map_some]
      congr 1
      split <;> split <;> first | rfl | omega
    · simp [hk]
theorem initL_zero (n : Nat) : initL n 0 = (List.range n).map fun _ => (0 : Int) := by simp [initL]

theorem rep_ints (n : Nat) : rep [SV.int .i64 0] n = (initL n 0).map (.int .i64) := by
  refine List.ext_getElem? fun k => ?_
  by_cases hk : k < n
  · rw [rep1_get hk]; simp [initL, hk]
  · rw [List.getElem?_eq_none (by rw [rep_length]; simp; omega), List.getElem?_eq_none (by simp [initL]; omega)]

def I32a (h0 : Heap) (s : SV) (n : Nat) (E : Env) (hp : Heap) : Prop := ∃ i : Nat, i ≤ n ∧ hp = LB h0 (initL n i) ∧
  E = [(0, some (.sc s)), (3, some (.sc (.int .i64 n))), (4, some (.sc (.slc h0.length 0 n (some n)))), (5, some (.sc (.int .i64 i)))]
def μ32a (n : Nat) (E : Env) (_ : Heap) : Nat := match E.get 5 with
  | some (.sc (.int _ i)) => n - i.toNat
  | _ => 0
def R32a (h0 : Heap) (s : SV) (n : Nat) (ex : Ex) (E : Env) (hp : Heap) : Prop := hp = LB h0 (initL n n) ∧ ex = .ex 0 ∧ ∃ t,
  E = (0, some (.sc s)) :: (3, some (.sc (.int .i64 n))) :: (4, some (.sc (.slc h0.length 0 n (some n)))) :: t

/-! ### The passes -/
def labIter (ms : List Int) (n : Nat) : Nat → List Int
  | 0 => initL n n
  | p + 1 => labPass ms (labIter ms n p) ms.length
theorem labIter_len (ms : List Int) (n : Nat) : ∀ p, (labIter ms n p).length = n
  | 0 => initL_len n n
  | p + 1 => by unfold labIter; rw [labPass_len, labIter_len ms n p]

def I32p (h0 : Heap) (s : SV) (ms : List Int) (n : Nat) (E : Env) (hp : Heap) : Prop := ∃ p : Nat, p ≤ n ∧ hp = LB h0 (labIter ms n p) ∧
  E = [(0, some (.sc s)), (3, some (.sc (.int .i64 n))), (4, some (.sc (.slc h0.length 0 n (some n)))), (6, some (.sc (.int .i64 p)))]
def μ32p (n : Nat) (E : Env) (_ : Heap) : Nat := match E.get 6 with
  | some (.sc (.int _ i)) => n - i.toNat
  | _ => 0
def R32p (h0 : Heap) (s : SV) (ms : List Int) (n : Nat) (ex : Ex) (E : Env) (hp : Heap) : Prop := hp = LB h0 (labIter ms n n) ∧ ex = .ex 2 ∧ ∃ t,
  E = (0, some (.sc s)) :: (3, some (.sc (.int .i64 n))) :: (4, some (.sc (.slc h0.length 0 n (some n)))) :: t

end Go.Proofs.YtleoalcbgpjieaaDoor


/- Labels: plain. -/
namespace Go.Proofs.YtleoalcbgpjieaaDoor
open Go.Ab
set_option linter.unusedVariables false

/-- Two crossings share an edge. -/
def Step (ms : List Int) (c d : Nat) : Prop := ∃ h, h < ms.length ∧ h / 4 = c ∧ mateN ms h / 4 = d
def Reach (ms : List Int) : Nat → Nat → Nat → Prop
  | 0, c, d => c = d
  | p + 1, c, d => ∃ e, Step ms c e ∧ Reach ms p e d

theorem labStep_get {ms ls : List Int} {h : Nat} (ha : h / 4 < ls.length) (hb : mateN ms h / 4 < ls.length) (k : Nat) :
    (labStep ms ls h).getD k 0 = if k = h / 4 ∨ k = mateN ms h / 4 then min (ls.getD (h / 4) 0) (ls.getD (mateN ms h / 4) 0) else ls.getD k 0 := by
  unfold labStep
  simp only [List.getD_eq_getElem?_getD]
  rw [List.getElem?_set, List.getElem?_set, List.length_set]
  by_cases h1 : mateN ms h / 4 = k
  · subst h1
    rw [if_pos rfl, if_pos hb, if_pos (.inr rfl)]; rfl
  · rw [if_neg h1]
    by_cases h2 : h / 4 = k
    · subst h2
      rw [if_pos rfl, if_pos ha, if_pos (.inl rfl)]; rfl
    · rw [if_neg h2, if_neg (by omega)]

/-- Half-edges and crossings fit. -/
structure Fits (ms : List Int) (n : Nat) : Prop where
  n4 : n * 4 = ms.length
  mate : ∀ h, h < ms.length → mateN ms h < ms.length

theorem labStep_le {ms ls : List Int} {n h : Nat} (hf : Fits ms n) (hl : ls.length = n) (hh : h < ms.length) (k : Nat) : (labStep ms ls h).getD k 0 ≤ ls.getD k 0 := by
  have h1 := hf.n4
  have h2 := hf.mate h hh
  rw [labStep_get (by omega) (by omega)]
  split
  · rename_i he
    rcases he with rfl | rfl <;> omega
  · exact Int.le_refl _

theorem labPass_le {ms ls : List Int} {n : Nat} (hf : Fits ms n) (hl : ls.length = n) : ∀ m, m ≤ ms.length → ∀ k, (labPass ms ls m).getD k 0 ≤ ls.getD k 0
  | 0, _, k => Int.le_refl _
  | m + 1, hm, k => by
    rw [labPass_succ]
    exact Int.le_trans (labStep_le hf (by rw [labPass_len, hl]) (by omega) k) (labPass_le hf hl m (by omega) k)

theorem labPass_edge {ms ls : List Int} {n : Nat} (hf : Fits ms n) (hl : ls.length = n) : ∀ m, m ≤ ms.length → ∀ h, h < m → (labPass ms ls m).getD (h / 4) 0 ≤ ls.getD (mateN ms h / 4) 0
  | 0, _, h, hh => by omega
  | m + 1, hm, h, hh => by
    rw [labPass_succ]
    have hl2 : (labPass ms ls m).length = n := by rw [labPass_len, hl]
    rcases Nat.lt_or_ge h m with hlt | hge
    · exact Int.le_trans (labStep_le hf hl2 (by omega) _) (labPass_edge hf hl m (by omega) h hlt)
    · have : h = m := by omega
      subst this
      have h1 := hf.n4
      have h2 := hf.mate h (by omega)
      rw [labStep_get (by omega) (by omega), if_pos (.inl rfl)]
      have := labPass_le hf hl h (by omega) (mateN ms h / 4)
      omega

/-- After p passes a label is at most each crossing within p steps. -/
theorem labIter_reach {ms : List Int} {n : Nat} (hf : Fits ms n) : ∀ (p c d : Nat), c < n → Reach ms p c d → (labIter ms n p).getD c 0 ≤ d
  | 0, c, d, hc, hr => by
    cases hr
    unfold labIter initL
    simp [hc, List.getD]
  | p + 1, c, d, hc, ⟨e, ⟨h, h1, h2, h3⟩, hr⟩ => by
    subst h2 h3
    have h4 := hf.n4
    have h5 := hf.mate h h1
    unfold labIter
    exact Int.le_trans (labPass_edge hf (labIter_len ms n p) ms.length (Nat.le_refl _) h h1) (labIter_reach hf p _ d (by omega) hr)

/-- Each label is a crossing that is reached. -/
def Joined (ms : List Int) (n : Nat) (ls : List Int) : Prop := ∀ c, c < n → ∃ e q : Nat, ls.getD c 0 = (e : Int) ∧ e < n ∧ Reach ms q c e

theorem Mates.fits {ms : List Int} (hm : Mates ms) : Fits ms (ms.length / 4) := by
  refine ⟨by have := hm.four; omega, fun h hh => ?_⟩
  obtain ⟨m, h1, h2⟩ := hm.get h hh
  unfold mateN
  rw [getD_at h1]; simpa using h2

theorem mate_mate {ms : List Int} (hm : Mates ms) (hv : Inv ms) {h : Nat} (hh : h < ms.length) : mateN ms (mateN ms h) = h := by
  obtain ⟨m, h1, h2⟩ := hm.get h hh
  have h3 := hv _ _ h1
  have h4 : mateN ms h = m := by unfold mateN; rw [getD_at h1]; simp
  rw [h4]
  unfold mateN
  rw [getD_at h3]; simp

theorem Step.symm {ms : List Int} (hm : Mates ms) (hv : Inv ms) {c d : Nat} (hs : Step ms c d) : Step ms d c := by
  obtain ⟨h, h1, h2, h3⟩ := hs
  exact ⟨mateN ms h, hm.fits.mate h h1, h3, by rw [mate_mate hm hv h1, h2]⟩

theorem joined_step {ms ls : List Int} {n h : Nat} (hm : Mates ms) (hv : Inv ms) (hf : Fits ms n) (hl : ls.length = n) (hh : h < ms.length) (hj : Joined ms n ls) : Joined ms n (labStep ms ls h) := by
  intro c hc
  have h4 := hf.n4
  have h5 := hf.mate h hh
  rw [labStep_get (by omega) (by omega)]
  have hst : Step ms (h / 4) (mateN ms h / 4) := ⟨h, hh, rfl, rfl⟩
  split
  · obtain ⟨e1, q1, a1, a2, a3⟩ := hj (h / 4) (by omega)
    obtain ⟨e2, q2, b1, b2, b3⟩ := hj (mateN ms h / 4) (by omega)
    rw [a1, b1]
    by_cases hmin : e1 ≤ e2
    · rename_i hc2
      rw [show min (e1 : Int) (e2 : Int) = (e1 : Int) by omega]
      rcases hc2 with rfl | rfl
      · exact ⟨e1, q1, rfl, a2, a3⟩
      · exact ⟨e1, q1 + 1, rfl, a2, _, Step.symm hm hv hst, a3⟩
    · rename_i hc2
      rw [show min (e1 : Int) (e2 : Int) = (e2 : Int) by omega]
      rcases hc2 with rfl | rfl
      · exact ⟨e2, q2 + 1, rfl, b2, _, hst, b3⟩
      · exact ⟨e2, q2, rfl, b2, b3⟩
  · exact hj c hc

theorem joined_pass {ms ls : List Int} {n : Nat} (hm : Mates ms) (hv : Inv ms) (hf : Fits ms n) (hl : ls.length = n) (hj : Joined ms n ls) : ∀ m, m ≤ ms.length → Joined ms n (labPass ms ls m)
  | 0, _ => hj
  | m + 1, h => by
    rw [labPass_succ]
    exact joined_step hm hv hf (by rw [labPass_len, hl]) (by omega) (joined_pass hm hv hf hl hj m (by omega))

theorem joined_iter {ms : List Int} {n : Nat} (hm : Mates ms) (hv : Inv ms) (hf : Fits ms n) : ∀ p, Joined ms n (labIter ms n p)
  | 0 => fun c hc => ⟨c, 0, by unfold labIter initL; simp [hc, List.getD], hc, rfl⟩
  | p + 1 => joined_pass hm hv hf (labIter_len ms n p) (joined_iter hm hv hf p) _ (Nat.le_refl _)

theorem Reach.trans {ms : List Int} : ∀ {a b c e d : Nat}, Reach ms a c e → Reach ms b e d → Reach ms (a + b) c d
  | 0, b, c, e, d, h1, h2 => by cases h1; simpa using h2
  | a + 1, b, c, e, d, ⟨x, h1, h2⟩, h3 => by
    rw [show a + 1 + b = (a + b) + 1 by omega]
    exact ⟨x, h1, Reach.trans h2 h3⟩

theorem Reach.walk {ms : List Int} : ∀ {q c d : Nat}, Reach ms q c d → ∃ v : Nat → Nat, v 0 = c ∧ v q = d ∧ ∀ i j, i + j ≤ q → Reach ms j (v i) (v (i + j))
  | 0, c, d, h => by
    cases h
    refine ⟨fun _ => c, rfl, rfl, fun i j hij => ?_⟩
    have : j = 0 := by omega
    subst this
    rfl
  | q + 1, c, d, ⟨e, h1, h2⟩ => by
    obtain ⟨v, v0, vq, hv⟩ := Reach.walk h2
    refine ⟨fun i => match i with | 0 => c | i + 1 => v i, rfl, vq, fun i j hij => ?_⟩
    cases i with
    | zero =>
      cases j with
      | zero => rfl
      | succ j =>
        rw [show 0 + (j + 1) = j + 1 by omega]
        refine ⟨e, h1, ?_⟩
        have := hv 0 j (by omega)
        rw [v0, Nat.zero_add] at this
        exact this
    | succ i =>
      rw [show i + 1 + j = (i + j) + 1 by omega]
      exact hv i j (by omega)

theorem step_lt {ms : List Int} {n c d : Nat} (hf : Fits ms n) (hs : Step ms c d) : c < n ∧ d < n := by
  obtain ⟨h, h1, rfl, rfl⟩ := hs
  have := hf.n4
  have := hf.mate h h1
  omega

theorem reach_lt {ms : List Int} {n : Nat} (hf : Fits ms n) : ∀ {q c d : Nat}, c < n → Reach ms q c d → d < n
  | 0, c, d, hc, h => by cases h; exact hc
  | q + 1, c, d, hc, ⟨e, h1, h2⟩ => reach_lt hf (step_lt hf h1).2 h2

/-- What is reached is reached in fewer than n steps. -/
theorem reach_short {ms : List Int} {n : Nat} (hf : Fits ms n) {c d : Nat} (hc : c < n) : ∀ q, Reach ms q c d → ∃ p, p < n ∧ Reach ms p c d := by
  intro q
  induction q using Nat.strongRecOn with
  | _ q ih =>
    intro hr
    by_cases hq : q < n
    · exact ⟨q, hq, hr⟩
    · obtain ⟨v, v0, vq, hv⟩ := hr.walk
      have hvn : ∀ i, i ≤ q → v i < n := fun i hi => by
        have := hv 0 i (by omega)
        rw [v0, Nat.zero_add] at this
        exact reach_lt hf hc this
      have hrep : ∃ i j, i < j ∧ j ≤ q ∧ v i = v j := by
        refine Classical.byContradiction fun hno => ?_
        have hnd : ((List.range (q + 1)).map v).Nodup := by
          unfold List.Nodup
          rw [List.pairwise_map]
          refine List.Pairwise.imp_of_mem (R := fun a b => a < b) ?_ List.pairwise_lt_range
          intro a b ha hb hab he
          simp only [List.mem_range] at ha hb
          exact hno ⟨a, b, hab, by omega, he⟩
        have := fit_len (T := List.range n) hnd (fun y hy => by
          simp only [List.mem_map, List.mem_range] at hy
          obtain ⟨j, hj, rfl⟩ := hy
          simpa using hvn j (by omega))
        simp at this
        omega
      obtain ⟨i, j, hij, hj, he⟩ := hrep
      have h1 := hv 0 i (by omega)
      have h2 := hv j (q - j) (by omega)
      rw [v0, Nat.zero_add, he] at h1
      rw [show j + (q - j) = q by omega, vq] at h2
      exact ih (i + (q - j)) (by omega) (h1.trans h2)

/-- The label: the least crossing that is reached. -/
theorem label_spec {ms : List Int} {n : Nat} (hm : Mates ms) (hv : Inv ms) (hf : Fits ms n) {c : Nat} (hc : c < n) :
    ∃ e : Nat, (labIter ms n n).getD c 0 = (e : Int) ∧ e < n ∧ (∃ q, Reach ms q c e) ∧ ∀ d q, Reach ms q c d → e ≤ d := by
  obtain ⟨e, q, h1, h2, h3⟩ := joined_iter hm hv hf n c hc
  refine ⟨e, h1, h2, ⟨q, h3⟩, fun d q hr => ?_⟩
  obtain ⟨p, hp, hr2⟩ := reach_short hf hc q hr
  have hmono : ∀ a b, (labIter ms n (a + b)).getD c 0 ≤ (labIter ms n a).getD c 0 := fun a b => by
    induction b with
    | zero => exact Int.le_refl _
    | succ b ih =>
      have := labPass_le hf (labIter_len ms n (a + b)) ms.length (Nat.le_refl _) c
      exact Int.le_trans this ih
  have h4 := hmono p (n - p)
  rw [show p + (n - p) = n by omega, h1] at h4
  have h5 := labIter_reach hf p c d hc hr2
  omega

end Go.Proofs.YtleoalcbgpjieaaDoor


/- The reference's Valid: the test of the signs. -/
namespace Go.Proofs.YtleoalcbgpjieaaDoor
open Go.Ab
set_option linter.unusedVariables false
set_option maxRecDepth 20000
set_option maxHeartbeats 2000000
variable {HK : FuncId → Option Hook}

/-- A Diagram in a block of its own at memory's end. -/
def DB (h0 : Heap) (s m : SV) (l : Int) : Heap := h0 ++ [.cells [s, m, .int .i64 l] true 0]

theorem DB_s {h0 : Heap} {s m : SV} {l : Int} : readN (DB h0 s m l) h0.length (0 + 0) 1 = some [s] := rd_last rfl
theorem DB_m {h0 : Heap} {s m : SV} {l : Int} : readN (DB h0 s m l) h0.length (0 + 1) 1 = some [m] := rd_last rfl
theorem DB_l {h0 : Heap} {s m : SV} {l : Int} : readN (DB h0 s m l) h0.length (0 + 2) 1 = some [.int .i64 l] := rd_last rfl
theorem DB_mono {h0 : Heap} {s m : SV} {l : Int} (i : Nat) (b : Blk) (hb : h0[i]? = some b) : (DB h0 s m l)[i]? = some b := mono_app i b hb

def Sgn (x : Int) : Prop := x = 1 ∨ x = -1

def I11a (h0 : Heap) (s m : SV) (l : Int) (xs : List Int) (E : Env) (hp : Heap) : Prop := hp = DB h0 s m l ∧ ∃ c : Nat, c ≤ xs.length ∧ (∀ x ∈ xs.take c, Sgn x) ∧
  E = [(1, some (.sc (.ptr h0.length 0))), (3, some (.sc (.int .i64 xs.length))), (4, some (.sc (.int .i64 c)))]
def μ11a (n : Nat) (E : Env) (_ : Heap) : Nat := match E.get 4 with
  | some (.sc (.int _ i)) => n - i.toNat
  | _ => 0
def R11a (h0 : Heap) (s m : SV) (l : Int) (xs : List Int) (ex : Ex) (E : Env) (hp : Heap) : Prop := hp = DB h0 s m l ∧ match ex with
  | .rt => E.get 2 = some (.sc (.bool false)) ∧ ¬ ∀ x ∈ xs, Sgn x
  | .ex i => i = 0 ∧ (∀ x ∈ xs, Sgn x) ∧ ∃ t, E = (1, some (.sc (.ptr h0.length 0))) :: (3, some (.sc (.int .i64 xs.length))) :: t
  | .nm => False

/-! ### Counting the crossings with a label -/
def I11v (hp : Heap) (lab fac : SV) (c f : Int) (ls : List Int) (E : Env) (hp' : Heap) : Prop := hp' = hp ∧ ∃ b : Nat, b ≤ ls.length ∧
  E = [(3, some (.sc (.int .i64 ls.length))), (7, some (.sc lab)), (8, some (.sc fac)), (9, some (.sc (.int .i64 c))), (10, some (.sc (.int .i64 ((ls.take b).countP fun y => y == c)))), (11, some (.sc (.int .i64 f))), (12, some (.sc (.int .i64 b)))]
def μ11v (n : Nat) (E : Env) (_ : Heap) : Nat := match E.get 12 with
  | some (.sc (.int _ i)) => n - i.toNat
  | _ => 0
def R11v (hp : Heap) (lab fac : SV) (c f : Int) (ls : List Int) (ex : Ex) (E : Env) (hp' : Heap) : Prop := hp' = hp ∧ ex = .ex 6 ∧ ∃ t,
  E = (3, some (.sc (.int .i64 ls.length))) :: (7, some (.sc lab)) :: (8, some (.sc fac)) :: (9, some (.sc (.int .i64 c))) :: (10, some (.sc (.int .i64 (ls.countP fun y => y == c)))) :: (11, some (.sc (.int .i64 f))) :: t

/-! ### Counting the faces with a label -/
theorem f2_at {α β : Type} {R : α → β → Prop} : ∀ {l : List α} {m : List β}, F2 R l m → ∀ {i : Nat} {b : β}, m[i]? = some b → ∃ a, l[i]? = some a ∧ R a b
  | _, _, .nil, i, b, h => by simp at h
  | _, _, .cons h t, 0, b, hb => by
    simp at hb; subst hb
    exact ⟨_, rfl, h⟩
  | _, _, .cons h t, i + 1, b, hb => f2_at t (by simpa using hb)

theorem FaceAt.read {ms : List Int} {hp : Heap} {o f : SV} {h : Nat} (hf : FaceAt ms hp o f h) : ∃ id n cap, f = .slc id 0 (n + 1) cap ∧ readN hp id (0 + (0 : Int).toNat * 1) 1 = some [.int .i64 h] := by
  obtain ⟨h1, k, h2, id, cap, cs, h3, h4, h5, h6⟩ := hf
  have hl : ((orb (phi ms) h k).map (SV.int .i64)).length = k + 1 := by simp [orb_len]
  rw [hl] at h3 h5
  refine ⟨id, k, cap, h3, ?_⟩
  have h7 : cs[0]? = some (.int .i64 h) := by
    have : (cs.take (k + 1))[0]? = some (.int .i64 h) := by rw [h5]; simp [orb, it]
    rwa [List.getElem?_take_of_lt (by omega)] at this
  obtain ⟨h8, h9⟩ := List.getElem?_eq_some_iff.1 h7
  unfold readN
  rw [h4]
  show cut cs 0 1 = _
  unfold cut
  rw [if_pos (by omega)]
  rw [List.drop_eq_getElem_cons h8, h9]; rfl

theorem Own.at {h0 hp : Heap} {o : SV} {fs : List SV} (ho : Own h0 hp o fs) {i : Nat} {f : SV} (hf : fs[i]? = some f) : ∃ id cap, o = .slc id 0 fs.length cap ∧ readN hp id (0 + ((i : Nat) : Int).toNat * 1) 1 = some [f] := by
  have hl := (List.getElem?_eq_some_iff.1 hf).1
  rcases ho with ⟨rfl, rfl⟩ | ⟨id, cap, cs, rfl, h1, h2, h3, h4⟩
  · simp at hl
  · refine ⟨id, cap, rfl, ?_⟩
    have h7 : cs[i]? = some f := by
      have : (cs.take fs.length)[i]? = some f := by rw [h3]; exact hf
      rwa [List.getElem?_take_of_lt hl] at this
    obtain ⟨h8, h9⟩ := List.getElem?_eq_some_iff.1 h7
    unfold readN
    rw [h2, Int.toNat_natCast, Nat.mul_one, Nat.zero_add]
    show cut cs i 1 = _
    unfold cut
    rw [if_pos (by omega), List.drop_eq_getElem_cons h8, h9]; rfl

/-- Has the crossing of half-edge h this label? -/
def labAt (ls : List Int) (c : Int) (h : Nat) : Bool := ls.getD (h / 4) 0 == c

def I11f (hp : Heap) (lab fac : SV) (c v : Int) (n : Nat) (ls : List Int) (hs : List Nat) (E : Env) (hp' : Heap) : Prop := hp' = hp ∧ ∃ b : Nat, b ≤ hs.length ∧
  E = [(3, some (.sc (.int .i64 n))), (7, some (.sc lab)), (8, some (.sc fac)), (9, some (.sc (.int .i64 c))), (10, some (.sc (.int .i64 v))), (11, some (.sc (.int .i64 ((hs.take b).countP (labAt ls c))))), (13, some (.sc (.int .i64 b)))]
def μ11f (n : Nat) (E : Env) (_ : Heap) : Nat := match E.get 13 with
  | some (.sc (.int _ i)) => n - i.toNat
  | _ => 0
def R11f (hp : Heap) (lab fac : SV) (c v : Int) (n : Nat) (ls : List Int) (hs : List Nat) (ex : Ex) (E : Env) (hp' : Heap) : Prop := hp' = hp ∧ ex = .ex 8 ∧ ∃ t,
  E = (3, some (.sc (.int .i64 n))) :: (7, some (.sc lab)) :: (8, some (.sc fac)) :: (9, some (.sc (.int .i64 c))) :: (10, some (.sc (.int .i64 v))) :: (11, some (.sc (.int .i64 (hs.countP (labAt ls c))))) :: t

end Go.Proofs.YtleoalcbgpjieaaDoor


/- The reference's Valid: each component is on a sphere. -/
namespace Go.Proofs.YtleoalcbgpjieaaDoor
open Go.Ab
set_option linter.unusedVariables false
set_option maxRecDepth 20000
set_option maxHeartbeats 2000000
variable {HK : FuncId → Option Hook}

/-- The component with this label has two faces more than crossings. -/
def OkC (ls : List Int) (hs : List Nat) (c : Nat) : Prop := ls.getD c 0 = (c : Int) → hs.countP (labAt ls c) = ls.countP (fun y => y == (c : Int)) + 2

def I11c (hp : Heap) (lab fac : SV) (ls : List Int) (hs : List Nat) (E : Env) (hp' : Heap) : Prop := hp' = hp ∧ ∃ c : Nat, c ≤ ls.length ∧ (∀ b, b < c → OkC ls hs b) ∧
  E = [(3, some (.sc (.int .i64 ls.length))), (7, some (.sc lab)), (8, some (.sc fac)), (9, some (.sc (.int .i64 c)))]
def μ11c (n : Nat) (E : Env) (_ : Heap) : Nat := match E.get 9 with
  | some (.sc (.int _ i)) => n - i.toNat
  | _ => 0
def R11c (hp : Heap) (ls : List Int) (hs : List Nat) (ex : Ex) (E : Env) (hp' : Heap) : Prop := hp' = hp ∧ match ex with
  | .rt => E.get 2 = some (.sc (.bool false)) ∧ ¬ ∀ b, b < ls.length → OkC ls hs b
  | .ex i => i = 4 ∧ ∀ b, b < ls.length → OkC ls hs b
  | .nm => False

end Go.Proofs.YtleoalcbgpjieaaDoor

