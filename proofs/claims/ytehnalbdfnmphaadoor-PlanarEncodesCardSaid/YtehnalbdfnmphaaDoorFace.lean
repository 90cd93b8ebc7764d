/- The reference's Face: the orbit of a half-edge. -/
import Derived.Test.YtehnalbdfnmphaaDoorLeaf
import Derived.Test.YtehnalbdfnmphaaDoorAb23
namespace Go.Proofs.YtehnalbdfnmphaaDoor
open Go.Ab
set_option linter.unusedVariables false
set_option maxRecDepth 20000
set_option maxHeartbeats 2000000
variable {HK : FuncId → Option Hook}

/-- The mates are half-edges, four to a crossing. -/
structure Mates (ms : List Int) : Prop where
  four : ms.length % 4 = 0
  len : ms.length ≤ 1000
  get : ∀ i, i < ms.length → ∃ m : Nat, ms[i]? = some (m : Int) ∧ m < ms.length

/-- The next half-edge along the face. -/
def phi (ms : List Int) (h : Nat) : Nat := turnN (ms.getD h 0).toNat 3

theorem turn_lt {n h k : Nat} (h4 : n % 4 = 0) (hh : h < n) : turnN h k < n := by unfold turnN; omega

theorem Mates.phi_lt {ms : List Int} (hm : Mates ms) {h : Nat} (hh : h < ms.length) : phi ms h < ms.length := by
  obtain ⟨m, h1, h2⟩ := hm.get h hh
  unfold phi
  rw [getD_at h1]
  exact turn_lt hm.four (by simpa using h2)

def it (f : Nat → Nat) : Nat → Nat → Nat
  | 0, h => h
  | n + 1, h => f (it f n h)

theorem Mates.it_lt {ms : List Int} (hm : Mates ms) {h : Nat} (hh : h < ms.length) : ∀ n, it (phi ms) n h < ms.length
  | 0 => hh
  | n + 1 => hm.phi_lt (hm.it_lt hh n)

/-- The first k + 1 of the orbit. -/
def orb (f : Nat → Nat) (h k : Nat) : List Int := (List.range (k + 1)).map fun j => ((it f j h : Nat) : Int)
theorem orb_succ (f : Nat → Nat) (h k : Nat) : orb f h (k + 1) = orb f h k ++ [((it f (k + 1) h : Nat) : Int)] := by
  unfold orb
  rw [List.range_succ, List.map_append]; rfl
theorem orb_len (f : Nat → Nat) (h k : Nat) : (orb f h k).length = k + 1 := by simp [orb]

/-- The orbit as Face takes it. -/
def FaceTo (ms : List Int) (h k : Nat) : Prop := (∀ j, 1 ≤ j → j ≤ k → it (phi ms) j h ≠ h) ∧ k ≤ ms.length ∧ (it (phi ms) (k + 1) h = h ∨ k = ms.length)

def I60 (h0 : Heap) (s : SV) (ms : List Int) (h : Nat) (E : Env) (hp : Heap) : Prop := ∃ (k : Nat) (s' : SV), k ≤ ms.length ∧ (∀ j, 1 ≤ j → j ≤ k → it (phi ms) j h ≠ h) ∧
  Ext h0 hp ∧ Own h0 hp s' ((orb (phi ms) h k).map (.int .i64)) ∧
  E = [(0, some (.sc s)), (1, some (.sc (.int .i64 h))), (5, some (.sc s')), (6, some (.sc (.int .i64 ((it (phi ms) (k + 1) h : Nat) : Int))))]

def μ60 (n : Nat) (E : Env) (hp : Heap) : Nat := match E.get 5 with
  | some (.sc (.slc _ _ k _)) => n + 1 - k
  | _ => n + 2

def R60 (h0 : Heap) (s : SV) (ms : List Int) (h : Nat) (ex : Ex) (E : Env) (hp : Heap) : Prop := ex = .ex 0 ∧ ∃ (k : Nat) (s' : SV), FaceTo ms h k ∧ Ext h0 hp ∧ Own h0 hp s' ((orb (phi ms) h k).map (.int .i64)) ∧ E.get 5 = some (.sc s')

theorem own_slc {h0 h : Heap} {s : SV} {f : Nat → Nat} {i k : Nat} (ho : Own h0 h s ((orb f i k).map (.int .i64))) : ∃ id cap, s = .slc id 0 (k + 1) cap := by
  rcases ho with ⟨rfl, h1⟩ | ⟨id, cap, cs, rfl, _⟩
  · have := congrArg List.length h1
    simp [orb_len] at this
  · exact ⟨id, cap, by simp [orb_len]⟩

theorem round60 (hk81 : HK 81 = none) (h0 : Heap) (s : SV) (ms : List Int) (hs : IsInts h0 s ms) (hm : Mates ms) (h : Nat) (hh : h < ms.length) (E : Env) (hp : Heap) (hI : I60 h0 s ms h E hp) :
    wA FT HK b60L0 (E.keep [0, 1, 5, 6]) hp (wRound (I60 h0 s ms h) (μ60 ms.length) (μ60 ms.length E hp) (R60 h0 s ms h)) := by
  obtain ⟨k, s', hk, hj, he, ho, rfl⟩ := hI
  obtain ⟨id, cap, rfl⟩ := own_slc ho
  have hml := hm.len
  have hitl := hm.it_lt hh (k + 1)
  refine w_seq (w_seq (w_ops ?_))
  refine op_ok rfl rfl rfl ?_
  refine op_ok rfl rfl rfl ?_
  refine op_test rfl rfl rfl (fun c1 => ?_) (fun c1 => ?_)
  ·
    have n1 : it (phi ms) (k + 1) h ≠ h := fun e => by rw [e] at c1; simp at c1
    refine op_ok rfl rfl rfl ?_
    refine op_ok rfl rfl rfl ?_
    refine op_len (n := ((k + 1 : Nat) : Int)) rfl rfl rfl ?_
    refine op_ok rfl rfl rfl ?_
    refine op_len rfl rfl (IsSl.len hs) ?_
    refine op_test rfl rfl rfl (fun c2 => ?_) (fun c2 => ?_)
    ·
      have n2 : k + 1 ≤ ms.length := by have := of_decide_eq_true c2; omega
      refine op_ok rfl rfl rfl ?_
      refine w_end (keep_c rfl (keep_c rfl (keep_c rfl (keep_c rfl (keep_c rfl (keep_nil _)))))) (w_seqN (w_condT rfl (w_skip (w_seqN (w_seq (w_blk (w_ops ?_)))))))
      refine op_ok rfl rfl rfl ?_
      refine op_ok rfl rfl rfl ?_
      refine op_push (h0 := h0) rfl rfl he ho (by simp [orb_len, bigN]; omega) ?_
      intro s2 h2 ho2 he2 hfr
      obtain ⟨m, hg1, hg2⟩ := hm.get _ hitl
      obtain ⟨id2, off2, cap2, rfl, hr⟩ := IsInts.at (IsSl.mono hs he2.get) hg1
      have hr2 : readN h2 id2 (off2 + ((it (phi ms) (k + 1) h : Nat) : Int).toNat * 1) 1 = some [.int .i64 (m : Int)] := by rw [Int.toNat_natCast]; exact hr
      refine op_ok rfl rfl rfl ?_
      refine w_end (keep_c rfl (keep_c rfl (keep_c rfl (keep_c rfl (keep_nil _))))) (w_blkN (w_seqN (w_ops ?_)))
      refine op_ok rfl rfl rfl ?_
      refine op_ok rfl rfl rfl ?_
      refine op_idxA rfl rfl rfl ⟨by omega, by omega⟩ ?_
      refine op_ld rfl rfl hr2 ?_
      refine op_call rfl rfl (call81 hk81 h2 m 3 (-1) (by omega) (by omega) (.inr (by decide))) ?_
      rintro v h3 ⟨rfl, rfl⟩
      refine op_ok rfl rfl rfl ?_
      refine w_end (keep_c rfl (keep_c rfl (keep_c rfl (keep_c rfl (keep_nil _))))) (w_roundN ?_ ?_)
      · refine ⟨k + 1, s2, n2, fun j h1 h2 => ?_, he2, ?_, ?_⟩
        · rcases Nat.lt_or_ge j (k + 1) with h | h
          · exact hj j h1 (by omega)
          · have : j = k + 1 := by omega
            subst this; exact n1
        · rw [orb_succ, List.map_append]; exact ho2
        · have : it (phi ms) (k + 1 + 1) h = turnN m 3 := by
            show turnN (ms.getD (it (phi ms) (k + 1) h) 0).toNat 3 = _
            rw [getD_at hg1]; simp
          rw [this]
      · have ho3 : Own h0 h3 s2 ((orb (phi ms) h (k + 1)).map (.int .i64)) := by rw [orb_succ, List.map_append]; exact ho2
        obtain ⟨id3, cap3, rfl⟩ := own_slc ho3
        show ms.length + 1 - (k + 1 + 1) < ms.length + 1 - (k + 1)
        omega
    ·
      have n2 : k = ms.length := by have := of_decide_eq_false c2; omega
      refine op_ok rfl rfl rfl ?_
      refine w_end (keep_c rfl (keep_c rfl (keep_c rfl (keep_c rfl (keep_c rfl (keep_nil _)))))) (w_seqN (w_condF rfl (w_exit ?_)))
      exact ⟨rfl, k, _, ⟨hj, hk, .inr n2⟩, he, ho, rfl⟩
  ·
    have n1 : it (phi ms) (k + 1) h = h := by simp at c1; omega
    repeat (first | refine op_skip rfl ?_ | refine op_ok rfl rfl rfl ?_)
    refine w_end (keep_c rfl (keep_c rfl (keep_c rfl (keep_c rfl (keep_c rfl (keep_nil _)))))) (w_seqN (w_condF rfl (w_exit ?_)))
    exact ⟨rfl, k, _, ⟨hj, hk, .inl n1⟩, he, ho, rfl⟩

theorem call60 (hk : HK 60 = none) (hk81 : HK 81 = none) (h0 : Heap) (s : SV) (ms : List Int) (hs : IsInts h0 s ms) (hm : Mates ms) (h : Nat) (hh : h < ms.length) :
    ∃ v h', Cal FT HK 60 [.sc s, .sc (.int .i64 h)] h0 v h' ∧ Ext h0 h' ∧ ∃ k s', v = .sc s' ∧ FaceTo ms h k ∧ Own h0 h' s' ((orb (phi ms) h k).map (.int .i64)) := by
  refine Cal.of (F := a60) hk rfl rfl ?_
  have hml := hm.len
  refine w_seq (w_ops ?_)
  refine op_ok rfl rfl rfl ?_
  refine w_end (keep_c rfl (keep_c rfl (keep_nil _))) (w_seqN (w_seq (w_ops ?_)))
  refine op_ok rfl rfl rfl ?_
  refine op_ok (v := some (.sc (.slc h0.length 0 1 (some 1)))) (h' := h0 ++ [.cells [.int .i64 h] true 1]) rfl rfl rfl ?_
  refine op_ok rfl rfl rfl ?_
  refine w_end (keep_c rfl (keep_c rfl (keep_c rfl (keep_nil _)))) (w_seqN (w_seq (w_seq (w_ops ?_))))
  obtain ⟨m, hg1, hg2⟩ := hm.get _ hh
  have he1 : Ext h0 (h0 ++ [.cells [.int .i64 h] true 1]) := ⟨_, rfl⟩
  obtain ⟨id2, off2, cap2, rfl, hr⟩ := IsInts.at (IsSl.mono hs he1.get) hg1
  have hr2 : readN (h0 ++ [.cells [.int .i64 h] true 1]) id2 (off2 + ((h : Nat) : Int).toNat * 1) 1 = some [.int .i64 (m : Int)] := by rw [Int.toNat_natCast]; exact hr
  refine op_ok rfl rfl rfl ?_
  refine op_ok rfl rfl rfl ?_
  refine op_idxA rfl rfl rfl ⟨by omega, by omega⟩ ?_
  refine op_ld rfl rfl hr2 ?_
  refine op_call rfl rfl (call81 hk81 _ m 3 (-1) (by omega) (by omega) (.inr (by decide))) ?_
  rintro v h3 ⟨rfl, rfl⟩
  refine op_ok rfl rfl rfl ?_
  refine w_end (keep_c rfl (keep_c rfl (keep_c rfl (keep_c rfl (keep_nil _))))) (w_seqN (w_blk (w_loop (I60 h0 (.slc id2 off2 ms.length cap2) ms h) (μ60 ms.length) (R60 h0 (.slc id2 off2 ms.length cap2) ms h) ?_ (round60 hk81 h0 _ ms hs hm h hh) ?_)))
  · refine ⟨0, .slc h0.length 0 1 (some 1), by omega, fun j h1 h2 => by omega, he1, ?_, ?_⟩
    · exact .inr ⟨h0.length, some 1, [.int .i64 h], rfl, Nat.le_refl _, by rw [List.getElem?_append_right (Nat.le_refl _)]; simp, rfl, rfl, by simp [orb]⟩
    · have : it (phi ms) (0 + 1) h = turnN m 3 := by
        show phi ms h = _
        unfold phi
        rw [getD_at hg1]; simp
      rw [this]
  · rintro ex E h' ⟨rfl, k, s', hf, he, ho, hE⟩
    refine w_blkX (w_seqN (w_seq (w_ops ?_)))
    refine op_ok (v := some (.sc s')) (h' := h') rfl rfl (by simp [step1, ev, hE]) ?_
    refine op_ok rfl rfl rfl ?_
    refine w_end (keep_c rfl (keep_nil _)) (w_seqN (w_ret ?_))
    exact ⟨.inr rfl, he, k, s', rfl, hf, ho⟩

end Go.Proofs.YtehnalbdfnmphaaDoor
