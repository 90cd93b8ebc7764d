/- The reference's Faces. -/
import Derived.Test.YtehnalbdfnmphaaDoorFaces
import Derived.Test.YtehnalbdfnmphaaDoorOrbit
namespace Go.Proofs.YtehnalbdfnmphaaDoor
open Go.Ab
set_option linter.unusedVariables false
set_option maxRecDepth 20000
set_option maxHeartbeats 2000000
variable {HK : FuncId → Option Hook}

/-- A slice in a block that is not o's. -/
def Apart (hp : Heap) (o f : SV) (vs : List SV) : Prop := ∃ id cap cs, f = .slc id 0 vs.length cap ∧ hp[id]? = some (.cells cs true 1) ∧ cs.take vs.length = vs ∧ Room vs.length cs cap ∧ ∀ a n c, o ≠ .slc id a n c

/-- One face: the orbit of its least half-edge. -/
def FaceAt (ms : List Int) (hp : Heap) (o f : SV) (h : Nat) : Prop := h < ms.length ∧ ∃ k, it (phi ms) (k + 1) h = h ∧ Apart hp o f ((orb (phi ms) h k).map (.int .i64))

open Classical in
/-- The least half-edges of the faces below n. -/
noncomputable def leasts (ms : List Int) (n : Nat) : List Nat := (List.range n).filter fun h => decide (Least (phi ms) h)

theorem leasts_succ (ms : List Int) (n : Nat) : leasts ms (n + 1) = leasts ms n ++ (open Classical in if Least (phi ms) n then [n] else []) := by
  unfold leasts
  rw [List.range_succ, List.filter_append]
  congr 1
  by_cases h : Least (phi ms) n <;> simp [h]

def I36o (h0 : Heap) (s : SV) (ms : List Int) (E : Env) (hp : Heap) : Prop := ∃ (i : Nat) (o : SV) (fs : List SV), i ≤ ms.length ∧ Ext h0 hp ∧ Own h0 hp o fs ∧ F2 (FaceAt ms hp o) fs (leasts ms i) ∧
  E = [(0, some (.sc s)), (3, some (.sc o)), (4, some (.sc (.int .i64 i)))]

def μ36o (n : Nat) (E : Env) (_ : Heap) : Nat := match E.get 4 with
  | some (.sc (.int _ i)) => n - i.toNat
  | _ => 0

def R36o (h0 : Heap) (ms : List Int) (ex : Ex) (E : Env) (hp : Heap) : Prop := ex = .ex 0 ∧ ∃ (o : SV) (fs : List SV), Ext h0 hp ∧ Own h0 hp o fs ∧ F2 (FaceAt ms hp o) fs (leasts ms ms.length) ∧ E.get 3 = some (.sc o)

theorem f2_mono {α β : Type} {R S : α → β → Prop} (hRS : ∀ a b, R a b → S a b) : ∀ {l : List α} {m : List β}, F2 R l m → F2 S l m
  | _, _, .nil => .nil
  | _, _, .cons h t => .cons (hRS _ _ h) (f2_mono hRS t)

theorem f2_snoc {α β : Type} {R : α → β → Prop} {a : α} {b : β} (hab : R a b) : ∀ {l : List α} {m : List β}, F2 R l m → F2 R (l ++ [a]) (m ++ [b])
  | _, _, .nil => .cons hab .nil
  | _, _, .cons h t => .cons h (f2_snoc hab t)

theorem f2_length {α β : Type} {R : α → β → Prop} : ∀ {l : List α} {m : List β}, F2 R l m → l.length = m.length
  | _, _, .nil => rfl
  | _, _, .cons h t => by simp [f2_length t]

theorem leasts_le (ms : List Int) (n : Nat) : (leasts ms n).length ≤ n := by
  unfold leasts
  exact Nat.le_trans (List.length_filter_le _ _) (by simp)

theorem Own.apart {h0 hp : Heap} {f o : SV} {f0 : Nat → Nat} {h k : Nat} (ho : Own h0 hp f ((orb f0 h k).map (.int .i64))) (hne : ∀ id, h0.length ≤ id → ∀ a n c, o ≠ .slc id a n c) : Apart hp o f ((orb f0 h k).map (.int .i64)) := by
  rcases ho with ⟨rfl, h1⟩ | ⟨id, cap, cs, rfl, h1, h2, h3, h4⟩
  · have := congrArg List.length h1
    simp [orb_len] at this
  · exact ⟨id, cap, cs, rfl, h2, h3, h4, hne id h1⟩

theorem Own.below {h0 hp : Heap} {o : SV} {vs : List SV} (ho : Own h0 hp o vs) : ∀ id, hp.length ≤ id → ∀ a n c, o ≠ .slc id a n c := by
  intro id hid a n c he
  rcases ho with ⟨rfl, h1⟩ | ⟨id2, cap, cs, rfl, h1, h2, h3, h4⟩
  · cases he
  · injection he with e1
    have := (List.getElem?_eq_some_iff.1 h2).1
    omega

theorem Own.ext {h0 hp hp' : Heap} {o : SV} {vs : List SV} (ho : Own h0 hp o vs) (he : Ext hp hp') : Own h0 hp' o vs := by
  rcases ho with h | ⟨id2, cap, cs, h0, h1, h2, h3, h4⟩
  · exact .inl h
  · exact .inr ⟨id2, cap, cs, h0, h1, he.get _ _ h2, h3, h4⟩

theorem FaceAt.ext {ms : List Int} {hp hp' : Heap} {o f : SV} {h : Nat} (hf : FaceAt ms hp o f h) (he : Ext hp hp') : FaceAt ms hp' o f h := by
  obtain ⟨h1, k, h2, id, cap, cs, h3, h4, h5⟩ := hf
  exact ⟨h1, k, h2, id, cap, cs, h3, he.get _ _ h4, h5⟩

theorem FaceAt.push {ms : List Int} {hp hp' : Heap} {o o' f : SV} {h : Nat} (hf : FaceAt ms hp o f h) (hfr : ∀ (j : Nat) (b : Blk), hp[j]? = some b → (∀ a n c, o ≠ .slc j a n c) → hp'[j]? = some b ∧ ∀ a n c, o' ≠ .slc j a n c) : FaceAt ms hp' o' f h := by
  obtain ⟨h1, k, h2, id, cap, cs, h3, h4, h5, h6, h7⟩ := hf
  obtain ⟨h8, h9⟩ := hfr id _ h4 h7
  exact ⟨h1, k, h2, id, cap, cs, h3, h8, h5, h6, h9⟩

theorem round36o (hk60 : HK 60 = none) (hk81 : HK 81 = none) (h0 : Heap) (s : SV) (ms : List Int) (hs : IsInts h0 s ms) (hm : Mates ms) (hv : Inv ms) (E : Env) (hp : Heap) (hI : I36o h0 s ms E hp) :
    wA FT HK b36L0 (E.keep [0, 3, 4]) hp (wRound (I36o h0 s ms) (μ36o ms.length) (μ36o ms.length E hp) (R36o h0 ms)) := by
  obtain ⟨i, o, fs, hi, he, ho, hF, rfl⟩ := hI
  have hml := hm.len
  have hfl : fs.length ≤ 1000 := by rw [f2_length hF]; have := leasts_le ms i; omega
  refine w_seq (w_seq (w_ops ?_))
  refine op_ok rfl rfl rfl ?_
  refine op_ok rfl rfl rfl ?_
  refine op_len rfl rfl (IsSl.len hs) ?_
  refine op_test rfl rfl rfl (fun hc => ?_) (fun hc => ?_)
  ·
    have hlt : i < ms.length := by have := of_decide_eq_true hc; omega
    refine w_end (keep_c rfl (keep_c rfl (keep_c rfl (keep_c rfl (keep_nil _))))) (w_seqN (w_condT rfl (w_skip (w_seqN (w_seq (w_blk (w_seq (w_ops ?_))))))))
    refine op_ok rfl rfl rfl ?_
    refine op_ok rfl rfl rfl ?_
    refine op_call rfl rfl (call60 hk60 hk81 hp s ms (IsSl.mono hs he.get) hm i hlt) ?_
    rintro v hp1 ⟨he1, k, f, rfl, hft, hof⟩
    have hback := hft.back hm hv hlt
    have hap := Own.apart hof (Own.below ho)
    refine op_ok rfl rfl rfl ?_
    refine w_end (keep_c rfl (keep_c rfl (keep_c rfl (keep_c rfl (keep_nil _))))) (w_seqN (w_seq (w_ops ?_)))
    refine op_ok rfl rfl rfl ?_
    refine w_end (keep_c rfl (keep_c rfl (keep_c rfl (keep_c rfl (keep_c rfl (keep_nil _)))))) (w_seqN (w_seq (w_seq (w_ops ?_))))
    refine op_ok rfl rfl rfl ?_
    have hy : IsInts hp1 f (orb (phi ms) i k) := by
      have := hof.sl
      rw [List.length_map] at this
      exact this
    have hol : (orb (phi ms) i k).length ≤ 100000 := by rw [orb_len]; have := hft.2.1; omega
    refine w_end (keep_c rfl (keep_c rfl (keep_c rfl (keep_c rfl (keep_c rfl (keep_c rfl (keep_nil _))))))) (w_seqN (w_blk (w_loop (I36i hp1 s o f i (orb (phi ms) i k)) (μ36i (orb (phi ms) i k).length) (R36i hp1 s o f i (orb (phi ms) i k)) ?_ (round36i hp1 s o f i _ hy hol) ?_)))
    · exact ⟨rfl, 0, by omega, rfl⟩
    · rintro ex E h' ⟨rfl, rfl, i7, c7, rfl⟩
      have hle := least_iff (f := phi ms) (h := i) (k := k) hback
      refine w_blkX (w_seqN (w_seq (w_ops ?_)))
      refine op_test rfl rfl rfl (fun c1 => ?_) (fun c1 => ?_)
      ·
        have hL : Least (phi ms) i := hle.1 c1
        refine w_end (keep_c rfl (keep_c rfl (keep_c rfl (keep_c rfl (keep_c rfl (keep_nil _)))))) (w_seqN (w_condT rfl (w_ops ?_)))
        refine op_ok rfl rfl rfl ?_
        refine op_ok rfl rfl rfl ?_
        refine op_push (h0 := h0) rfl rfl (he.trans he1) (Own.ext ho he1) (by simp only [bigN]; omega) ?_
        intro o2 hp2 ho2 he2 hfr
        refine op_ok rfl rfl rfl ?_
        refine w_end (keep_c rfl (keep_c rfl (keep_c rfl (keep_nil _)))) (w_blkN (w_seqN (w_ops ?_)))
        refine op_ok rfl rfl rfl ?_
        refine op_wrap rfl rfl rfl (by omega) ?_
        refine op_ok rfl rfl rfl ?_
        refine w_end (keep_c rfl (keep_c rfl (keep_c rfl (keep_nil _)))) (w_roundN ?_ ?_)
        · refine ⟨i + 1, o2, fs ++ [f], hlt, he2, ho2, ?_, rfl⟩
          rw [leasts_succ, if_pos hL]
          exact f2_snoc (FaceAt.push ⟨hlt, k, hback, hap⟩ hfr) (f2_mono (fun a b hab => (hab.ext he1).push hfr) hF)
        · show ms.length - ((i : Int) + 1).toNat < ms.length - (i : Int).toNat
          omega
      ·
        have hL : ¬ Least (phi ms) i := fun hl => by
          have := hle.2 hl
          unfold leB at c1
          rw [this] at c1
          cases c1
        refine w_end (keep_c rfl (keep_c rfl (keep_c rfl (keep_c rfl (keep_c rfl (keep_nil _)))))) (w_seqN (w_condF rfl (w_skip (w_blkN (w_seqN (w_ops ?_))))))
        refine op_ok rfl rfl rfl ?_
        refine op_wrap rfl rfl rfl (by omega) ?_
        refine op_ok rfl rfl rfl ?_
        refine w_end (keep_c rfl (keep_c rfl (keep_c rfl (keep_nil _)))) (w_roundN ?_ ?_)
        · refine ⟨i + 1, o, fs, hlt, he.trans he1, Own.ext ho he1, ?_, rfl⟩
          rw [leasts_succ, if_neg hL, List.append_nil]
          exact f2_mono (fun a b hab => hab.ext he1) hF
        · show ms.length - ((i : Int) + 1).toNat < ms.length - (i : Int).toNat
          omega
  ·
    have hx : i = ms.length := by have := of_decide_eq_false hc; omega
    subst hx
    refine w_end (keep_c rfl (keep_c rfl (keep_c rfl (keep_c rfl (keep_nil _))))) (w_seqN (w_condF rfl (w_exit ?_)))
    exact ⟨rfl, o, fs, he, ho, hF, rfl⟩

theorem call36 (hk : HK 36 = none) (hk60 : HK 60 = none) (hk81 : HK 81 = none) (h0 : Heap) (s : SV) (ms : List Int) (hs : IsInts h0 s ms) (hm : Mates ms) (hv : Inv ms) :
    ∃ v h', Cal FT HK 36 [.sc s] h0 v h' ∧ Ext h0 h' ∧ ∃ o fs, v = .sc o ∧ Own h0 h' o fs ∧ F2 (FaceAt ms h' o) fs (leasts ms ms.length) := by
  refine Cal.of (F := a36) hk rfl rfl ?_
  refine w_seq (w_ops ?_)
  refine op_ok rfl rfl rfl ?_
  refine w_end (keep_c rfl (keep_nil _)) (w_seqN (w_seq (w_ops ?_)))
  refine op_ok rfl rfl rfl ?_
  refine w_end (keep_c rfl (keep_c rfl (keep_nil _))) (w_seqN (w_seq (w_seq (w_ops ?_))))
  refine op_ok rfl rfl rfl ?_
  refine w_end (keep_c rfl (keep_c rfl (keep_c rfl (keep_nil _)))) (w_seqN (w_blk (w_loop (I36o h0 s ms) (μ36o ms.length) (R36o h0 ms) ?_ (round36o hk60 hk81 h0 s ms hs hm hv) ?_)))
  · exact ⟨0, .nilS, [], by omega, Ext.refl _, .inl ⟨rfl, rfl⟩, .nil, rfl⟩
  · rintro ex E h' ⟨rfl, o, fs, he, ho, hF, hE⟩
    refine w_blkX (w_seqN (w_seq (w_ops ?_)))
    refine op_ok (v := some (.sc o)) (h' := h') rfl rfl (by simp [step1, ev, hE]) ?_
    refine op_ok rfl rfl rfl ?_
    refine w_end (keep_c rfl (keep_nil _)) (w_seqN (w_ret ?_))
    exact ⟨.inr rfl, he, o, fs, rfl, ho, hF⟩

end Go.Proofs.YtehnalbdfnmphaaDoor
