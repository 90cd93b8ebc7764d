/- The reference's Valid: each component is on a sphere. -/
import Derived.Test.YtehnalbdfnmphaaDoorRv
namespace Go.Proofs.YtehnalbdfnmphaaDoor
open Go.Ab
set_option linter.unusedVariables false
set_option maxRecDepth 20000
set_option maxHeartbeats 2000000
variable {HK : FuncId → Option Hook}

/-- The component with this label has two faces more than crossings. -/
def OkC (ls : List Int) (hs : List Nat) (c : Nat) : Prop := ls.getD c 0 = (c : Int) → hs.countP (labAt ls c) = ls.countP (fun y => y == (c : Int)) + 2

def I13c (hp : Heap) (lab fac : SV) (ls : List Int) (hs : List Nat) (E : Env) (hp' : Heap) : Prop := hp' = hp ∧ ∃ c : Nat, c ≤ ls.length ∧ (∀ b, b < c → OkC ls hs b) ∧
  E = [(3, some (.sc (.int .i64 ls.length))), (7, some (.sc lab)), (8, some (.sc fac)), (9, some (.sc (.int .i64 c)))]
def μ13c (n : Nat) (E : Env) (_ : Heap) : Nat := match E.get 9 with
  | some (.sc (.int _ i)) => n - i.toNat
  | _ => 0
def R13c (hp : Heap) (ls : List Int) (hs : List Nat) (ex : Ex) (E : Env) (hp' : Heap) : Prop := hp' = hp ∧ match ex with
  | .rt => E.get 2 = some (.sc (.bool false)) ∧ ¬ ∀ b, b < ls.length → OkC ls hs b
  | .ex i => i = 4 ∧ ∀ b, b < ls.length → OkC ls hs b
  | .nm => False

theorem round13c (h0 hp : Heap) (lab fac : SV) (ls ms : List Int) (fs : List SV) (hs : List Nat) (hl : IsInts hp lab ls) (ho : Own h0 hp fac fs) (hF : F2 (FaceAt ms hp fac) fs hs) (hn : hs.length ≤ 1000) (hn2 : ls.length ≤ 1000) (h4 : ls.length * 4 = ms.length)
    (E : Env) (hp' : Heap) (hI : I13c hp lab fac ls hs E hp') :
    wA FT HK b13L2 (E.keep [3, 7, 8, 9]) hp' (wRound (I13c hp lab fac ls hs) (μ13c ls.length) (μ13c ls.length E hp') (R13c hp ls hs)) := by
  obtain ⟨rfl, c, hi, hok, rfl⟩ := hI
  refine w_seq (w_seq (w_ops ?_))
  refine op_ok rfl rfl rfl ?_
  refine op_ok rfl rfl rfl ?_
  refine op_test rfl rfl rfl (fun hc => ?_) (fun hc => ?_)
  ·
    have hlt : c < ls.length := by have := of_decide_eq_true hc; omega
    obtain ⟨x, hx⟩ : ∃ x, ls[c]? = some x := ⟨_, List.getElem?_eq_getElem hlt⟩
    obtain ⟨id, off, cap, hlab, hr⟩ := IsInts.at hl hx
    have hgd := getD_at hx
    have next : OkC ls hs c → ∀ b, b < c + 1 → OkC ls hs b := fun h b hb => by
      rcases Nat.lt_or_ge b c with h2 | h2
      · exact hok b h2
      · have : b = c := by omega
        subst this; exact h
    refine w_end (keep_c rfl (keep_c rfl (keep_c rfl (keep_c rfl (keep_c rfl (keep_nil _)))))) (w_seqN (w_condT rfl (w_skip (w_seqN (w_seq (w_blk (w_seq (w_seq (w_ops ?_)))))))))
    refine op_ok rfl rfl rfl ?_
    refine op_ok rfl rfl rfl ?_
    subst hlab
    refine op_idxA rfl rfl rfl ⟨by omega, by omega⟩ ?_
    refine op_ld rfl rfl hr ?_
    refine op_ok rfl rfl rfl ?_
    refine op_test rfl rfl rfl (fun c1 => ?_) (fun c1 => ?_)
    ·
      have n1 : x ≠ (c : Int) := fun e => by rw [e] at c1; simp at c1
      refine w_end (keep_c rfl (keep_c rfl (keep_c rfl (keep_c rfl (keep_c rfl (keep_nil _)))))) (w_seqN (w_condT rfl (w_exit (w_seqX (w_blkX (w_seqN (w_ops ?_)))))))
      refine op_ok rfl rfl rfl ?_
      refine op_wrap rfl rfl rfl (by omega) ?_
      refine op_ok rfl rfl rfl ?_
      refine w_end (keep_c rfl (keep_c rfl (keep_c rfl (keep_c rfl (keep_nil _))))) (w_roundN ?_ ?_)
      · exact ⟨rfl, c + 1, hlt, next (fun h => absurd (hgd.symm.trans h) n1), rfl⟩
      · show ls.length - ((c : Int) + 1).toNat < ls.length - (c : Int).toNat
        omega
    ·
      have e1 : x = (c : Int) := by simpa using c1
      have hv : ls.countP (fun y => y == (c : Int)) ≤ ls.length := List.countP_le_length
      have hfl : hs.countP (labAt ls c) ≤ hs.length := List.countP_le_length
      refine w_end (keep_c rfl (keep_c rfl (keep_c rfl (keep_c rfl (keep_c rfl (keep_nil _)))))) (w_seqN (w_condF rfl (w_skip (w_seqN (w_seq (w_ops ?_))))))
      refine op_ok rfl rfl rfl ?_
      refine op_ok rfl rfl rfl ?_
      refine w_end (keep_c rfl (keep_c rfl (keep_c rfl (keep_c rfl (keep_c rfl (keep_c rfl (keep_nil _))))))) (w_seqN (w_seq (w_seq (w_ops ?_))))
      refine op_ok rfl rfl rfl ?_
      refine w_end (keep_c rfl (keep_c rfl (keep_c rfl (keep_c rfl (keep_c rfl (keep_c rfl (keep_c rfl (keep_nil _)))))))) (w_seqN (w_blk (w_loop (I13v hp' _ fac c 0 ls) (μ13v ls.length) (R13v hp' _ fac c 0 ls) ⟨rfl, 0, by omega, rfl⟩ (round13v hp' _ fac c 0 ls hl hn2) ?_)))
      rintro ex E h' ⟨rfl, rfl, t, rfl⟩
      refine w_blkX (w_seqN (w_seq (w_seq (w_ops ?_))))
      refine op_ok rfl rfl rfl ?_
      refine w_end (keep_c rfl (keep_c rfl (keep_c rfl (keep_c rfl (keep_c rfl (keep_c rfl (keep_c rfl (keep_nil _)))))))) (w_seqN (w_blk (w_loop (I13f h' _ fac c _ ls.length ls hs) (μ13f hs.length) (R13f h' _ fac c _ ls.length ls hs) ⟨rfl, 0, by omega, rfl⟩ (round13f h0 h' _ fac c _ ls.length ls ms fs hs hl ho hF hn h4 (by omega)) ?_)))
      rintro ex E h2 ⟨rfl, rfl, t2, rfl⟩
      refine w_blkX (w_seqN (w_seq (w_ops ?_)))
      refine op_ok rfl rfl rfl ?_
      refine op_ok rfl rfl rfl ?_
      refine op_wrap rfl rfl rfl (by omega) ?_
      refine op_test rfl rfl rfl (fun c2 => ?_) (fun c2 => ?_)
      ·
        refine w_end (keep_c rfl (keep_c rfl (keep_c rfl (keep_c rfl (keep_c rfl (keep_nil _)))))) (w_seqN (w_condT rfl (w_seq (w_ops ?_))))
        refine op_ok rfl rfl rfl ?_
        refine w_end (keep_c rfl (keep_nil _)) (w_seqN (w_ret ?_))
        refine ⟨rfl, rfl, fun h => ?_⟩
        have h5 := h c hlt (by rw [hgd, e1])
        rw [h5] at c2
        simp at c2
      ·
        refine w_end (keep_c rfl (keep_c rfl (keep_c rfl (keep_c rfl (keep_c rfl (keep_nil _)))))) (w_seqN (w_condF rfl (w_skip (w_blkN (w_seqN (w_ops ?_))))))
        refine op_ok rfl rfl rfl ?_
        refine op_wrap rfl rfl rfl (by omega) ?_
        refine op_ok rfl rfl rfl ?_
        refine w_end (keep_c rfl (keep_c rfl (keep_c rfl (keep_c rfl (keep_nil _))))) (w_roundN ?_ ?_)
        · refine ⟨rfl, c + 1, hlt, next (fun _ => ?_), rfl⟩
          simp at c2; omega
        · show ls.length - ((c : Int) + 1).toNat < ls.length - (c : Int).toNat
          omega
  ·
    have he : c = ls.length := by have := of_decide_eq_false hc; omega
    subst he
    refine w_end (keep_c rfl (keep_c rfl (keep_c rfl (keep_c rfl (keep_c rfl (keep_nil _)))))) (w_seqN (w_condF rfl (w_exit ?_)))
    exact ⟨rfl, rfl, hok⟩

end Go.Proofs.YtehnalbdfnmphaaDoor
