/- The reference's Valid: the test of the signs. -/
import Derived.Test.YtehnalbdfnmphaaDoorLab2
import Derived.Test.YtehnalbdfnmphaaDoorFaces2
namespace Go.Proofs.YtehnalbdfnmphaaDoor
open Go.Ab
set_option linter.unusedVariables false
set_option maxRecDepth 20000
set_option maxHeartbeats 2000000
variable {HK : FuncId → Option Hook}

/-- A Diagram in a block of its own at memory's end. -/
def DB (h0 : Heap) (s m : SV) (l : Int) : Heap := h0 ++ [.cells [s, m, .int .i64 l] true 0]

theorem DB_s {h0 : Heap} {s m : SV} {l : Int} : readN (DB h0 s m l) h0.length (0 + 0) 1 = some [s] := rd_last rfl
theorem DB_m {h0 : Heap} {s m : SV} {l : Int} : readN (DB h0 s m l) h0.length (0 + 1) 1 = some [m] := rd_last rfl
theorem DB_l {h0 : Heap} {s m : SV} {l : Int} : readN (DB h0 s m l) h0.length (0 + 2) 1 = some [.int .i64 l] := rd_last rfl
theorem DB_mono {h0 : Heap} {s m : SV} {l : Int} (i : Nat) (b : Blk) (hb : h0[i]? = some b) : (DB h0 s m l)[i]? = some b := mono_app i b hb

def Sgn (x : Int) : Prop := x = 1 ∨ x = -1

def I13a (h0 : Heap) (s m : SV) (l : Int) (xs : List Int) (E : Env) (hp : Heap) : Prop := hp = DB h0 s m l ∧ ∃ c : Nat, c ≤ xs.length ∧ (∀ x ∈ xs.take c, Sgn x) ∧
  E = [(1, some (.sc (.ptr h0.length 0))), (3, some (.sc (.int .i64 xs.length))), (4, some (.sc (.int .i64 c)))]
def μ13a (n : Nat) (E : Env) (_ : Heap) : Nat := match E.get 4 with
  | some (.sc (.int _ i)) => n - i.toNat
  | _ => 0
def R13a (h0 : Heap) (s m : SV) (l : Int) (xs : List Int) (ex : Ex) (E : Env) (hp : Heap) : Prop := hp = DB h0 s m l ∧ match ex with
  | .rt => E.get 2 = some (.sc (.bool false)) ∧ ¬ ∀ x ∈ xs, Sgn x
  | .ex i => i = 0 ∧ (∀ x ∈ xs, Sgn x) ∧ ∃ t, E = (1, some (.sc (.ptr h0.length 0))) :: (3, some (.sc (.int .i64 xs.length))) :: t
  | .nm => False

theorem round13a (h0 : Heap) (s m : SV) (l : Int) (xs : List Int) (hs : IsInts h0 s xs) (hn : xs.length ≤ 1000) (E : Env) (hp : Heap) (hI : I13a h0 s m l xs E hp) :
    wA FT HK b13L0 (E.keep [1, 3, 4]) hp (wRound (I13a h0 s m l xs) (μ13a xs.length) (μ13a xs.length E hp) (R13a h0 s m l xs)) := by
  obtain ⟨rfl, c, hi, hf, rfl⟩ := hI
  refine w_seq (w_seq (w_ops ?_))
  refine op_ok rfl rfl rfl ?_
  refine op_ok rfl rfl rfl ?_
  refine op_test rfl rfl rfl (fun hc => ?_) (fun hc => ?_)
  ·
    have hlt : c < xs.length := by have := of_decide_eq_true hc; omega
    obtain ⟨x, hx⟩ : ∃ x, xs[c]? = some x := ⟨_, List.getElem?_eq_getElem hlt⟩
    obtain ⟨id, off, cap, rfl, hr⟩ := IsInts.at (IsSl.mono hs (DB_mono (s := s) (m := m) (l := l))) hx
    have htk : xs.take (c + 1) = xs.take c ++ [x] := take_snoc hx
    have next : Sgn x → ∀ y ∈ xs.take (c + 1), Sgn y := fun h y hy => by
      rw [htk] at hy
      rcases List.mem_append.1 hy with hy | hy
      · exact hf y hy
      · simp at hy; subst hy; exact h
    refine w_end (keep_c rfl (keep_c rfl (keep_c rfl (keep_c rfl (keep_nil _))))) (w_seqN (w_condT rfl (w_skip (w_seqN (w_seq (w_blk (w_seq (w_ops ?_))))))))
    refine op_ok rfl rfl rfl ?_
    refine op_ld rfl rfl DB_s ?_
    refine op_ok rfl rfl rfl ?_
    refine op_idxA rfl rfl rfl ⟨by omega, by omega⟩ ?_
    refine op_ld rfl rfl hr ?_
    refine op_test rfl rfl rfl (fun c1 => ?_) (fun c1 => ?_)
    ·
      have n1 : x ≠ 1 := fun e => by rw [e] at c1; simp at c1
      refine op_ok rfl rfl rfl ?_
      refine op_ok rfl rfl rfl ?_
      refine op_ld rfl rfl DB_s ?_
      refine op_ok rfl rfl rfl ?_
      refine op_idxA rfl rfl rfl ⟨by omega, by omega⟩ ?_
      refine op_ld rfl rfl hr ?_
      refine op_test rfl rfl rfl (fun c2 => ?_) (fun c2 => ?_)
      ·
        have n2 : x ≠ -1 := fun e => by rw [e] at c2; simp at c2
        repeat (first | refine op_skip rfl ?_ | refine op_ok rfl rfl rfl ?_)
        refine w_end (keep_c rfl (keep_c rfl (keep_c rfl (keep_c rfl (keep_nil _))))) (w_seqN (w_condT rfl (w_seq (w_ops ?_))))
        refine op_ok rfl rfl rfl ?_
        refine w_end (keep_c rfl (keep_nil _)) (w_seqN (w_ret ?_))
        refine ⟨rfl, rfl, fun h => ?_⟩
        rcases h x (List.mem_of_getElem? hx) with h | h
        · exact n1 h
        · exact n2 h
      ·
        have e2 : x = -1 := by simpa using c2
        repeat (first | refine op_skip rfl ?_ | refine op_ok rfl rfl rfl ?_)
        refine w_end (keep_c rfl (keep_c rfl (keep_c rfl (keep_c rfl (keep_nil _))))) (w_seqN (w_condF rfl (w_skip (w_blkN (w_seqN (w_ops ?_))))))
        refine op_ok rfl rfl rfl ?_
        refine op_wrap rfl rfl rfl (by omega) ?_
        refine op_ok rfl rfl rfl ?_
        refine w_end (keep_c rfl (keep_c rfl (keep_c rfl (keep_nil _)))) (w_roundN ?_ ?_)
        · exact ⟨rfl, c + 1, hlt, next (.inr e2), rfl⟩
        · show xs.length - ((c : Int) + 1).toNat < xs.length - (c : Int).toNat
          omega
    ·
      have e1 : x = 1 := by simpa using c1
      repeat (first | refine op_skip rfl ?_ | refine op_ok rfl rfl rfl ?_)
      refine w_end (keep_c rfl (keep_c rfl (keep_c rfl (keep_c rfl (keep_nil _))))) (w_seqN (w_condF rfl (w_skip (w_blkN (w_seqN (w_ops ?_))))))
      refine op_ok rfl rfl rfl ?_
      refine op_wrap rfl rfl rfl (by omega) ?_
      refine op_ok rfl rfl rfl ?_
      refine w_end (keep_c rfl (keep_c rfl (keep_c rfl (keep_nil _)))) (w_roundN ?_ ?_)
      · exact ⟨rfl, c + 1, hlt, next (.inl e1), rfl⟩
      · show xs.length - ((c : Int) + 1).toNat < xs.length - (c : Int).toNat
        omega
  ·
    have he : c = xs.length := by have := of_decide_eq_false hc; omega
    subst he
    rw [List.take_length] at hf
    refine w_end (keep_c rfl (keep_c rfl (keep_c rfl (keep_c rfl (keep_nil _))))) (w_seqN (w_condF rfl (w_exit ?_)))
    exact ⟨rfl, rfl, hf, _, rfl⟩

/-! ### Counting the crossings with a label -/
def I13v (hp : Heap) (lab fac : SV) (c f : Int) (ls : List Int) (E : Env) (hp' : Heap) : Prop := hp' = hp ∧ ∃ b : Nat, b ≤ ls.length ∧
  E = [(3, some (.sc (.int .i64 ls.length))), (7, some (.sc lab)), (8, some (.sc fac)), (9, some (.sc (.int .i64 c))), (10, some (.sc (.int .i64 ((ls.take b).countP fun y => y == c)))), (11, some (.sc (.int .i64 f))), (12, some (.sc (.int .i64 b)))]
def μ13v (n : Nat) (E : Env) (_ : Heap) : Nat := match E.get 12 with
  | some (.sc (.int _ i)) => n - i.toNat
  | _ => 0
def R13v (hp : Heap) (lab fac : SV) (c f : Int) (ls : List Int) (ex : Ex) (E : Env) (hp' : Heap) : Prop := hp' = hp ∧ ex = .ex 6 ∧ ∃ t,
  E = (3, some (.sc (.int .i64 ls.length))) :: (7, some (.sc lab)) :: (8, some (.sc fac)) :: (9, some (.sc (.int .i64 c))) :: (10, some (.sc (.int .i64 (ls.countP fun y => y == c)))) :: (11, some (.sc (.int .i64 f))) :: t

theorem round13v (hp : Heap) (lab fac : SV) (c f : Int) (ls : List Int) (hs : IsInts hp lab ls) (hn : ls.length ≤ 1000) (E : Env) (hp' : Heap) (hI : I13v hp lab fac c f ls E hp') :
    wA FT HK b13L3 (E.keep [3, 7, 8, 9, 10, 11, 12]) hp' (wRound (I13v hp lab fac c f ls) (μ13v ls.length) (μ13v ls.length E hp') (R13v hp lab fac c f ls)) := by
  obtain ⟨rfl, b, hi, rfl⟩ := hI
  have hcl : (ls.take b).countP (fun y => y == c) ≤ ls.length := Nat.le_trans List.countP_le_length (by simp; omega)
  refine w_seq (w_seq (w_ops ?_))
  refine op_ok rfl rfl rfl ?_
  refine op_ok rfl rfl rfl ?_
  refine op_test rfl rfl rfl (fun hc => ?_) (fun hc => ?_)
  ·
    have hlt : b < ls.length := by have := of_decide_eq_true hc; omega
    obtain ⟨x, hx⟩ : ∃ x, ls[b]? = some x := ⟨_, List.getElem?_eq_getElem hlt⟩
    obtain ⟨id, off, cap, rfl, hr⟩ := IsInts.at hs hx
    have hadd : (ls.take (b + 1)).countP (fun y => y == c) = (ls.take b).countP (fun y => y == c) + if (x == c) = true then 1 else 0 := by
      rw [take_snoc hx, List.countP_append]; simp [List.countP_cons]
    refine w_end (keep_c rfl (keep_c rfl (keep_c rfl (keep_c rfl (keep_c rfl (keep_c rfl (keep_c rfl (keep_c rfl (keep_nil _))))))))) (w_seqN (w_condT rfl (w_skip (w_seqN (w_seq (w_blk (w_seq (w_ops ?_))))))))
    refine op_ok rfl rfl rfl ?_
    refine op_ok rfl rfl rfl ?_
    refine op_idxA rfl rfl rfl ⟨by omega, by omega⟩ ?_
    refine op_ld rfl rfl hr ?_
    refine op_ok rfl rfl rfl ?_
    refine op_test rfl rfl rfl (fun c1 => ?_) (fun c1 => ?_)
    ·
      rw [if_pos c1] at hadd
      refine w_end (keep_c rfl (keep_c rfl (keep_c rfl (keep_c rfl (keep_c rfl (keep_c rfl (keep_c rfl (keep_c rfl (keep_nil _))))))))) (w_seqN (w_condT rfl (w_ops ?_)))
      refine op_ok rfl rfl rfl ?_
      refine op_wrap rfl rfl rfl (by omega) ?_
      refine op_ok rfl rfl rfl ?_
      refine w_end (keep_c rfl (keep_c rfl (keep_c rfl (keep_c rfl (keep_c rfl (keep_c rfl (keep_c rfl (keep_nil _)))))))) (w_blkN (w_seqN (w_ops ?_)))
      refine op_ok rfl rfl rfl ?_
      refine op_wrap rfl rfl rfl (by omega) ?_
      refine op_ok rfl rfl rfl ?_
      refine w_end (keep_c rfl (keep_c rfl (keep_c rfl (keep_c rfl (keep_c rfl (keep_c rfl (keep_c rfl (keep_nil _)))))))) (w_roundN ?_ ?_)
      · exact ⟨rfl, b + 1, hlt, by rw [hadd]; rfl⟩
      · show ls.length - ((b : Int) + 1).toNat < ls.length - (b : Int).toNat
        omega
    ·
      rw [if_neg (by rw [c1]; simp)] at hadd
      refine w_end (keep_c rfl (keep_c rfl (keep_c rfl (keep_c rfl (keep_c rfl (keep_c rfl (keep_c rfl (keep_c rfl (keep_nil _))))))))) (w_seqN (w_condF rfl (w_skip (w_blkN (w_seqN (w_ops ?_))))))
      refine op_ok rfl rfl rfl ?_
      refine op_wrap rfl rfl rfl (by omega) ?_
      refine op_ok rfl rfl rfl ?_
      refine w_end (keep_c rfl (keep_c rfl (keep_c rfl (keep_c rfl (keep_c rfl (keep_c rfl (keep_c rfl (keep_nil _)))))))) (w_roundN ?_ ?_)
      · exact ⟨rfl, b + 1, hlt, by rw [hadd]; rfl⟩
      · show ls.length - ((b : Int) + 1).toNat < ls.length - (b : Int).toNat
        omega
  ·
    have he : b = ls.length := by have := of_decide_eq_false hc; omega
    subst he
    refine w_end (keep_c rfl (keep_c rfl (keep_c rfl (keep_c rfl (keep_c rfl (keep_c rfl (keep_c rfl (keep_c rfl (keep_nil _))))))))) (w_seqN (w_condF rfl (w_exit ?_)))
    exact ⟨rfl, rfl, _, by rw [List.take_length]⟩

/-! ### Counting the faces with a label -/
theorem f2_at {α β : Type} {R : α → β → Prop} : ∀ {l : List α} {m : List β}, F2 R l m → ∀ {i : Nat} {b : β}, m[i]? = some b → ∃ a, l[i]? = some a ∧ R a b
  | _, _, .nil, i, b, h => by simp at h
  | _, _, .cons h t, 0, b, hb => by
    simp at hb; subst hb
    exact ⟨_, rfl, h⟩
  | _, _, .cons h t, i + 1, b, hb => f2_at t (by simpa using hb)

theorem FaceAt.read {ms : List Int} {hp : Heap} {o f : SV} {h : Nat} (hf : FaceAt ms hp o f h) : ∃ id n cap, f = .slc id 0 (n + 1) cap ∧ readN hp id (0 + (0 : Int).toNat * 1) 1 = some [.int .i64 h] := by
  obtain ⟨h1, k, h2, id, cap, cs, h3, h4, h5, h6⟩ := hf
  have hl : ((orb (phi ms) h k).map (SV.int .i64)).length = k + 1 := by simp [orb_len]
  rw [hl] at h3 h5
  refine ⟨id, k, cap, h3, ?_⟩
  have h7 : cs[0]? = some (.int .i64 h) := by
    have : (cs.take (k + 1))[0]? = some (.int .i64 h) := by rw [h5]; simp [orb, it]
    rwa [List.getElem?_take_of_lt (by omega)] at this
  obtain ⟨h8, h9⟩ := List.getElem?_eq_some_iff.1 h7
  unfold readN
  rw [h4]
  show cut cs 0 1 = _
  unfold cut
  rw [if_pos (by omega)]
  rw [List.drop_eq_getElem_cons h8, h9]; rfl

theorem Own.at {h0 hp : Heap} {o : SV} {fs : List SV} (ho : Own h0 hp o fs) {i : Nat} {f : SV} (hf : fs[i]? = some f) : ∃ id cap, o = .slc id 0 fs.length cap ∧ readN hp id (0 + ((i : Nat) : Int).toNat * 1) 1 = some [f] := by
  have hl := (List.getElem?_eq_some_iff.1 hf).1
  rcases ho with ⟨rfl, rfl⟩ | ⟨id, cap, cs, rfl, h1, h2, h3, h4⟩
  · simp at hl
  · refine ⟨id, cap, rfl, ?_⟩
    have h7 : cs[i]? = some f := by
      have : (cs.take fs.length)[i]? = some f := by rw [h3]; exact hf
      rwa [List.getElem?_take_of_lt hl] at this
    obtain ⟨h8, h9⟩ := List.getElem?_eq_some_iff.1 h7
    unfold readN
    rw [h2, Int.toNat_natCast, Nat.mul_one, Nat.zero_add]
    show cut cs i 1 = _
    unfold cut
    rw [if_pos (by omega), List.drop_eq_getElem_cons h8, h9]; rfl

/-- Has the crossing of half-edge h this label? -/
def labAt (ls : List Int) (c : Int) (h : Nat) : Bool := ls.getD (h / 4) 0 == c

def I13f (hp : Heap) (lab fac : SV) (c v : Int) (n : Nat) (ls : List Int) (hs : List Nat) (E : Env) (hp' : Heap) : Prop := hp' = hp ∧ ∃ b : Nat, b ≤ hs.length ∧
  E = [(3, some (.sc (.int .i64 n))), (7, some (.sc lab)), (8, some (.sc fac)), (9, some (.sc (.int .i64 c))), (10, some (.sc (.int .i64 v))), (11, some (.sc (.int .i64 ((hs.take b).countP (labAt ls c))))), (13, some (.sc (.int .i64 b)))]
def μ13f (n : Nat) (E : Env) (_ : Heap) : Nat := match E.get 13 with
  | some (.sc (.int _ i)) => n - i.toNat
  | _ => 0
def R13f (hp : Heap) (lab fac : SV) (c v : Int) (n : Nat) (ls : List Int) (hs : List Nat) (ex : Ex) (E : Env) (hp' : Heap) : Prop := hp' = hp ∧ ex = .ex 8 ∧ ∃ t,
  E = (3, some (.sc (.int .i64 n))) :: (7, some (.sc lab)) :: (8, some (.sc fac)) :: (9, some (.sc (.int .i64 c))) :: (10, some (.sc (.int .i64 v))) :: (11, some (.sc (.int .i64 (hs.countP (labAt ls c))))) :: t

theorem round13f (h0 hp : Heap) (lab fac : SV) (c v : Int) (n : Nat) (ls ms : List Int) (fs : List SV) (hs : List Nat) (hl : IsInts hp lab ls) (ho : Own h0 hp fac fs) (hF : F2 (FaceAt ms hp fac) fs hs) (hn : hs.length ≤ 1000) (h4 : ls.length * 4 = ms.length)
    (hml : ms.length ≤ 4000) (E : Env) (hp' : Heap) (hI : I13f hp lab fac c v n ls hs E hp') :
    wA FT HK b13L4 (E.keep [3, 7, 8, 9, 10, 11, 13]) hp' (wRound (I13f hp lab fac c v n ls hs) (μ13f hs.length) (μ13f hs.length E hp') (R13f hp lab fac c v n ls hs)) := by
  obtain ⟨rfl, b, hi, rfl⟩ := hI
  have hlen := f2_length hF
  have hcl : (hs.take b).countP (labAt ls c) ≤ hs.length := Nat.le_trans List.countP_le_length (by simp; omega)
  refine w_seq (w_seq (w_ops ?_))
  refine op_ok rfl rfl rfl ?_
  refine op_ok rfl rfl rfl ?_
  refine op_len (n := (hs.length : Int)) rfl rfl (by rw [Own.len ho, hlen]) ?_
  refine op_test rfl rfl rfl (fun hc => ?_) (fun hc => ?_)
  ·
    have hlt : b < hs.length := by have := of_decide_eq_true hc; omega
    obtain ⟨h, hx⟩ : ∃ h, hs[b]? = some h := ⟨_, List.getElem?_eq_getElem hlt⟩
    obtain ⟨f, hf1, hf2⟩ := f2_at hF hx
    obtain ⟨id1, cap1, rfl, hr1⟩ := Own.at ho hf1
    obtain ⟨id2, k2, cap2, rfl, hr2⟩ := FaceAt.read hf2
    have hh := hf2.1
    obtain ⟨x, hx3⟩ : ∃ x, ls[h / 4]? = some x := ⟨_, List.getElem?_eq_getElem (by omega)⟩
    obtain ⟨id3, off3, cap3, rfl, hr3⟩ := IsInts.at hl hx3
    have hr4 : readN hp' id3 (off3 + ((h / 4 : Nat) : Int).toNat * 1) 1 = some [.int .i64 x] := by rw [Int.toNat_natCast]; exact hr3
    have hlab : labAt ls c h = (x == c) := by unfold labAt; rw [getD_at hx3]
    have hadd : (hs.take (b + 1)).countP (labAt ls c) = (hs.take b).countP (labAt ls c) + if (x == c) = true then 1 else 0 := by
      rw [take_snoc hx, List.countP_append, ← hlab]; simp [List.countP_cons]
    refine w_end (keep_c rfl (keep_c rfl (keep_c rfl (keep_c rfl (keep_c rfl (keep_c rfl (keep_c rfl (keep_c rfl (keep_nil _))))))))) (w_seqN (w_condT rfl (w_skip (w_seqN (w_seq (w_blk (w_seq (w_ops ?_))))))))
    refine op_ok rfl rfl rfl ?_
    refine op_ok rfl rfl rfl ?_
    refine op_ok rfl rfl rfl ?_
    refine op_idxA rfl rfl rfl ⟨by omega, by omega⟩ ?_
    refine op_ld rfl rfl hr1 ?_
    refine op_idxA rfl rfl rfl ⟨by omega, by omega⟩ ?_
    refine op_ld rfl rfl hr2 ?_
    refine op_eq rfl rfl rfl (y := .int .i64 ((h / 4 : Nat) : Int)) (by rw [wrapI, show (4 : Int) = ((4 : Nat) : Int) from rfl, quo_nat, wrap_in (by omega)]) ?_
    refine op_idxA rfl rfl rfl ⟨by omega, by omega⟩ ?_
    refine op_ld rfl rfl hr4 ?_
    refine op_ok rfl rfl rfl ?_
    refine op_test rfl rfl rfl (fun c1 => ?_) (fun c1 => ?_)
    ·
      rw [if_pos c1] at hadd
      refine w_end (keep_c rfl (keep_c rfl (keep_c rfl (keep_c rfl (keep_c rfl (keep_c rfl (keep_c rfl (keep_c rfl (keep_nil _))))))))) (w_seqN (w_condT rfl (w_ops ?_)))
      refine op_ok rfl rfl rfl ?_
      refine op_wrap rfl rfl rfl (by omega) ?_
      refine op_ok rfl rfl rfl ?_
      refine w_end (keep_c rfl (keep_c rfl (keep_c rfl (keep_c rfl (keep_c rfl (keep_c rfl (keep_c rfl (keep_nil _)))))))) (w_blkN (w_seqN (w_ops ?_)))
      refine op_ok rfl rfl rfl ?_
      refine op_wrap rfl rfl rfl (by omega) ?_
      refine op_ok rfl rfl rfl ?_
      refine w_end (keep_c rfl (keep_c rfl (keep_c rfl (keep_c rfl (keep_c rfl (keep_c rfl (keep_c rfl (keep_nil _)))))))) (w_roundN ?_ ?_)
      · exact ⟨rfl, b + 1, hlt, by rw [hadd]; rfl⟩
      · show hs.length - ((b : Int) + 1).toNat < hs.length - (b : Int).toNat
        omega
    ·
      rw [if_neg (by rw [c1]; simp)] at hadd
      refine w_end (keep_c rfl (keep_c rfl (keep_c rfl (keep_c rfl (keep_c rfl (keep_c rfl (keep_c rfl (keep_c rfl (keep_nil _))))))))) (w_seqN (w_condF rfl (w_skip (w_blkN (w_seqN (w_ops ?_))))))
      refine op_ok rfl rfl rfl ?_
      refine op_wrap rfl rfl rfl (by omega) ?_
      refine op_ok rfl rfl rfl ?_
      refine w_end (keep_c rfl (keep_c rfl (keep_c rfl (keep_c rfl (keep_c rfl (keep_c rfl (keep_c rfl (keep_nil _)))))))) (w_roundN ?_ ?_)
      · exact ⟨rfl, b + 1, hlt, by rw [hadd]; rfl⟩
      · show hs.length - ((b : Int) + 1).toNat < hs.length - (b : Int).toNat
        omega
  ·
    have he : b = hs.length := by have := of_decide_eq_false hc; omega
    subst he
    refine w_end (keep_c rfl (keep_c rfl (keep_c rfl (keep_c rfl (keep_c rfl (keep_c rfl (keep_c rfl (keep_c rfl (keep_nil _))))))))) (w_seqN (w_condF rfl (w_exit ?_)))
    exact ⟨rfl, rfl, _, by rw [List.take_length]⟩

end Go.Proofs.YtehnalbdfnmphaaDoor
