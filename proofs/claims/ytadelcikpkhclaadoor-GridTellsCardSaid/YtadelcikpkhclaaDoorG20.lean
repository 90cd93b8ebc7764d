/- Contracts: the reference's Components; plainly: labels are the first of their orbits. -/
import Derived.Test.YtadelcikpkhclaaDoorG19
namespace Go.Proofs.YtadelcikpkhclaaDoor
open Go.Ab
set_option linter.unusedVariables false
set_option maxRecDepth 20000
attribute [local irreducible] wOps wA wSeq wBlk wRound wOpsD
variable {HK : FuncId → Option Hook}

/-! ### Labels -/
def stepF (f L : Nat → Nat) (i : Nat) : Nat → Nat := fun k => if k = f i ∨ k = i then min (L i) (L (f i)) else L k
def passF (f L : Nat → Nat) : Nat → Nat → Nat
  | 0 => L
  | m + 1 => stepF f (passF f L m) m
def iterF (f : Nat → Nat) (n : Nat) : Nat → Nat → Nat
  | 0 => fun k => k
  | p + 1 => passF f (iterF f n p) n
theorem stepF_le (f L : Nat → Nat) (i k : Nat) : stepF f L i k ≤ L k := by
  unfold stepF
  split
  · rename_i h
    rcases h with rfl | rfl <;> omega
  · exact Nat.le_refl _
theorem stepF_to (f L : Nat → Nat) (i : Nat) : stepF f L i (f i) ≤ L i := by
  unfold stepF; rw [if_pos (.inl rfl)]; omega
theorem passF_le (f L : Nat → Nat) : ∀ m k, passF f L m k ≤ L k
  | 0, k => Nat.le_refl _
  | m + 1, k => Nat.le_trans (stepF_le f _ m k) (passF_le f L m k)
theorem passF_to (f L : Nat → Nat) : ∀ m i, i < m → passF f L m (f i) ≤ L i
  | 0, i, h => by omega
  | m + 1, i, h => by
    by_cases e : i = m
    · subst e
      exact Nat.le_trans (stepF_to f _ i) (passF_le f L i i)
    · exact Nat.le_trans (stepF_le f _ m _) (passF_to f L m i (by omega))
theorem iterF_le (f : Nat → Nat) (n : Nat) : ∀ p q k, iterF f n (p + q) k ≤ iterF f n p k
  | p, 0, k => Nat.le_refl _
  | p, q + 1, k => Nat.le_trans (passF_le f _ n k) (iterF_le f n p q k)
theorem iterF_to {f : Nat → Nat} {n : Nat} (hl : ∀ h, h < n → f h < n) {j : Nat} (hj : j < n) : ∀ p, iterF f n p (it f p j) ≤ j
  | 0 => Nat.le_refl _
  | p + 1 => Nat.le_trans (passF_to f (iterF f n p) n (it f p j) (it_lt hl hj p)) (iterF_to hl hj p)
/-- A label is one of the orbit. -/
def Jn (f : Nat → Nat) (n : Nat) (L : Nat → Nat) : Prop := ∀ k, k < n → L k < n ∧ Rch f (L k) k
theorem Jn.step {f L : Nat → Nat} {n i : Nat} (hi : Inj n f) (hl : ∀ h, h < n → f h < n) (h : Jn f n L) (hin : i < n) : Jn f n (stepF f L i) := by
  intro k hk
  unfold stepF
  split
  · rename_i e
    obtain ⟨a1, a2⟩ := h i hin
    obtain ⟨b1, b2⟩ := h (f i) (hl i hin)
    have back : Rch f (f i) i := (Rch.step f i).symm hi hl hin
    have hm : min (L i) (L (f i)) = L i ∨ min (L i) (L (f i)) = L (f i) := by omega
    rcases e with rfl | rfl
    · rcases hm with e | e
      · rw [e]; exact ⟨a1, a2.trans (Rch.step f i)⟩
      · rw [e]; exact ⟨b1, b2⟩
    · rcases hm with e | e
      · rw [e]; exact ⟨a1, a2⟩
      · rw [e]; exact ⟨b1, b2.trans back⟩
  · exact h k hk
theorem Jn.pass {f L : Nat → Nat} {n : Nat} (hi : Inj n f) (hl : ∀ h, h < n → f h < n) (h : Jn f n L) : ∀ m, m ≤ n → Jn f n (passF f L m)
  | 0, _ => h
  | m + 1, hm => (Jn.pass hi hl h m (by omega)).step hi hl (by omega)
theorem Jn.iter {f : Nat → Nat} {n : Nat} (hi : Inj n f) (hl : ∀ h, h < n → f h < n) : ∀ p, Jn f n (iterF f n p)
  | 0 => fun k hk => ⟨hk, Rch.refl f k⟩
  | p + 1 => (Jn.iter hi hl p).pass hi hl n (Nat.le_refl _)
theorem label_first {f : Nat → Nat} {n : Nat} (hi : Inj n f) (hl : ∀ h, h < n → f h < n) {k : Nat} (hk : k < n) : iterF f n n k = k ↔ First f k := by
  have key : ∀ j, j < n → Rch f j k → iterF f n n k ≤ j := by
    rintro j hj ⟨m, rfl⟩
    obtain ⟨p, h1, h2, h3⟩ := it_back hi hl hj
    have hm : it f m j = it f (m % p) j := by
      conv => lhs; rw [← Nat.mod_add_div m p, Nat.mul_comm p, it_add, it_mul h3]
    have hlt := Nat.mod_lt m (show 0 < p by omega)
    rw [hm]
    have := iterF_le f n (m % p) (n - m % p) (it f (m % p) j)
    rw [show m % p + (n - m % p) = n by omega] at this
    exact Nat.le_trans this (iterF_to hl hj (m % p))
  constructor
  · intro e i hik hr
    have := key i (by omega) hr
    omega
  · intro hF
    obtain ⟨a1, a2⟩ := Jn.iter hi hl n k hk
    have h1 := key k hk (Rch.refl f k)
    by_cases e : iterF f n n k = k
    · exact e
    · exact (hF _ (by omega) a2).elim

/-- A list of labels. -/
def lst (n : Nat) (L : Nat → Nat) : List Int := (List.range n).map fun k => (L k : Int)
theorem lst_len (n : Nat) (L : Nat → Nat) : (lst n L).length = n := by simp [lst]
theorem lst_get {n k : Nat} {L : Nat → Nat} (h : k < n) : (lst n L)[k]? = some (L k : Int) := by simp [lst, h]
theorem lst_set {n i : Nat} {L : Nat → Nat} (h : i < n) (v : Nat) : (lst n L).set i (v : Int) = lst n (fun k => if k = i then v else L k) := by
  apply List.ext_getElem?
  intro k
  by_cases hk : k < n
  · rw [lst_get hk, List.getElem?_set, lst_len]
    by_cases e : i = k
    · subst e; rw [if_pos rfl, if_pos h, if_pos rfl]
    · rw [if_neg e, lst_get hk, if_neg (Ne.symm e)]
  · rw [List.getElem?_eq_none (by rw [List.length_set, lst_len]; omega), List.getElem?_eq_none (by rw [lst_len]; omega)]
theorem lst_congr {n : Nat} {L M : Nat → Nat} (h : ∀ k, k < n → L k = M k) : lst n L = lst n M := by
  apply List.ext_getElem?
  intro k
  by_cases hk : k < n
  · rw [lst_get hk, lst_get hk, h k hk]
  · rw [List.getElem?_eq_none (by rw [lst_len]; omega), List.getElem?_eq_none (by rw [lst_len]; omega)]
theorem lst_step {n i : Nat} {f L : Nat → Nat} (hi : i < n) (hf : f i < n) : ((lst n L).set i ((min (L i) (L (f i)) : Nat) : Int)).set (f i) ((min (L i) (L (f i)) : Nat) : Int) = lst n (stepF f L i) := by
  rw [lst_set hi, lst_set hf]
  refine lst_congr fun k _ => ?_
  unfold stepF
  by_cases e1 : k = f i
  · simp [e1]
  · by_cases e2 : k = i
    · simp [e2]
    · simp [e1, e2]
theorem intsset (xs : List Int) (i : Nat) (v : Int) : (ints xs).set i (.int .i64 v) = ints (xs.set i v) := by simp only [ints, List.map_set]

abbrev EA (p : Nat) (t : SV) (i : Nat) : Env := [(1, some (.sc (.ptr p 0))), (3, some (.sc t)), (4, some (.sc (.int .i64 i)))]
def I17a (B : Heap) (p n : Nat) (t : SV) (E : Env) (h : Heap) : Prop := ∃ i : Nat, i ≤ n ∧ Own B h t (ints (lst n fun k => if k < i then k else 0)) ∧ Ext B h ∧ E = EA p t i
def R17a (B : Heap) (p n : Nat) (t : SV) (ex : Ex) (E : Env) (h : Heap) : Prop := ex = .ex 0 ∧ Own B h t (ints (lst n fun k => k)) ∧ Ext B h ∧ ∃ a, E = [(1, some (.sc (.ptr p 0))), (3, some (.sc t)), (4, a), (18, some (.sc (.bool false)))]
theorem round17a (B : Heap) (p n : Nat) (t : SV) (hn : n ≤ 100) (E : Env) (h : Heap) (hI : I17a B p n t E h) :
    wA FT HK b17L0 (E.keep [1, 3, 4]) h (wRound (I17a B p n t) (cnt n 4) (cnt n 4 E h) (R17a B p n t)) := by
  obtain ⟨i, hi, ho, he, rfl⟩ := hI
  have hln := Own.len ho
  rw [List.length_map, lst_len] at hln
  by_cases hlt : i < n
  · have hml : (ints (lst n fun k => if k < i then k else 0)).length = n := by rw [List.length_map, lst_len]
    obtain ⟨idw, capw, h2, ew, hw2, how, hew, hfw, hlw⟩ := Own.wr he ho (i := i) (by rw [hml]; exact hlt) (.int .i64 (i : Int))
    cases ew
    repeat' (first
      | refine w_seq ?_
      | refine w_seqN ?_
      | refine w_seqX ?_
      | refine w_seqR ?_
      | refine w_blk ?_
      | refine w_blkN ?_
      | refine w_blkX ?_
      | refine w_blkR ?_
      | refine w_skip ?_
      | refine w_ret ?_
      | refine w_exit ?_
      | refine w_ops ?_
      | refine w_opsD ?_
      | refine d_one ?_
      | refine d_nil ?_
      | ((refine i_cond ?_); first | refine w_condT rfl ?_ | refine w_condF rfl ?_)
      | ((refine i_nil ?_); first | refine d_same ?_ | refine d_ord ?_ | refine d_ext ⟨_, rfl⟩ ?_ | refine d_ext (extA _ _ _) ?_ | refine d_ext (by assumption) ?_ | refine w_end0 ?_ | refine w_end1 rfl ?_ | refine w_end2 rfl rfl ?_ | refine w_end3 rfl rfl rfl ?_ | refine w_end4 rfl rfl rfl rfl ?_ | refine w_end5 rfl rfl rfl rfl rfl ?_ | refine w_end6 rfl rfl rfl rfl rfl rfl ?_ | refine w_end7 rfl rfl rfl rfl rfl rfl rfl ?_ | refine w_end8 rfl rfl rfl rfl rfl rfl rfl rfl ?_ | refine w_end9 rfl rfl rfl rfl rfl rfl rfl rfl rfl ?_ | refine w_end10 rfl rfl rfl rfl rfl rfl rfl rfl rfl rfl ?_ | refine w_end11 rfl rfl rfl rfl rfl rfl rfl rfl rfl rfl rfl ?_ | refine w_end12 rfl rfl rfl rfl rfl rfl rfl rfl rfl rfl rfl rfl ?_ | refine w_end13 rfl rfl rfl rfl rfl rfl rfl rfl rfl rfl rfl rfl rfl ?_ | refine w_end14 rfl rfl rfl rfl rfl rfl rfl rfl rfl rfl rfl rfl rfl rfl ?_ | refine w_end15 rfl rfl rfl rfl rfl rfl rfl rfl rfl rfl rfl rfl rfl rfl rfl ?_ | refine w_end16 rfl rfl rfl rfl rfl rfl rfl rfl rfl rfl rfl rfl rfl rfl rfl rfl ?_)
      | ((refine i_cons ?_); first
        | refine k_len rfl hln ?_
        | refine k_idxA rfl rfl (by omega) ?_
        | refine k_st rfl rfl hw2 ?_
        | refine k_skip rfl ?_
        | refine k_want rfl ?_
        | refine k_mv rfl ?_
        | refine k_pickT rfl rfl ?_
        | refine k_pickF rfl rfl ?_
        | refine k_notT rfl ?_
        | refine k_notF rfl ?_
        | refine k_add rfl rfl (by omega) ?_
        | refine k_sub rfl rfl (by omega) ?_
        | refine k_mul rfl rfl (by omega) ?_
        | refine k_neg rfl (by omega) ?_
        | refine k_quo rfl rfl (by omega) ?_
        | refine k_rem rfl rfl (by omega) ?_
        | refine k_conv rfl (by omega) ?_
        | refine k_max rfl rfl ?_
        | refine k_min rfl rfl ?_
        | refine k_lssT rfl rfl (by omega) ?_
        | refine k_lssF rfl rfl (by omega) ?_
        | refine k_lss rfl rfl (fun hc => ?_) (fun hc => ?_)
        | refine k_leqT rfl rfl (by omega) ?_
        | refine k_leqF rfl rfl (by omega) ?_
        | refine k_leq rfl rfl (fun hc => ?_) (fun hc => ?_)
        | refine k_gtrT rfl rfl (by omega) ?_
        | refine k_gtrF rfl rfl (by omega) ?_
        | refine k_gtr rfl rfl (fun hc => ?_) (fun hc => ?_)
        | refine k_geqT rfl rfl (by omega) ?_
        | refine k_geqF rfl rfl (by omega) ?_
        | refine k_geq rfl rfl (fun hc => ?_) (fun hc => ?_)
        | refine k_eqlT rfl rfl (by omega) ?_
        | refine k_eqlF rfl rfl (by omega) ?_
        | refine k_eql rfl rfl (fun hc => ?_) (fun hc => ?_)
        | refine k_neqT rfl rfl (by omega) ?_
        | refine k_neqF rfl rfl (by omega) ?_
        | refine k_neq rfl rfl (fun hc => ?_) (fun hc => ?_)
        | refine k_len rfl rfl ?_
        | refine k_ok rfl rfl ?_))
    refine w_roundN ⟨i + 1, by omega, ?_, hew, rfl⟩ (by simp [cnt, Env.get]; omega)
    rw [intsset, lst_set hlt] at how
    have : lst n (fun k => if k = i then i else if k < i then k else 0) = lst n fun k => if k < i + 1 then k else 0 := lst_congr fun k _ => by
      by_cases e : k = i
      · subst e; simp
      · by_cases e2 : k < i
        · rw [if_neg e, if_pos e2, if_pos (by omega)]
        · rw [if_neg e, if_neg e2, if_neg (by omega)]
    rw [this] at how
    exact how
  · obtain rfl : i = n := by omega
    repeat' (first
      | refine w_seq ?_
      | refine w_seqN ?_
      | refine w_seqX ?_
      | refine w_seqR ?_
      | refine w_blk ?_
      | refine w_blkN ?_
      | refine w_blkX ?_
      | refine w_blkR ?_
      | refine w_skip ?_
      | refine w_ret ?_
      | refine w_exit ?_
      | refine w_ops ?_
      | refine w_opsD ?_
      | refine d_one ?_
      | refine d_nil ?_
      | ((refine i_cond ?_); first | refine w_condT rfl ?_ | refine w_condF rfl ?_)
      | ((refine i_nil ?_); first | refine d_same ?_ | refine d_ord ?_ | refine d_ext ⟨_, rfl⟩ ?_ | refine d_ext (extA _ _ _) ?_ | refine d_ext (by assumption) ?_ | refine w_end0 ?_ | refine w_end1 rfl ?_ | refine w_end2 rfl rfl ?_ | refine w_end3 rfl rfl rfl ?_ | refine w_end4 rfl rfl rfl rfl ?_ | refine w_end5 rfl rfl rfl rfl rfl ?_ | refine w_end6 rfl rfl rfl rfl rfl rfl ?_ | refine w_end7 rfl rfl rfl rfl rfl rfl rfl ?_ | refine w_end8 rfl rfl rfl rfl rfl rfl rfl rfl ?_ | refine w_end9 rfl rfl rfl rfl rfl rfl rfl rfl rfl ?_ | refine w_end10 rfl rfl rfl rfl rfl rfl rfl rfl rfl rfl ?_ | refine w_end11 rfl rfl rfl rfl rfl rfl rfl rfl rfl rfl rfl ?_ | refine w_end12 rfl rfl rfl rfl rfl rfl rfl rfl rfl rfl rfl rfl ?_ | refine w_end13 rfl rfl rfl rfl rfl rfl rfl rfl rfl rfl rfl rfl rfl ?_ | refine w_end14 rfl rfl rfl rfl rfl rfl rfl rfl rfl rfl rfl rfl rfl rfl ?_ | refine w_end15 rfl rfl rfl rfl rfl rfl rfl rfl rfl rfl rfl rfl rfl rfl rfl ?_ | refine w_end16 rfl rfl rfl rfl rfl rfl rfl rfl rfl rfl rfl rfl rfl rfl rfl rfl ?_)
      | ((refine i_cons ?_); first
        | refine k_len rfl hln ?_
        | refine k_skip rfl ?_
        | refine k_want rfl ?_
        | refine k_mv rfl ?_
        | refine k_pickT rfl rfl ?_
        | refine k_pickF rfl rfl ?_
        | refine k_notT rfl ?_
        | refine k_notF rfl ?_
        | refine k_add rfl rfl (by omega) ?_
        | refine k_sub rfl rfl (by omega) ?_
        | refine k_mul rfl rfl (by omega) ?_
        | refine k_neg rfl (by omega) ?_
        | refine k_quo rfl rfl (by omega) ?_
        | refine k_rem rfl rfl (by omega) ?_
        | refine k_conv rfl (by omega) ?_
        | refine k_max rfl rfl ?_
        | refine k_min rfl rfl ?_
        | refine k_lssT rfl rfl (by omega) ?_
        | refine k_lssF rfl rfl (by omega) ?_
        | refine k_lss rfl rfl (fun hc => ?_) (fun hc => ?_)
        | refine k_leqT rfl rfl (by omega) ?_
        | refine k_leqF rfl rfl (by omega) ?_
        | refine k_leq rfl rfl (fun hc => ?_) (fun hc => ?_)
        | refine k_gtrT rfl rfl (by omega) ?_
        | refine k_gtrF rfl rfl (by omega) ?_
        | refine k_gtr rfl rfl (fun hc => ?_) (fun hc => ?_)
        | refine k_geqT rfl rfl (by omega) ?_
        | refine k_geqF rfl rfl (by omega) ?_
        | refine k_geq rfl rfl (fun hc => ?_) (fun hc => ?_)
        | refine k_eqlT rfl rfl (by omega) ?_
        | refine k_eqlF rfl rfl (by omega) ?_
        | refine k_eql rfl rfl (fun hc => ?_) (fun hc => ?_)
        | refine k_neqT rfl rfl (by omega) ?_
        | refine k_neqF rfl rfl (by omega) ?_
        | refine k_neq rfl rfl (fun hc => ?_) (fun hc => ?_)
        | refine k_len rfl rfl ?_
        | refine k_ok rfl rfl ?_))
    refine w_roundX ⟨rfl, ?_, he, _, rfl⟩
    rwa [show lst i (fun k => if k < i then k else 0) = lst i fun k => k from lst_congr fun k hk => if_pos hk] at ho

def I17c (B : Heap) (p n q : Nat) (f L : Nat → Nat) (t : SV) (E : Env) (h : Heap) : Prop := ∃ i : Nat, i ≤ n ∧ Own B h t (ints (lst n (passF f L i))) ∧ Ext B h ∧
  E = [(1, some (.sc (.ptr p 0))), (3, some (.sc t)), (5, some (.sc (.int .i64 q))), (6, some (.sc (.int .i64 i)))]
def R17c (B : Heap) (p n q : Nat) (f L : Nat → Nat) (t : SV) (ex : Ex) (E : Env) (h : Heap) : Prop := ex = .ex 4 ∧ Own B h t (ints (lst n (passF f L n))) ∧ Ext B h ∧ ∃ a,
  E = [(1, some (.sc (.ptr p 0))), (3, some (.sc t)), (5, some (.sc (.int .i64 q))), (6, a), (34, some (.sc (.bool false)))]
set_option maxHeartbeats 4000000 in
theorem round17c (hk : HK 37 = none) (B : Heap) (p n q : Nat) (X O : SV) (g : Gr) (L : Nat → Nat) (t : SV) (hp : Blk.At B p [X, O]) (hg : IsG B X O g) (hv : Vd n g) (hn : n ≤ 100) (E : Env) (h : Heap) (hI : I17c B p n q (stp g) L t E h) :
    wA FT HK b17L2 (E.keep [1, 3, 5, 6]) h (wRound (I17c B p n q (stp g) L t) (cnt n 6) (cnt n 6 E h) (R17c B p n q (stp g) L t)) := by
  obtain ⟨i, hi, ho, he, rfl⟩ := hI
  have hln := Own.len ho
  rw [List.length_map, lst_len] at hln
  have e2 := hv.p2.len
  by_cases hlt : i < n
  · have hst := (hv.stp hlt).1
    have io := hv.in2 hlt
    have bp := hp.ext he
    have gh := hg.ext he
    obtain ⟨iO, oO, kO, rfl, hrO⟩ := IsInts.at gh.o (atN_get (xs := g.2) (k := i) (by omega))
    have kc := call37 (HK := HK) hk h _ n (atN g.2 i) g.1 gh.x hv.p1 io (by omega)
    rw [show col g.1 (atN g.2 i) = stp g i from rfl] at kc
    have hml : (ints (lst n (passF (stp g) L i))).length = n := by rw [List.length_map, lst_len]
    have g1 : (ints (lst n (passF (stp g) L i)))[i]? = some (.int .i64 (passF (stp g) L i i : Nat)) := by rw [List.getElem?_map, lst_get hlt]; rfl
    have g2 : (ints (lst n (passF (stp g) L i)))[stp g i]? = some (.int .i64 (passF (stp g) L i (stp g i) : Nat)) := by rw [List.getElem?_map, lst_get hst]; rfl
    obtain ⟨id1, cp1, rfl, r1⟩ := Own.rd ho g1
    obtain ⟨_, _, em, r2⟩ := Own.rd ho g2
    cases em
    have hmin : min ((passF (stp g) L i i : Nat) : Int) ((passF (stp g) L i (stp g i) : Nat) : Int) = ((min (passF (stp g) L i i) (passF (stp g) L i (stp g i)) : Nat) : Int) := by omega
    obtain ⟨_, _, h2, ew, hw2, how, hew, hfw, hlw⟩ := Own.wr he ho (i := i) (by rw [hml]; exact hlt) (.int .i64 ((min (passF (stp g) L i i) (passF (stp g) L i (stp g i)) : Nat) : Int))
    cases ew
    obtain ⟨_, _, h3, ew3, hw3, how3, hew3, hfw3, hlw3⟩ := Own.wr hew how (i := stp g i) (by rw [List.length_set, hml]; exact hst) (.int .i64 ((min (passF (stp g) L i i) (passF (stp g) L i (stp g i)) : Nat) : Int))
    simp only [List.length_set] at ew3
    cases ew3
    rw [← hmin] at hw2 hw3
    repeat' (first
      | refine w_seq ?_
      | refine w_seqN ?_
      | refine w_seqX ?_
      | refine w_seqR ?_
      | refine w_blk ?_
      | refine w_blkN ?_
      | refine w_blkX ?_
      | refine w_blkR ?_
      | refine w_skip ?_
      | refine w_ret ?_
      | refine w_exit ?_
      | refine w_ops ?_
      | refine w_opsD ?_
      | refine d_one ?_
      | refine d_nil ?_
      | ((refine i_cond ?_); first | refine w_condT rfl ?_ | refine w_condF rfl ?_)
      | ((refine i_nil ?_); first | refine d_same ?_ | refine d_ord ?_ | refine d_ext ⟨_, rfl⟩ ?_ | refine d_ext (extA _ _ _) ?_ | refine d_ext (by assumption) ?_ | refine w_end0 ?_ | refine w_end1 rfl ?_ | refine w_end2 rfl rfl ?_ | refine w_end3 rfl rfl rfl ?_ | refine w_end4 rfl rfl rfl rfl ?_ | refine w_end5 rfl rfl rfl rfl rfl ?_ | refine w_end6 rfl rfl rfl rfl rfl rfl ?_ | refine w_end7 rfl rfl rfl rfl rfl rfl rfl ?_ | refine w_end8 rfl rfl rfl rfl rfl rfl rfl rfl ?_ | refine w_end9 rfl rfl rfl rfl rfl rfl rfl rfl rfl ?_ | refine w_end10 rfl rfl rfl rfl rfl rfl rfl rfl rfl rfl ?_ | refine w_end11 rfl rfl rfl rfl rfl rfl rfl rfl rfl rfl rfl ?_ | refine w_end12 rfl rfl rfl rfl rfl rfl rfl rfl rfl rfl rfl rfl ?_ | refine w_end13 rfl rfl rfl rfl rfl rfl rfl rfl rfl rfl rfl rfl rfl ?_ | refine w_end14 rfl rfl rfl rfl rfl rfl rfl rfl rfl rfl rfl rfl rfl rfl ?_ | refine w_end15 rfl rfl rfl rfl rfl rfl rfl rfl rfl rfl rfl rfl rfl rfl rfl ?_ | refine w_end16 rfl rfl rfl rfl rfl rfl rfl rfl rfl rfl rfl rfl rfl rfl rfl rfl ?_)
      | ((refine i_cons ?_); first
        | refine k_len rfl hln ?_
        | refine k_ldb rfl bp rfl ?_
        | refine k_idxA rfl rfl (by omega) ?_
        | refine k_ld rfl hrO ?_
        | refine k_ld rfl r1 ?_
        | refine k_ld rfl r2 ?_
        | (refine k_call rfl kc ?_; rintro v h'' ⟨rfl, rfl⟩)
        | refine k_st rfl rfl hw2 ?_
        | refine k_st rfl rfl hw3 ?_
        | refine k_skip rfl ?_
        | refine k_want rfl ?_
        | refine k_mv rfl ?_
        | refine k_pickT rfl rfl ?_
        | refine k_pickF rfl rfl ?_
        | refine k_notT rfl ?_
        | refine k_notF rfl ?_
        | refine k_add rfl rfl (by omega) ?_
        | refine k_sub rfl rfl (by omega) ?_
        | refine k_mul rfl rfl (by omega) ?_
        | refine k_neg rfl (by omega) ?_
        | refine k_quo rfl rfl (by omega) ?_
        | refine k_rem rfl rfl (by omega) ?_
        | refine k_conv rfl (by omega) ?_
        | refine k_max rfl rfl ?_
        | refine k_min rfl rfl ?_
        | refine k_lssT rfl rfl (by omega) ?_
        | refine k_lssF rfl rfl (by omega) ?_
        | refine k_lss rfl rfl (fun hc => ?_) (fun hc => ?_)
        | refine k_leqT rfl rfl (by omega) ?_
        | refine k_leqF rfl rfl (by omega) ?_
        | refine k_leq rfl rfl (fun hc => ?_) (fun hc => ?_)
        | refine k_gtrT rfl rfl (by omega) ?_
        | refine k_gtrF rfl rfl (by omega) ?_
        | refine k_gtr rfl rfl (fun hc => ?_) (fun hc => ?_)
        | refine k_geqT rfl rfl (by omega) ?_
        | refine k_geqF rfl rfl (by omega) ?_
        | refine k_geq rfl rfl (fun hc => ?_) (fun hc => ?_)
        | refine k_eqlT rfl rfl (by omega) ?_
        | refine k_eqlF rfl rfl (by omega) ?_
        | refine k_eql rfl rfl (fun hc => ?_) (fun hc => ?_)
        | refine k_neqT rfl rfl (by omega) ?_
        | refine k_neqF rfl rfl (by omega) ?_
        | refine k_neq rfl rfl (fun hc => ?_) (fun hc => ?_)
        | refine k_len rfl rfl ?_
        | refine k_ok rfl rfl ?_))
    refine w_roundN ⟨i + 1, by omega, ?_, hew3, by simp⟩ (by simp [cnt, Env.get]; omega)
    rw [intsset, intsset, lst_step hlt hst] at how3
    simpa [passF] using how3
  · obtain rfl : i = n := by omega
    repeat' (first
      | refine w_seq ?_
      | refine w_seqN ?_
      | refine w_seqX ?_
      | refine w_seqR ?_
      | refine w_blk ?_
      | refine w_blkN ?_
      | refine w_blkX ?_
      | refine w_blkR ?_
      | refine w_skip ?_
      | refine w_ret ?_
      | refine w_exit ?_
      | refine w_ops ?_
      | refine w_opsD ?_
      | refine d_one ?_
      | refine d_nil ?_
      | ((refine i_cond ?_); first | refine w_condT rfl ?_ | refine w_condF rfl ?_)
      | ((refine i_nil ?_); first | refine d_same ?_ | refine d_ord ?_ | refine d_ext ⟨_, rfl⟩ ?_ | refine d_ext (extA _ _ _) ?_ | refine d_ext (by assumption) ?_ | refine w_end0 ?_ | refine w_end1 rfl ?_ | refine w_end2 rfl rfl ?_ | refine w_end3 rfl rfl rfl ?_ | refine w_end4 rfl rfl rfl rfl ?_ | refine w_end5 rfl rfl rfl rfl rfl ?_ | refine w_end6 rfl rfl rfl rfl rfl rfl ?_ | refine w_end7 rfl rfl rfl rfl rfl rfl rfl ?_ | refine w_end8 rfl rfl rfl rfl rfl rfl rfl rfl ?_ | refine w_end9 rfl rfl rfl rfl rfl rfl rfl rfl rfl ?_ | refine w_end10 rfl rfl rfl rfl rfl rfl rfl rfl rfl rfl ?_ | refine w_end11 rfl rfl rfl rfl rfl rfl rfl rfl rfl rfl rfl ?_ | refine w_end12 rfl rfl rfl rfl rfl rfl rfl rfl rfl rfl rfl rfl ?_ | refine w_end13 rfl rfl rfl rfl rfl rfl rfl rfl rfl rfl rfl rfl rfl ?_ | refine w_end14 rfl rfl rfl rfl rfl rfl rfl rfl rfl rfl rfl rfl rfl rfl ?_ | refine w_end15 rfl rfl rfl rfl rfl rfl rfl rfl rfl rfl rfl rfl rfl rfl rfl ?_ | refine w_end16 rfl rfl rfl rfl rfl rfl rfl rfl rfl rfl rfl rfl rfl rfl rfl rfl ?_)
      | ((refine i_cons ?_); first
        | refine k_len rfl hln ?_
        | refine k_skip rfl ?_
        | refine k_want rfl ?_
        | refine k_mv rfl ?_
        | refine k_pickT rfl rfl ?_
        | refine k_pickF rfl rfl ?_
        | refine k_notT rfl ?_
        | refine k_notF rfl ?_
        | refine k_add rfl rfl (by omega) ?_
        | refine k_sub rfl rfl (by omega) ?_
        | refine k_mul rfl rfl (by omega) ?_
        | refine k_neg rfl (by omega) ?_
        | refine k_quo rfl rfl (by omega) ?_
        | refine k_rem rfl rfl (by omega) ?_
        | refine k_conv rfl (by omega) ?_
        | refine k_max rfl rfl ?_
        | refine k_min rfl rfl ?_
        | refine k_lssT rfl rfl (by omega) ?_
        | refine k_lssF rfl rfl (by omega) ?_
        | refine k_lss rfl rfl (fun hc => ?_) (fun hc => ?_)
        | refine k_leqT rfl rfl (by omega) ?_
        | refine k_leqF rfl rfl (by omega) ?_
        | refine k_leq rfl rfl (fun hc => ?_) (fun hc => ?_)
        | refine k_gtrT rfl rfl (by omega) ?_
        | refine k_gtrF rfl rfl (by omega) ?_
        | refine k_gtr rfl rfl (fun hc => ?_) (fun hc => ?_)
        | refine k_geqT rfl rfl (by omega) ?_
        | refine k_geqF rfl rfl (by omega) ?_
        | refine k_geq rfl rfl (fun hc => ?_) (fun hc => ?_)
        | refine k_eqlT rfl rfl (by omega) ?_
        | refine k_eqlF rfl rfl (by omega) ?_
        | refine k_eql rfl rfl (fun hc => ?_) (fun hc => ?_)
        | refine k_neqT rfl rfl (by omega) ?_
        | refine k_neqF rfl rfl (by omega) ?_
        | refine k_neq rfl rfl (fun hc => ?_) (fun hc => ?_)
        | refine k_len rfl rfl ?_
        | refine k_ok rfl rfl ?_))
    exact w_roundX ⟨rfl, ho, he, _, rfl⟩
end Go.Proofs.YtadelcikpkhclaaDoor
