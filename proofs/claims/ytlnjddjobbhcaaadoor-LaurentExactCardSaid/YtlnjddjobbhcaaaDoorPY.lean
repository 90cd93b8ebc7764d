/- Mul: the round. -/
import Derived.Test.YtlnjddjobbhcaaaDoorPX
namespace Go.Proofs.YtlnjddjobbhcaaaDoor
open Go.Ab
set_option linter.unusedVariables false
set_option linter.unusedSimpArgs false
set_option maxRecDepth 20000
set_option maxHeartbeats 4000000
attribute [local irreducible] wOps wA wSeq wBlk wRound wRoundI wOpsD wOpsS

def mulLo (p q : List Tm) : Int := lo0 p + lo0 q
def mulN (p q : List Tm) : Nat := (hi0 p + hi0 q - (lo0 p + lo0 q) + 1).toNat
/-- The product. -/
def mulP (p q : Pol) : Pol := open Classical in
  if p.big = true ∨ q.big = true then bigP
  else if p.ts = [] ∨ q.ts = [] then zeroP
  else if mulLo p.ts q.ts < -1048576 ∨ 1048576 < hi0 p.ts + hi0 q.ts then bigP
  else if ∀ t ∈ mulL p.ts q.ts (mulLo p.ts q.ts) (mulN p.ts q.ts), t.2.natAbs ≤ cM then ⟨false, mulL p.ts q.ts (mulLo p.ts q.ts) (mulN p.ts q.ts)⟩ else bigP
theorem mul_rng {p q : List Tm} (hp : Can p) (hq : Can q) : ∀ t ∈ p, ∀ u ∈ q, mulLo p q ≤ t.1 + u.1 ∧ t.1 + u.1 < mulLo p q + mulN p q := fun t ht u hu => by
  have a := lo0_le hp t ht
  have b := lo0_le hq u hu
  have c := hi0_ge hp t ht
  have d := hi0_ge hq u hu
  unfold mulLo mulN
  omega
theorem mulP_ok {p q : Pol} (kp : Pok p) (kq : Pok q) : Pok (mulP p q) := by
  unfold mulP
  split
  · exact bigP_ok
  split
  · exact zeroP_ok
  split
  · exact bigP_ok
  split
  · rename_i h1 h2 h3 h4
    refine ⟨by simp, fromC_can _ _ _, h4, fun t ht => ?_⟩
    have := fromC_mem.1 ht
    simp only [mulLo, mulN, eM] at *
    omega
  · exact bigP_ok
theorem lo0_mem {p : List Tm} (h0 : p ≠ []) : ∃ t ∈ p, t.1 = lo0 p := by
  cases p with
  | nil => exact absurd rfl h0
  | cons t r => exact ⟨t, .head _, rfl⟩
theorem Pok.lo {p : Pol} (k : Pok p) : -1048576 ≤ lo0 p.ts ∧ lo0 p.ts ≤ 1048576 ∧ -1048576 ≤ hi0 p.ts ∧ hi0 p.ts ≤ 1048576 ∧ lo0 p.ts ≤ hi0 p.ts := by
  by_cases h : p.ts = []
  · rw [h]; simp [lo0, hi0]
  · obtain ⟨t, t1, t2⟩ := lo0_mem h
    obtain ⟨u, u1, u2⟩ := hi0_mem h
    have a := k.ex t t1
    have b := k.ex u u1
    have c := lo0_le k.can u u1
    simp only [eM] at a b
    omega
theorem mc_small {p q : Pol} (kp : Pok p) (kq : Pok q) (e : Int) : -170141183460469231731687303715884105728 < mc p.ts q.ts e ∧ mc p.ts q.ts e < 170141183460469231731687303715884105728 := by
  have h1 := mc_abs (p := p.ts) kq.can kq.cf e kp.cf
  have h2 := Nat.mul_le_mul_right (cM * cM) kp.len
  simp only [cM] at *
  omega
/-- While the result is gathered. -/
structure St16 (h0 h : Heap) (q4 q5 q8 : Nat) (lo : Int) (a : Bool) (S s : SV) (vs : List Int) (r : List Tm) : Prop where
  e : Ext h0 h
  c4 : Cel h q4 (.bool a) .nilS
  c5 : Cel1 h q5 (.int .i64 lo)
  c8 : Cel h q8 (.bool false) s
  o : OwnD h0 h s (tms r)
  sm : IsD h S (vs.map wdP)
  ap : Go.Ab.Apart s S
theorem St16.ext {h0 h h' : Heap} {q4 q5 q8 : Nat} {lo : Int} {a : Bool} {S s : SV} {vs : List Int} {r : List Tm} (st : St16 h0 h q4 q5 q8 lo a S s vs r) (he : Ext h h') : St16 h0 h' q4 q5 q8 lo a S s vs r :=
  ⟨st.e.trans he, st.c4.ext he, st.c5.ext he, st.c8.ext he, st.o.ext he, st.sm.ext he, st.ap⟩
theorem St16.wr {h0 h h1 : Heap} {q4 q5 q8 q : Nat} {lo : Int} {a : Bool} {S s : SV} {vs : List Int} {r : List Tm} {x y : SV} (st : St16 h0 h q4 q5 q8 lo a S s vs r) (w : Wr h h1 q x y) (hq : h0.length ≤ q ∧ q4 ≠ q ∧ q5 ≠ q ∧ q8 ≠ q) : St16 h0 h1 q4 q5 q8 lo a S s vs r := by
  refine ⟨w.ext st.e hq.1, w.keep st.c4 hq.2.1, ?_, w.keep st.c8 hq.2.2.2, st.o.wrC w, st.sm.wrC w, st.ap⟩
  have := st.c5
  unfold Cel1 at this ⊢
  rw [w.eq, List.getElem?_set_ne (Ne.symm hq.2.2.1)]; exact this
def I16 (h0 : Heap) (q4 q5 q8 : Nat) (lo : Int) (S : SV) (f : Int → Int) (n : Nat) (E : Env) (h : Heap) : Prop := ∃ (i : Nat) (s : SV), i ≤ n ∧ (∀ k : Nat, k < i → (f (lo + k)).natAbs ≤ cM) ∧ St16 h0 h q4 q5 q8 lo false S s (smL f lo n) (fromC f lo i) ∧
  E.keep [4, 5, 8, 73, 74, 75] = [(4, some (.sc (.ptr q4 0))), (5, some (.sc (.ptr q5 0))), (8, some (.sc (.ptr q8 0))), (73, some (.sc S)), (74, some (.sc (.int .i64 (n : Nat)))), (75, some (.sc (.int .i64 (i : Nat))))]
def R16 (h0 : Heap) (q4 q5 q8 : Nat) (lo : Int) (S : SV) (f : Int → Int) (n : Nat) (ex : Ex) (E : Env) (h : Heap) : Prop :=
  (ex = .ex 0 ∧ ∃ s a b c d, (∀ k : Nat, k < n → (f (lo + k)).natAbs ≤ cM) ∧ St16 h0 h q4 q5 q8 lo false S s (smL f lo n) (fromC f lo n) ∧ E = [(4, some (.sc (.ptr q4 0))), (5, a), (8, some (.sc (.ptr q8 0))), (73, b), (74, c), (75, d), (76, some (.sc (.bool false)))]) ∨
  (ex = .rt ∧ ¬ (∀ k : Nat, k < n → (f (lo + k)).natAbs ≤ cM) ∧ Ext h0 h ∧ Cel h q4 (.bool true) .nilS ∧ E = [(4, some (.sc (.ptr q4 0)))])
theorem fromC_len (g : Int → Int) (lo : Int) (n : Nat) : (fromC g lo n).length ≤ n := can_len (fromC_can g lo n) fun t ht => ⟨(fromC_mem.1 ht).1, (fromC_mem.1 ht).2.1⟩
theorem round16 (h0 : Heap) (q4 q5 q8 : Nat) (lo : Int) (S : SV) (f : Int → Int) (n : Nat) (hn : n ≤ 5000000) (hlo : -2097152 ≤ lo ∧ lo ≤ 2097152) (hf : ∀ e, -170141183460469231731687303715884105728 < f e ∧ f e < 170141183460469231731687303715884105728) (l4 : h0.length ≤ q4) (l8 : h0.length ≤ q8) (n48 : q4 ≠ q8) (E : Env) (h : Heap) (hI : I16 h0 q4 q5 q8 lo S f n E h) :
    wA FT HKt b16L0 (E.keep [4, 5, 8, 73, 74, 75]) h (wRound (I16 h0 q4 q5 q8 lo S f n) (cK [4, 5, 8, 73, 74, 75] n 75) (cK [4, 5, 8, 73, 74, 75] n 75 E h) (R16 h0 q4 q5 q8 lo S f n)) := by
  obtain ⟨i, s, hi, hsm, st, hE⟩ := hI
  have hm : cK [4, 5, 8, 73, 74, 75] n 75 E h = n - i := by unfold cK; rw [hE]; rfl
  rw [hm, hE]
  by_cases hlt : i < n
  · have hv : (smL f lo n)[i]? = some (f (lo + i)) := by simp [smL, hlt]
    obtain ⟨id, off, cap, e1, r0⟩ := st.sm.at (i := i) (p := wdP (f (lo + i))) (by simp [hv])
    rw [List.length_map, smL_len] at e1
    subst e1
    have k45 := fun H => call45 H (f (lo + i)) (hf _)
    have fl := fromC_len f lo i
    have fs := fromC_succ f lo i
    by_cases hb : (f (lo + i)).natAbs ≤ cM
    · have hsm2 : ∀ k : Nat, k < i + 1 → (f (lo + k)).natAbs ≤ cM := fun k hk => by
        by_cases e : k = i
        · subst e; exact hb
        · exact hsm k (by omega)
      have e45 : smV (f (lo + i)) = f (lo + i) := by unfold smV; rw [if_pos hb]
      rw [e45, decide_eq_true hb] at k45
      generalize hv2 : f (lo + i) = v at *
      simp only [wd_P] at k45
      have n4 := st.c4.lt
      have n5 := (List.getElem?_eq_some_iff.1 st.c5).1
      have n8 := st.c8.lt
      have n0 := st.e.len
      by_cases hz : v = 0
      · have fs2 : fromC f lo (i + 1) = fromC f lo i := by rw [fs]; unfold put; rw [if_pos hz, List.append_nil]
        subst hz
        repeat' (first | refine w_seq ?_ | refine w_seqN ?_ | refine w_blk ?_ | refine w_blkN ?_ | refine w_skip ?_ | refine w_ops ?_ | ((refine i_cond ?_); first | refine w_condT rfl ?_ | refine w_condF rfl ?_) | ((refine i_nil ?_); first | refine w_end6 rfl rfl rfl rfl rfl rfl ?_ | refine w_end7 rfl rfl rfl rfl rfl rfl rfl ?_ | refine w_end8 rfl rfl rfl rfl rfl rfl rfl rfl ?_ | refine w_end9 rfl rfl rfl rfl rfl rfl rfl rfl rfl ?_) | ((refine i_cons ?_); first | refine k_idxA (esz := 2) rfl rfl (by omega) ?_ | refine k_ldD rfl r0 ?_ | (refine k_newC ?_; intro h2 e2 c2; have s2 := st.ext e2; have n2 := e2.len) | (refine k_stC rfl rfl c2 ?_; intro h3 w3; have c3 := w3.cel; have s3 := s2.wr w3 (by omega)) | refine k_ldC rfl c3 ?_ | (refine k_call rfl (k45 _) ?_; rintro r h4 ⟨e4, rfl⟩; have s4 := s3.ext e4) | refine k_mv rfl ?_ | refine k_notT rfl ?_ | refine k_add rfl rfl (by omega) ?_ | refine k_lssT rfl rfl (by omega) ?_ | refine k_neqF rfl rfl (by omega) ?_ | refine k_ok rfl rfl ?_))
        exact w_roundN ⟨i + 1, s, by omega, hsm2, by rw [fs2]; exact s4, rfl⟩ (by simp [cK, Env.keep, Env.get]; omega)
      · have fs2 : fromC f lo (i + 1) = fromC f lo i ++ [(lo + i, v)] := by rw [fs]; unfold put; rw [if_neg hz]
        repeat' (first | refine w_seq ?_ | refine w_seqN ?_ | refine w_blk ?_ | refine w_blkN ?_ | refine w_skip ?_ | refine w_ops ?_ | ((refine i_cond ?_); first | refine w_condT rfl ?_ | refine w_condF rfl ?_) | ((refine i_nil ?_); first | refine w_end6 rfl rfl rfl rfl rfl rfl ?_ | refine w_end7 rfl rfl rfl rfl rfl rfl rfl ?_ | refine w_end8 rfl rfl rfl rfl rfl rfl rfl rfl ?_ | refine w_end9 rfl rfl rfl rfl rfl rfl rfl rfl rfl ?_) | ((refine i_cons ?_); first | refine k_idxA (esz := 2) rfl rfl (by omega) ?_ | refine k_ldD rfl r0 ?_ | (refine k_newC ?_; intro h2 e2 c2; have s2 := st.ext e2; have n2 := e2.len) | (refine k_stC rfl rfl c2 ?_; intro h3 w3; have c3 := w3.cel; have s3 := s2.wr w3 (by omega)) | refine k_ldC rfl c3 ?_ | (refine k_call rfl (k45 _) ?_; rintro r h4 ⟨e4, rfl⟩; have s4 := s3.ext e4) | refine k_fldA rfl ?_ | refine k_ldC1 rfl s4.c8 ?_ | refine k_ldb rfl s4.c5.at rfl ?_ | (refine k_bld rfl rfl ?_) | (refine k_pushD s4.e s4.o rfl rfl (by rw [tms_len]; simp only [bigN]; omega) ?_; intro s' h5 o5 e5 f5 l5; have d8 := s4.c8.fram f5 (s4.o.cel s4.c8)) | (refine k_stC1 rfl rfl d8 ?_; intro h6 w6) | refine k_mv rfl ?_ | refine k_notT rfl ?_ | refine k_add rfl rfl (by omega) ?_ | refine k_lssT rfl rfl (by omega) ?_ | refine k_neqT rfl rfl (by omega) ?_ | refine k_ok rfl rfl ?_))
        have d4 := s4.c4.fram f5 (s4.o.cel s4.c4)
        have d5 := s4.c5.fram f5 (s4.o.cel s4.c5)
        have dS : IsD h5 (.slc id off n cap) ((smL f lo n).map wdP) := IsSl.away s4.sm f5 s4.ap
        have dA := Fram.apart f5 s4.sm s4.ap
        have c5' : Cel1 h6 q5 (.int .i64 lo) := by
          unfold Cel1 at d5 ⊢
          rw [w6.eq, List.getElem?_set_ne (fun e => by
            subst e
            have := s4.c5
            have c8' := s4.c8
            unfold Cel1 at this
            unfold Cel at c8'
            rw [c8'] at this
            simp at this)]
          exact d5
        refine w_roundN ⟨i + 1, s', by omega, hsm2, ⟨w6.ext e5 l8, w6.keep d4 n48, c5', w6.cel, ?_, dS.wrC w6, dA⟩, rfl⟩ (by simp [cK, Env.keep, Env.get]; omega)
        rw [fs2]
        have := o5.wrC w6
        simpa [tms, tmP] using this
    · have e45 : smV (f (lo + i)) = 0 := by unfold smV; rw [if_neg hb]
      rw [e45, decide_eq_false hb] at k45
      generalize hv2 : f (lo + i) = v at *
      simp only [wd_P] at k45
      have n4 := st.c4.lt
      have n5 := (List.getElem?_eq_some_iff.1 st.c5).1
      have n8 := st.c8.lt
      have n0 := st.e.len
      repeat' (first | refine w_seq ?_ | refine w_seqN ?_ | refine w_seqR ?_ | refine w_blk ?_ | refine w_blkR ?_ | refine w_skip ?_ | refine w_ret ?_ | refine w_ops ?_ | ((refine i_cond ?_); refine w_condT rfl ?_) | ((refine i_nil ?_); first | refine w_end1 rfl ?_ | refine w_end7 rfl rfl rfl rfl rfl rfl rfl ?_ | refine w_end8 rfl rfl rfl rfl rfl rfl rfl rfl ?_ | refine w_end9 rfl rfl rfl rfl rfl rfl rfl rfl rfl ?_) | ((refine i_cons ?_); first | refine k_idxA (esz := 2) rfl rfl (by omega) ?_ | refine k_ldD rfl r0 ?_ | (refine k_newC ?_; intro h2 e2 c2; have s2 := st.ext e2; have n2 := e2.len) | (refine k_stC rfl rfl c2 ?_; intro h3 w3; have c3 := w3.cel; have s3 := s2.wr w3 (by omega)) | refine k_ldC rfl c3 ?_ | (refine k_call rfl (k45 _) ?_; rintro r h4 ⟨e4, rfl⟩; have s4 := s3.ext e4) | (refine k_bld rfl rfl ?_) | (have c4 := s4.c4; refine k_stC rfl rfl c4 ?_; intro h6 w6) | refine k_mv rfl ?_ | refine k_notF rfl ?_ | refine k_lssT rfl rfl (by omega) ?_ | refine k_ok rfl rfl ?_))
      exact w_roundR (.inr ⟨rfl, fun h => hb (by have := h i hlt; rwa [hv2] at this), w6.ext s4.e l4, w6.cel, rfl⟩)
  · have : i = n := by omega
    subst this
    repeat' (first | refine w_seq ?_ | refine w_seqN ?_ | refine w_seqX ?_ | refine w_exit ?_ | refine w_ops ?_ | ((refine i_cond ?_); refine w_condF rfl ?_) | ((refine i_nil ?_); refine w_end7 rfl rfl rfl rfl rfl rfl rfl ?_) | ((refine i_cons ?_); refine k_lssF rfl rfl (by omega) ?_))
    exact w_roundX (.inl ⟨rfl, s, _, _, _, _, hsm, st, rfl⟩)
end Go.Proofs.YtlnjddjobbhcaaaDoor
