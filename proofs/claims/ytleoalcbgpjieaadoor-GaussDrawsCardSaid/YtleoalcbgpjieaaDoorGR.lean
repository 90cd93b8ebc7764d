/- The law GaussReturns, reckoned. -/
import Derived.Test.YtleoalcbgpjieaaDoorGC
import Derived.Test.YtleoalcbgpjieaaDoorGG2
import Derived.Test.YtleoalcbgpjieaaDoorS7
import Derived.Test.YtleoalcbgpjieaaDoorGI
import Derived.Test.YtleoalcbgpjieaaDoorT5
namespace Go.Proofs.YtleoalcbgpjieaaDoor
open Go.Ab
set_option linter.unusedVariables false
set_option linter.unusedSimpArgs false
set_option maxRecDepth 20000
set_option maxHeartbeats 4000000
attribute [local irreducible] wOps wA wSeq wBlk wRound wRoundI wOpsD

/-! ### Euler's count, in all -/
def sumTo (g : Nat → Nat) : Nat → Nat
  | 0 => 0
  | p + 1 => sumTo g p + g p
theorem sumTo_add (g k : Nat → Nat) : ∀ P, sumTo (fun p => g p + k p) P = sumTo g P + sumTo k P
  | 0 => rfl
  | P + 1 => by simp only [sumTo, sumTo_add g k P]; omega
theorem sumTo_one {q : Nat} : ∀ P, sumTo (fun p => if ((q : Int) == (p : Int)) = true then 1 else 0) P = if q < P then 1 else 0
  | 0 => rfl
  | P + 1 => by
    rw [sumTo, sumTo_one P]
    by_cases h : q = P
    · subst h; simp
    · have h2 : ¬ ((q : Int) == (P : Int)) = true := by simp; omega
      rw [if_neg h2]
      by_cases h3 : q < P
      · rw [if_pos h3, if_pos (by omega)]
      · rw [if_neg h3, if_neg (by omega)]
theorem sum_count {α : Type} {f : α → Int} {P : Nat} : ∀ {L : List α}, (∀ x ∈ L, ∃ q : Nat, f x = (q : Int) ∧ q < P) → sumTo (fun p => L.countP (fun x => f x == (p : Int))) P = L.length
  | [], _ => by
    have : ∀ P, sumTo (fun p => List.countP (fun x => f x == (p : Int)) []) P = 0 := fun P => by
      induction P with
      | zero => rfl
      | succ P ih => rw [sumTo, ih]; rfl
    exact this P
  | a :: L, h => by
    obtain ⟨q, h1, h2⟩ := h a (by simp)
    have e : (fun p : Nat => (a :: L).countP (fun x => f x == (p : Int))) = fun p : Nat => L.countP (fun x => f x == (p : Int)) + (if ((q : Int) == (p : Int)) = true then 1 else 0) := by
      funext p
      rw [List.countP_cons, h1]
    rw [e, sumTo_add, sum_count fun x hx => h x (by simp [hx]), sumTo_one, if_pos h2, List.length_cons]
theorem sum_two {g k : Nat → Nat} : ∀ {P : Nat}, (∀ p, p < P → ((g p : Nat) : Int) - (k p : Nat) = 2) → ((sumTo g P : Nat) : Int) - (sumTo k P : Nat) = 2 * (P : Int)
  | 0, _ => rfl
  | P + 1, h => by
    have h1 := sum_two (P := P) fun p hp => h p (by omega)
    have h2 := h P (by omega)
    simp only [sumTo]; omega
theorem euler {ms ps : List Int} {n P : Nat} (hm : Mates ms) (hv : Inv ms) (hf : Fits ms n) (hp : Parts ms n ps P) (hS : Sph ms n) : 2 * (P : Int) + n - (leasts ms ms.length).length = 0 := by
  have h4 := hf.n4
  have h1 := (parts_sph hm hv hf hp).2 hS
  have h2 := sum_two (g := fun p => (leasts ms ms.length).countP (labAt ps p)) (k := fun p => ps.countP (fun y => y == (p : Int))) (P := P) h1
  have h3 : sumTo (fun p => (leasts ms ms.length).countP (labAt ps p)) P = (leasts ms ms.length).length :=
    sum_count (f := fun h => ps.getD (h / 4) 0) fun x hx => by
      have hlt : x < ms.length := by
        unfold leasts at hx
        simpa using (List.mem_filter.1 hx).1
      exact hp.rng (x / 4) (by omega)
  have h5 : sumTo (fun p => ps.countP (fun y => y == (p : Int))) P = ps.length :=
    sum_count (f := fun y => y) fun x hx => by
      obtain ⟨i, hi⟩ := List.mem_iff_getElem?.1 hx
      have hil := (List.getElem?_eq_some_iff.1 hi).1
      obtain ⟨q, h6, h7⟩ := hp.rng i (by rw [← hp.len]; exact hil)
      refine ⟨q, ?_, h7⟩
      rw [← h6]; simp [List.getD, hi]
  rw [h3, h5, hp.len] at h2
  omega

section
variable {FT : FuncId → Option AFun} {HK : FuncId → Option Hook} {E : Env} {h : Heap} {K : Env → Heap → Prop} {r : List AOp} {x : AO}
/-- A new cell of three values, and what is put there. -/
theorem k_newst3 {t : Nat} {a b c u v w : SV} (hx : ev (bindE (some t) (some (.sc (.ptr h.length 0))) E) x = some (.agg [u, v, w])) (hw : ∀ h1, Ext h h1 → Blk.At h1 h.length [u, v, w] → wOps FT HK r (bindE (some t) (some (.sc (.ptr h.length 0))) E) h1 K) :
    wOps FT HK (⟨some t, .new [a, b, c], none⟩ :: ⟨none, .st 3 (.t t) x, none⟩ :: r) E h K := by
  refine op_ok (v := some (.sc (.ptr h.length 0))) (h' := h ++ [.cells [a, b, c] true 0]) rfl rfl rfl ?_
  refine op_ok (v := none) (h' := h ++ [.cells [u, v, w] true 0]) rfl rfl ?_ (hw _ ⟨_, rfl⟩ (Blk.At.last h _ true 0))
  have h1 : evS (bindE (some t) (some (.sc (.ptr h.length 0))) E) (.t t) = some (.ptr h.length 0) := by simp [evS, ev, bindE, Env.get]
  simp [step1, h1, hx, AV.cells, writeN, splice]
end

/-! ### What is reached, for the code of a valid diagram -/
theorem validT {xs ms : List Int} {l : Int} (hF : Front xs ms l) (h0 : Heap) (Y Sg : SV) (ic : IsCode h0 Y Sg (codeG xs ms l)) : ∃ v h', Cal FT HKt 16 [.agg [Y, Sg, .int .i64 l]] h0 v h' ∧ Ext h0 h' ∧ v = .sc (.bool true) := by
  obtain ⟨v, h', c, e, b, rfl, q⟩ := call16 h0 Y Sg (codeG xs ms l) (codeG_fits hF) ic
  obtain rfl := q.2 (codeG_VG hF)
  exact ⟨_, h', c, e, rfl⟩
theorem matesT {xs ms : List Int} {l : Int} (hF : Front xs ms l) (h0 : Heap) (Y Sg : SV) (ic : IsCode h0 Y Sg (codeG xs ms l)) : ∃ v h', Cal FT HKt 37 [.agg [Y, Sg, .int .i64 l]] h0 v h' ∧ Ext h0 h' ∧ ∃ t, v = .sc t ∧ Own h0 h' t (ints ms) := by
  obtain ⟨v, h', c, e, t, rfl, o⟩ := call37 h0 Y Sg (codeG xs ms l) ic (codeG_fits hF) (codeG_VG hF).2.2.2.2.1
  have : mtG (codeG xs ms l).S (codeG xs ms l).C (codeG xs ms l).C.length = ms := mtG_ms hF
  rw [this] at o
  exact ⟨_, h', c, e, t, rfl, o⟩
theorem genusT {xs ms : List Int} {l : Int} (hV : PV xs ms l) (h0 : Heap) (t : SV) (ht : IsInts h0 t ms) : ∃ v h', Cal FT HKt 36 [.sc t] h0 v h' ∧ Ext h0 h' ∧ v = .sc (.int .i64 0) := by
  have hF := hV.1
  obtain ⟨v, h', c, e, P, ps, hp, rfl⟩ := call36 h0 t ms xs.length ht hF.mates hF.inv hF.fits hF.n64
  rw [euler hF.mates hF.inv hF.fits hp hV.2] at c
  exact ⟨_, h', c, e, rfl⟩
theorem call17c (h0 : Heap) (Y Sg : SV) (xs ms : List Int) (l : Int) (hV : PV xs ms l) (ic : IsCode h0 Y Sg (codeG xs ms l)) :
    ∃ v h', Cal FT HKt 17 [.agg [Y, Sg, .int .i64 l]] h0 v h' ∧ Ext h0 h' ∧ v = .tup [.sc (.int .i64 0), .sc (.int .i64 0)] := by
  refine Cal.of (F := a17) rfl rfl rfl ?_
  have k1 := fun H (e : Ext h0 H) => validT hV.1 H Y Sg (ic.ext e)
  have k2 := fun H (e : Ext h0 H) => matesT hV.1 H Y Sg (ic.ext e)
  repeat' (first | refine w_seq ?_ | refine w_seqN ?_ | refine w_skip ?_ | refine w_ret ?_ | refine w_ops ?_ | ((refine i_cond ?_); refine w_condF rfl ?_) | ((refine i_nil ?_); first | refine w_end1 rfl ?_ | refine w_end2 rfl rfl ?_) | ((refine i_cons ?_); first | (refine k_box rfl rfl ?_; intro h1 e1 l1 b1) | (refine k_call rfl (k1 h1 e1) ?_; rintro v h2 ⟨e2, rfl⟩; have b2 := b1.ext e2) | refine k_ldA rfl b2 rfl ?_ | refine k_ldA rfl b1 rfl ?_ | (refine k_call rfl (k2 h2 (e1.trans e2)) ?_; rintro v h3 ⟨e3, t, rfl, it⟩; have kg := genusT hV h3 t (Ab.Own.ids (xs := ms) it)) | (refine k_call rfl kg ?_; rintro v h4 ⟨e4, rfl⟩) | refine k_mv rfl ?_ | refine k_notT rfl ?_))
  exact ⟨.inr rfl, e1.trans (e2.trans (e3.trans e4)), rfl⟩
theorem call19c (h0 : Heap) (Y Sg : SV) (xs ms : List Int) (l : Int) (hV : PV xs ms l) (ic : IsCode h0 Y Sg (codeG xs ms l)) :
    ∃ v h', Cal FT HKt 19 [.agg [Y, Sg, .int .i64 l]] h0 v h' ∧ Ext h0 h' ∧ ∃ s' t', v = .tup [.agg [s', t', .int .i64 l], .sc (.int .i64 0)] ∧ IsInts h' s' xs ∧ IsInts h' t' ms := by
  refine Cal.of (F := a19) rfl rfl rfl ?_
  have h64 := hV.1.n64
  have k1 := fun H (e : Ext h0 H) => validT hV.1 H Y Sg (ic.ext e)
  have k2 := fun H (e : Ext h0 H) => matesT hV.1 H Y Sg (ic.ext e)
  have kc := fun H (e : Ext h0 H) => call29 H Sg xs (IsSl.ext ic.s e) (by omega)
  repeat' (first | refine w_seq ?_ | refine w_seqN ?_ | refine w_skip ?_ | refine w_ret ?_ | refine w_ops ?_ | refine w_opsD ?_ | refine d_one ?_ | refine d_nil ?_ | ((refine i_cond ?_); refine w_condF rfl ?_) | ((refine i_nil ?_); first | refine d_same ?_ | refine d_ord ?_ | refine d_ext (by assumption) ?_ | refine w_end2 rfl rfl ?_ | refine w_end3 rfl rfl rfl ?_ | refine w_end4 rfl rfl rfl rfl ?_) | ((refine i_cons ?_); first | (refine k_box rfl rfl ?_; intro h1 e1 l1 b1) | (refine k_new3 ?_; intro h2 e2 l2 c2; have b2 := b1.ext e2) | (refine k_call rfl (k1 h2 (e1.trans e2)) ?_; rintro v h3 ⟨e3, rfl⟩; have b3 := b2.ext e3) | refine k_ldA rfl b3 rfl ?_ | refine k_ldA rfl b2 rfl ?_ | (refine k_call rfl (k2 h3 (e1.trans (e2.trans e3))) ?_; rintro v h4 ⟨e4, t, rfl, it⟩; have kg := genusT hV h4 t (Ab.Own.ids (xs := ms) it)) | (refine k_call rfl kg ?_; rintro v h5 ⟨e5, rfl⟩; have b5 := b3.ext (e4.trans e5)) | refine k_fldA rfl ?_ | refine k_ldb rfl b6 rfl ?_ | refine k_ldb rfl b5 rfl ?_ | (refine k_call rfl (kc h5 (e1.trans (e2.trans (e3.trans (e4.trans e5))))) ?_; rintro v h6 ⟨e6, s6, rfl, i6, f6⟩; have b6 := b5.ext e6; have c6 := c2.ext (e3.trans (e4.trans (e5.trans e6)))) | refine k_bld rfl rfl ?_ | (refine k_st3 rfl rfl c6 ?_; intro h7 q7 c7) | refine k_mv rfl ?_ | refine k_notT rfl ?_ | refine k_neqF rfl rfl (by omega) ?_))
  have n1 := e1.len
  have n2 := e2.len
  have n3 := e3.len
  have n4 := e4.len
  have n5 := e5.len
  have x7 : Ext h0 h7 := by rw [q7]; exact (e1.trans (e2.trans (e3.trans (e4.trans (e5.trans e6))))).set (by omega) _
  have nt : NotAt t h1.length := notAt_of_le it (by omega)
  have ns : NotAt s6 h1.length := f6 _ (by omega)
  have kp : ∀ (j : Nat) (b : Blk), h6[j]? = some b → j ≠ h1.length → h7[j]? = some b := fun j b hj hn => by rw [q7, List.getElem?_set_ne (fun e => hn e.symm)]; exact hj
  refine ⟨.inr rfl, oK_cellt rfl c7.read rfl ⟨x7, s6, t, rfl, ?_, ?_⟩⟩
  · exact IsSl.keep i6 fun j b hj ht => kp j b hj fun e => by subst e; exact ht ns
  · exact IsSl.keep (IsSl.ext (Ab.Own.ids (xs := ms) it) (e5.trans e6)) fun j b hj ht => kp j b hj fun e => by subst e; exact ht nt
end Go.Proofs.YtleoalcbgpjieaaDoor
