/- The law GaussReturns, reckoned. -/
import Derived.Test.YtleoalcbgpjieaaDoorGC
import Derived.Test.YtleoalcbgpjieaaDoorGG2
import Derived.Test.YtleoalcbgpjieaaDoorS7
import Derived.Test.YtleoalcbgpjieaaDoorH3
import Derived.Test.YtleoalcbgpjieaaDoorT5
import Derived.Test.YtleoalcbgpjieaaDoorHD
import Derived.Test.YtleoalcbgpjieaaDoorHV
import Derived.Test.YtleoalcbgpjieaaDoorHW
import Derived.Test.YtleoalcbgpjieaaDoorEU3
import Derived.Test.YtleoalcbgpjieaaDoorM1
import Derived.Test.YtleoalcbgpjieaaDoorAb39
namespace Go.Proofs.YtleoalcbgpjieaaDoor
open Go.Ab
set_option linter.unusedVariables false
set_option linter.unusedSimpArgs false
set_option maxRecDepth 20000
set_option maxHeartbeats 4000000
attribute [local irreducible] wOps wA wSeq wBlk wRound wRoundI wOpsD

/-! ### Euler's count, in all -/
def sumTo (g : Nat → Nat) : Nat → Nat
  | 0 => 0
  | p + 1 => sumTo g p + g p
theorem sumTo_add (g k : Nat → Nat) : ∀ P, sumTo (fun p => g p + k p) P = sumTo g P + sumTo k P
  | 0 => rfl
  | P + 1 => by simp only [sumTo, sumTo_add g k P]; omega
theorem sumTo_one {q : Nat} : ∀ P, sumTo (fun p => if ((q : Int) == (p : Int)) = true then 1 else 0) P = if q < P then 1 else 0
  | 0 => rfl
  | P + 1 => by
    rw [sumTo, sumTo_one P]
    by_cases h : q = P
    · subst h; simp
    · have h2 : ¬ ((q : Int) == (P : Int)) = true := by simp; omega
      rw [if_neg h2]
      by_cases h3 : q < P
      · rw [if_pos h3, if_pos (by omega)]
      · rw [if_neg h3, if_neg (by omega)]
theorem sum_count {α : Type} {f : α → Int} {P : Nat} : ∀ {L : List α}, (∀ x ∈ L, ∃ q : Nat, f x = (q : Int) ∧ q < P) → sumTo (fun p => L.countP (fun x => f x == (p : Int))) P = L.length
  | [], _ => by
    have : ∀ P, sumTo (fun p => List.countP (fun x => f x == (p : Int)) []) P = 0 := fun P => by
      induction P with
      | zero => rfl
      | succ P ih => rw [sumTo, ih]; rfl
    exact this P
  | a :: L, h => by
    obtain ⟨q, h1, h2⟩ := h a (by simp)
    have e : (fun p : Nat => (a :: L).countP (fun x => f x == (p : Int))) = fun p : Nat => L.countP (fun x => f x == (p : Int)) + (if ((q : Int) == (p : Int)) = true then 1 else 0) := by
      funext p
      rw [List.countP_cons, h1]
    rw [e, sumTo_add, sum_count fun x hx => h x (by simp [hx]), sumTo_one, if_pos h2, List.length_cons]
theorem sum_two {g k : Nat → Nat} : ∀ {P : Nat}, (∀ p, p < P → ((g p : Nat) : Int) - (k p : Nat) = 2) → ((sumTo g P : Nat) : Int) - (sumTo k P : Nat) = 2 * (P : Int)
  | 0, _ => rfl
  | P + 1, h => by
    have h1 := sum_two (P := P) fun p hp => h p (by omega)
    have h2 := h P (by omega)
    simp only [sumTo]; omega
theorem euler {ms ps : List Int} {n P : Nat} (hm : Mates ms) (hv : Inv ms) (hf : Fits ms n) (hp : Parts ms n ps P) (hS : Sph ms n) : 2 * (P : Int) + n - (leasts ms ms.length).length = 0 := by
  have h4 := hf.n4
  have h1 := (parts_sph hm hv hf hp).2 hS
  have h2 := sum_two (g := fun p => (leasts ms ms.length).countP (labAt ps p)) (k := fun p => ps.countP (fun y => y == (p : Int))) (P := P) h1
  have h3 : sumTo (fun p => (leasts ms ms.length).countP (labAt ps p)) P = (leasts ms ms.length).length :=
    sum_count (f := fun h => ps.getD (h / 4) 0) fun x hx => by
      have hlt : x < ms.length := by
        unfold leasts at hx
        simpa using (List.mem_filter.1 hx).1
      exact hp.rng (x / 4) (by omega)
  have h5 : sumTo (fun p => ps.countP (fun y => y == (p : Int))) P = ps.length :=
    sum_count (f := fun y => y) fun x hx => by
      obtain ⟨i, hi⟩ := List.mem_iff_getElem?.1 hx
      have hil := (List.getElem?_eq_some_iff.1 hi).1
      obtain ⟨q, h6, h7⟩ := hp.rng i (by rw [← hp.len]; exact hil)
      refine ⟨q, ?_, h7⟩
      rw [← h6]; simp [List.getD, hi]
  rw [h3, h5, hp.len] at h2
  omega

section
variable {FT : FuncId → Option AFun} {HK : FuncId → Option Hook} {E : Env} {h : Heap} {K : Env → Heap → Prop} {r : List AOp} {x : AO}
/-- A new cell of three values, and what is put there. -/
theorem k_newst3 {t : Nat} {a b c u v w : SV} (hx : ev (bindE (some t) (some (.sc (.ptr h.length 0))) E) x = some (.agg [u, v, w])) (hw : ∀ h1, Ext h h1 → Blk.At h1 h.length [u, v, w] → wOps FT HK r (bindE (some t) (some (.sc (.ptr h.length 0))) E) h1 K) :
    wOps FT HK (⟨some t, .new [a, b, c], none⟩ :: ⟨none, .st 3 (.t t) x, none⟩ :: r) E h K := by
  refine op_ok (v := some (.sc (.ptr h.length 0))) (h' := h ++ [.cells [a, b, c] true 0]) rfl rfl rfl ?_
  refine op_ok (v := none) (h' := h ++ [.cells [u, v, w] true 0]) rfl rfl ?_ (hw _ ⟨_, rfl⟩ (Blk.At.last h _ true 0))
  have h1 : evS (bindE (some t) (some (.sc (.ptr h.length 0))) E) (.t t) = some (.ptr h.length 0) := by simp [evS, ev, bindE, Env.get]
  simp [step1, h1, hx, AV.cells, writeN, splice]
end

/-! ### What is reached, for the code of a valid diagram -/
theorem validT {xs ms : List Int} {l : Int} (hF : Front xs ms l) (h0 : Heap) (Y Sg : SV) (ic : IsCode h0 Y Sg (codeG xs ms l)) : ∃ v h', Cal FT HKt 16 [.agg [Y, Sg, .int .i64 l]] h0 v h' ∧ Ext h0 h' ∧ v = .sc (.bool true) := by
  obtain ⟨v, h', c, e, b, rfl, q⟩ := call16 h0 Y Sg (codeG xs ms l) (codeG_fits hF) ic
  obtain rfl := q.2 (codeG_VG hF)
  exact ⟨_, h', c, e, rfl⟩
theorem matesT {xs ms : List Int} {l : Int} (hF : Front xs ms l) (h0 : Heap) (Y Sg : SV) (ic : IsCode h0 Y Sg (codeG xs ms l)) : ∃ v h', Cal FT HKt 37 [.agg [Y, Sg, .int .i64 l]] h0 v h' ∧ Ext h0 h' ∧ ∃ t, v = .sc t ∧ Own h0 h' t (ints ms) := by
  obtain ⟨v, h', c, e, t, rfl, o⟩ := call37 h0 Y Sg (codeG xs ms l) ic (codeG_fits hF) (codeG_VG hF).2.2.2.2.1
  have : mtG (codeG xs ms l).S (codeG xs ms l).C (codeG xs ms l).C.length = ms := mtG_ms hF
  rw [this] at o
  exact ⟨_, h', c, e, t, rfl, o⟩
theorem genusT {xs ms : List Int} {l : Int} (hV : PV xs ms l) (h0 : Heap) (t : SV) (ht : IsInts h0 t ms) : ∃ v h', Cal FT HKt 36 [.sc t] h0 v h' ∧ Ext h0 h' ∧ v = .sc (.int .i64 0) := by
  have hF := hV.1
  obtain ⟨v, h', c, e, P, ps, hp, rfl⟩ := call36 h0 t ms xs.length ht hF.mates hF.inv hF.fits hF.n64
  rw [euler hF.mates hF.inv hF.fits hp hV.2] at c
  exact ⟨_, h', c, e, rfl⟩
theorem call17c (h0 : Heap) (Y Sg : SV) (xs ms : List Int) (l : Int) (hV : PV xs ms l) (ic : IsCode h0 Y Sg (codeG xs ms l)) :
    ∃ v h', Cal FT HKt 17 [.agg [Y, Sg, .int .i64 l]] h0 v h' ∧ Ext h0 h' ∧ v = .tup [.sc (.int .i64 0), .sc (.int .i64 0)] := by
  refine Cal.of (F := a17) rfl rfl rfl ?_
  have k1 := fun H (e : Ext h0 H) => validT hV.1 H Y Sg (ic.ext e)
  have k2 := fun H (e : Ext h0 H) => matesT hV.1 H Y Sg (ic.ext e)
  repeat' (first | refine w_seq ?_ | refine w_seqN ?_ | refine w_skip ?_ | refine w_ret ?_ | refine w_ops ?_ | ((refine i_cond ?_); refine w_condF rfl ?_) | ((refine i_nil ?_); first | refine w_end1 rfl ?_ | refine w_end2 rfl rfl ?_) | ((refine i_cons ?_); first | (refine k_box rfl rfl ?_; intro h1 e1 l1 b1) | (refine k_call rfl (k1 h1 e1) ?_; rintro v h2 ⟨e2, rfl⟩; have b2 := b1.ext e2) | refine k_ldA rfl b2 rfl ?_ | refine k_ldA rfl b1 rfl ?_ | (refine k_call rfl (k2 h2 (e1.trans e2)) ?_; rintro v h3 ⟨e3, t, rfl, it⟩; have kg := genusT hV h3 t (Ab.Own.ids (xs := ms) it)) | (refine k_call rfl kg ?_; rintro v h4 ⟨e4, rfl⟩) | refine k_mv rfl ?_ | refine k_notT rfl ?_))
  exact ⟨.inr rfl, e1.trans (e2.trans (e3.trans e4)), rfl⟩
end Go.Proofs.YtleoalcbgpjieaaDoor


namespace Go.Proofs.YtleoalcbgpjieaaDoor
open Go.Ab
set_option linter.unusedVariables false
set_option linter.unusedSimpArgs false
set_option maxRecDepth 20000
set_option maxHeartbeats 4000000
attribute [local irreducible] wOps wA wSeq wBlk wRound wRoundI wOpsD wOpsS

/-! ### How many parts -/
/-- How many crossings below c are labelled by themselves. -/
def cntR (ls : List Int) (c : Nat) : Nat := ((List.range c).filter fun k => decide (ls.getD k 0 = (k : Int))).length
theorem cntR_succ (ls : List Int) (c : Nat) : cntR ls (c + 1) = cntR ls c + if ls.getD c 0 = (c : Int) then 1 else 0 := by
  unfold cntR
  rw [List.range_succ, List.filter_append, List.length_append]
  by_cases h : ls.getD c 0 = (c : Int)
  · rw [if_pos h, List.filter_cons_of_pos (by simpa using h)]; rfl
  · rw [if_neg h, List.filter_cons_of_neg (by simpa using h)]; rfl
theorem cntR_le (ls : List Int) (c : Nat) : cntR ls c ≤ c := by
  unfold cntR
  exact Nat.le_trans (List.length_filter_le _ _) (by rw [List.length_range]; exact Nat.le_refl _)
theorem rep_parts {ms ps : List Int} {n P : Nat} (hm : Mates ms) (hv : Inv ms) (hf : Fits ms n) (hp : Parts ms n ps P) : cntR (labIter ms n n) n = P := by
  let f : Nat → Nat := fun c => (ps.getD c 0).toNat
  let R := (List.range n).filter fun k => decide ((labIter ms n n).getD k 0 = (k : Int))
  have hR : ∀ c, c ∈ R ↔ c < n ∧ (labIter ms n n).getD c 0 = (c : Int) := fun c => by simp [R, List.mem_filter]
  have low : ∀ c, c ∈ R → ∀ d q, Reach ms q c d → c ≤ d := fun c hc d q hr => by
    obtain ⟨h1, h2⟩ := (hR c).1 hc
    obtain ⟨e, e1, e2, e3, e4⟩ := label_spec hm hv hf h1
    have : e = c := by rw [h2] at e1; omega
    subst this
    exact e4 d q hr
  show R.length = P
  have h1 : R.length ≤ P := by
    have hnd : (R.map f).Nodup := by
      unfold List.Nodup
      rw [List.pairwise_map]
      refine List.Pairwise.imp_of_mem ?_ (List.Pairwise.filter _ (List.nodup_range (n := n)))
      intro a b ha hb hab he
      obtain ⟨a1, a2⟩ := (hR a).1 ha
      obtain ⟨b1, b2⟩ := (hR b).1 hb
      obtain ⟨p, p1, p2⟩ := hp.rng a a1
      obtain ⟨q, q1, q2⟩ := hp.rng b b1
      simp only [f, p1, q1, Int.toNat_natCast] at he
      obtain ⟨k, hk⟩ := (hp.same a b a1 b1).1 (by rw [p1, q1, he])
      have := low a ha b k hk
      have := low b hb a k (Reach.symm hm hv hk)
      omega
    have := fit_len (T := List.range P) hnd fun y hy => by
      obtain ⟨c, hc, rfl⟩ := List.mem_map.1 hy
      obtain ⟨p, p1, p2⟩ := hp.rng c ((hR c).1 hc).1
      simp only [f, p1, Int.toNat_natCast]
      exact List.mem_range.2 p2
    rw [List.length_map, List.length_range] at this
    exact this
  have h2 : P ≤ R.length := by
    have := fit_len (ys := List.range P) (T := R.map f) List.nodup_range fun p hp1 => by
      obtain ⟨c, c1, c2⟩ := hp.hit p (List.mem_range.1 hp1)
      obtain ⟨e, e1, e2, ⟨q, e3⟩, e4⟩ := label_spec hm hv hf c1
      obtain ⟨e', g1, g2, ⟨q', g3⟩, g4⟩ := label_spec hm hv hf e2
      have a1 := g4 e 0 rfl
      have a2 := e4 e' _ (Reach.trans e3 g3)
      have a3 : e' = e := by omega
      subst a3
      refine List.mem_map.2 ⟨e', (hR e').2 ⟨e2, g1⟩, ?_⟩
      have := (hp.same c e' c1 e2).2 ⟨q, e3⟩
      simp only [f, ← this, c2, Int.toNat_natCast]
    rw [List.length_map, List.length_range] at this
    exact this
  omega
/-! ### Graph -/
def I41k (hc : Heap) (u o : SV) (n c : Nat) (E : Env) (h : Heap) : Prop := ∃ (k : Nat) (t : SV) (vs : List SV), k ≤ n ∧ vs.length ≤ k ∧ Ext hc h ∧ Own hc h t vs ∧
  E.keep [3, 4, 5, 6, 7] = [(3, some (.sc u)), (4, some (.sc o)), (5, some (.sc (.int .i64 (c : Nat)))), (6, some (.sc t)), (7, some (.sc (.int .i64 (k : Nat))))]
def R41k (hc : Heap) (u o : SV) (c : Nat) (ex : Ex) (E : Env) (h : Heap) : Prop := ex = .ex 2 ∧ Ext hc h ∧ ∃ t x y,
  E = [(3, some (.sc u)), (4, some (.sc o)), (5, some (.sc (.int .i64 (c : Nat)))), (6, some (.sc t)), (7, x), (25, y)]
def I41c (h1 : Heap) (u : SV) (ls : List Int) (E : Env) (h : Heap) : Prop := ∃ (c : Nat) (o : SV) (vs : List SV), c ≤ ls.length ∧ vs.length = cntR ls c ∧ Ext h1 h ∧ Own h1 h o vs ∧
  E.keep [3, 4, 5] = [(3, some (.sc u)), (4, some (.sc o)), (5, some (.sc (.int .i64 (c : Nat))))]
def R41c (h1 : Heap) (ls : List Int) (ex : Ex) (E : Env) (h : Heap) : Prop := ex = .ex 0 ∧ Ext h1 h ∧ ∃ o vs x y z, vs.length = cntR ls ls.length ∧ Own h1 h o vs ∧
  E = [(3, x), (4, some (.sc o)), (5, y), (13, z)]
/-! ### Genus -/
end Go.Proofs.YtleoalcbgpjieaaDoor


namespace Go.Proofs.YtleoalcbgpjieaaDoor
open Go.Ab
set_option linter.unusedVariables false
set_option linter.unusedSimpArgs false
set_option maxRecDepth 20000
set_option maxHeartbeats 4000000
attribute [local irreducible] wOps wA wSeq wBlk wRound wRoundI wOpsD wOpsS

/-- The genus of a valid code. -/
noncomputable def gen (g : GC) : Int := (2 * ((cntR (labIter (mtV g) g.S.length g.S.length) g.S.length : Nat) : Int) + g.S.length - (leasts (mtV g) (mtV g).length).length).tdiv 2
theorem gen_parts {g : GC} (hg : VG g) {P : Nat} {ps : List Int} (hp : Parts (mtV g) g.S.length ps P) : (2 * (P : Int) + g.S.length - (leasts (mtV g) (mtV g).length).length).tdiv 2 = gen g := by
  have hF := hg.front
  unfold gen
  rw [rep_parts hF.mates hF.inv hF.fits hp]
theorem gen_sph {g : GC} (hg : VG g) {P : Nat} {ps : List Int} (hp : Parts (mtV g) g.S.length ps P) (h0 : gen g = 0) : PV g.S (mtV g) g.L := by
  have hF := hg.front
  refine ⟨hF, ((genus_ok hF.mates hF.inv hF.fits (fun x hx => (hF.mateg hx).2.2.2.1) hp).2 ?_).2⟩
  rw [gen_parts hg hp]; exact h0
theorem vldT {g : GC} (hf : GFits g) (hg : VG g) (h0 : Heap) (X Sg : SV) (hc : IsCode h0 X Sg g) : ∃ v h', Cal FT HKt 16 [.agg [X, Sg, .int .i64 g.L]] h0 v h' ∧ Ext h0 h' ∧ v = .sc (.bool true) := by
  obtain ⟨v, h', c, e, b, rfl, q⟩ := call16 h0 X Sg g hf hc
  obtain rfl := q.2 hg
  exact ⟨_, h', c, e, rfl⟩
theorem bF {b : Bool} {p : Prop} (q : b = true ↔ p) (h : ¬ p) : b = false := by
  cases b with
  | false => rfl
  | true => exact absurd (q.1 rfl) h
theorem vldF {g : GC} (hf : GFits g) (hg : ¬ VG g) (h0 : Heap) (X Sg : SV) (hc : IsCode h0 X Sg g) : ∃ v h', Cal FT HKt 16 [.agg [X, Sg, .int .i64 g.L]] h0 v h' ∧ Ext h0 h' ∧ v = .sc (.bool false) := by
  obtain ⟨v, h', c, e, b, rfl, q⟩ := call16 h0 X Sg g hf hc
  obtain rfl := bF q hg
  exact ⟨_, h', c, e, rfl⟩
theorem genT {g : GC} (hg : VG g) (h0 : Heap) (t : SV) (ht : IsInts h0 t (mtV g)) : ∃ v h', Cal FT HKt 36 [.sc t] h0 v h' ∧ Ext h0 h' ∧ v = .sc (.int .i64 (gen g)) ∧ ∃ P ps, Parts (mtV g) g.S.length ps P := by
  have hF := hg.front
  obtain ⟨v, h', c, e, P, ps, hp, rfl⟩ := call36 h0 t (mtV g) g.S.length ht hF.mates hF.inv hF.fits hF.n64
  exact ⟨_, h', c, e, by rw [gen_parts hg hp], P, ps, hp⟩
theorem call17g (h0 : Heap) (X Sg : SV) (g : GC) (hf : GFits g) (hg : VG g) (hc : IsCode h0 X Sg g) :
    ∃ v h', Cal FT HKt 17 [.agg [X, Sg, .int .i64 g.L]] h0 v h' ∧ Ext h0 h' ∧ v = .tup [.sc (.int .i64 (gen g)), .sc (.int .i64 0)] ∧ ∃ P ps, Parts (mtV g) g.S.length ps P := by
  refine Cal.of (F := a17) rfl rfl rfl ?_
  have k1 := fun H (e : Ext h0 H) => vldT hf hg H X Sg (hc.ext e)
  have k2 := fun H (e : Ext h0 H) => call37 H X Sg g (hc.ext e) hf hg.2.2.2.2.1
  repeat' (first | refine w_seq ?_ | refine w_seqN ?_ | refine w_skip ?_ | refine w_ret ?_ | refine w_ops ?_ | ((refine i_cond ?_); refine w_condF rfl ?_) | ((refine i_nil ?_); first | refine w_end1 rfl ?_ | refine w_end2 rfl rfl ?_) | ((refine i_cons ?_); first | (refine k_box rfl rfl ?_; intro h1 e1 l1 b1) | (refine k_call rfl (k1 h1 e1) ?_; rintro v h2 ⟨e2, rfl⟩; have b2 := b1.ext e2) | refine k_ldA rfl b2 rfl ?_ | refine k_ldA rfl b1 rfl ?_ | (refine k_call rfl (k2 h2 (e1.trans e2)) ?_; rintro v h3 ⟨e3, t, rfl, it⟩; have kg := genT hg h3 t (Ab.Own.ids (xs := mtV g) it)) | (refine k_call rfl kg ?_; rintro v h4 ⟨e4, rfl, hpp⟩) | refine k_mv rfl ?_ | refine k_notT rfl ?_))
  exact ⟨.inr rfl, e1.trans (e2.trans (e3.trans e4)), rfl, hpp⟩
theorem call17e (h0 : Heap) (X Sg : SV) (g : GC) (hf : GFits g) (hg : ¬ VG g) (hc : IsCode h0 X Sg g) :
    ∃ v h', Cal FT HKt 17 [.agg [X, Sg, .int .i64 g.L]] h0 v h' ∧ Ext h0 h' ∧ v = .tup [.sc (.int .i64 0), .sc (.int .i64 1)] := by
  refine Cal.of (F := a17) rfl rfl rfl ?_
  have k1 := fun H (e : Ext h0 H) => vldF hf hg H X Sg (hc.ext e)
  repeat' (first | refine w_seq ?_ | refine w_seqN ?_ | refine w_seqR ?_ | refine w_ret ?_ | refine w_ops ?_ | ((refine i_cond ?_); refine w_condT rfl ?_) | ((refine i_nil ?_); first | refine w_end1 rfl ?_ | refine w_end2 rfl rfl ?_) | ((refine i_cons ?_); first | (refine k_box rfl rfl ?_; intro h1 e1 l1 b1) | (refine k_call rfl (k1 h1 e1) ?_; rintro v h2 ⟨e2, rfl⟩) | refine k_ldA rfl b1 rfl ?_ | refine k_mv rfl ?_ | refine k_notF rfl ?_))
  exact ⟨.inr rfl, e1.trans e2, rfl⟩
theorem vcs_pr : ∀ vs : List Vis, vcs vs = prC vs
  | [] => rfl
  | v :: r => by
    have := vcs_pr r
    simp only [vcs, vc, prC, this]
theorem Few.len {g : GC} (h : Few g) : g.S.length ≤ 1000 ∧ (mtV g).length ≤ 1000 := by
  have h1 := h.1
  have h2 : (mtV g).length = 4 * g.S.length := mtG_len g.S g.C g.C.length
  omega
end Go.Proofs.YtleoalcbgpjieaaDoor


