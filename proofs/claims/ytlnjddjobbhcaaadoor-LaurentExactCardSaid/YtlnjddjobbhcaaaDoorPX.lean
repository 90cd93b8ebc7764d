/- Equal: contracts. -/
import Derived.Test.YtlnjddjobbhcaaaDoorPN
namespace Go.Proofs.YtlnjddjobbhcaaaDoor
open Go.Ab
set_option linter.unusedVariables false
set_option linter.unusedSimpArgs false
set_option maxRecDepth 20000
set_option maxHeartbeats 4000000
attribute [local irreducible] wOps wA wSeq wBlk wRound wRoundI wOpsD wOpsS

def I46 (h0 : Heap) (s t : SV) (a b : List Tm) (E : Env) (h : Heap) : Prop := h = h0 ∧ ∃ i : Nat, i ≤ a.length ∧ a.take i = b.take i ∧
  E.keep [0, 1, 12, 13] = [(0, some (.sc s)), (1, some (.sc t)), (12, some (.sc (.int .i64 (a.length : Nat)))), (13, some (.sc (.int .i64 (i : Nat))))]
def R46 (h0 : Heap) (a b : List Tm) (ex : Ex) (E : Env) (h : Heap) : Prop := h = h0 ∧ ((ex = .ex 0 ∧ a = b) ∨ (ex = .rt ∧ a ≠ b ∧ E = [(4, some (.sc (.bool false)))]))
end Go.Proofs.YtlnjddjobbhcaaaDoor


namespace Go.Proofs.YtlnjddjobbhcaaaDoor
open Go.Ab
set_option linter.unusedVariables false
set_option linter.unusedSimpArgs false
set_option maxRecDepth 20000
set_option maxHeartbeats 4000000
attribute [local irreducible] wOps wA wSeq wBlk wRound wRoundI wOpsD wOpsS

def wdP (v : Int) : P2 := (.int .u64 (v / 18446744073709551616 % 18446744073709551616), .int .u64 (v % 18446744073709551616))
theorem wd_P (v : Int) : wd v = [(wdP v).1, (wdP v).2] := rfl
/-- A cell of one value. -/
def Cel1 (h : Heap) (q : Nat) (a : SV) : Prop := h[q]? = some (.cells [a] true 0)
theorem Cel1.at {h : Heap} {q : Nat} {a : SV} (c : Cel1 h q a) : Blk.At h q [a] := ⟨true, 0, c⟩
theorem Cel1.ext {h h' : Heap} {q : Nat} {a : SV} (c : Cel1 h q a) (he : Ext h h') : Cel1 h' q a := he.get _ _ c
theorem Cel1.fram {h h' : Heap} {q : Nat} {a s s' : SV} (c : Cel1 h q a) (hf : Fram h h' s s') (hn : NotAt s q) : Cel1 h' q a := (hf _ _ c hn).1
theorem call44 (h0 h : Heap) (he : Ext h0 h) (q7 q5 : Nat) (S : SV) (lo ex w : Int) (vs : List Int) (ho : OwnD h0 h S (vs.map wdP)) (b7 : Cel1 h q7 S) (b5 : Cel1 h q5 (.int .i64 lo)) (hk : 0 ≤ ex - lo ∧ ex - lo < vs.length) (hlen : vs.length ≤ 10000000) :
    ∃ r h', Cal FT HKt 44 [.sc (.int .i64 ex), .agg (wd w), .sc (.ptr q7 0), .sc (.ptr q5 0)] h r h' ∧ Ext h0 h' ∧ OwnD h0 h' S ((vs.set (ex - lo).toNat (vs.getD (ex - lo).toNat 0 + w)).map wdP) ∧ Fram h h' S S := by
  refine Cal.of (F := a44) rfl rfl rfl ?_
  have hkl : (ex - lo).toNat < vs.length := by omega
  obtain ⟨v, hv⟩ : ∃ v, vs[(ex - lo).toNat]? = some v := ⟨_, List.getElem?_eq_getElem hkl⟩
  have hv2 : vs.getD (ex - lo).toNat 0 = v := by rw [List.getD_eq_getElem?_getD, hv]; rfl
  rw [hv2]
  obtain ⟨id, cap, hS, hr⟩ := ho.rd (i := (ex - lo).toNat) (p := wdP v) (by simp [hv])
  have k40 := fun H => call40 H v w
  have hwr := fun H (e : Ext h0 H) (o : OwnD h0 H S (vs.map wdP)) => OwnD.wr e o (i := (ex - lo).toNat) (by simp; exact hkl) (wdP (v + w)).1 (wdP (v + w)).2
  rw [List.length_map] at hS hwr
  have fin : ∀ (H h2 : Heap), OwnD h0 h2 S ((vs.map wdP).set (ex - lo).toNat ((wdP (v + w)).1, (wdP (v + w)).2)) → OwnD h0 h2 S ((vs.set (ex - lo).toNat (v + w)).map wdP) := fun _ _ o => by rw [List.map_set]; exact o
  subst hS
  simp only [wd_P] at k40 ⊢
  repeat' (first | refine w_seq ?_ | refine w_seqN ?_ | refine w_ops ?_ | refine w_opsD ?_ | refine d_one ?_ | refine d_nil ?_ | ((refine i_nil ?_); first | refine d_same ?_ | refine d_ord ?_ | refine d_ext (by assumption) ?_ | refine w_end4 rfl rfl rfl rfl ?_) | ((refine i_cons ?_); first | (refine k_boxC rfl ?_; intro h1 e1 c1; have d7 := b7.ext e1; have d5 := b5.ext e1; have r1 := readN_ext e1 hr) | refine k_ldb rfl d7.at rfl ?_ | refine k_ldb rfl d5.at rfl ?_ | (refine k_sub rfl rfl (by omega) ?_) | refine k_idxA (esz := 2) rfl rfl (by omega) ?_ | refine k_ldD rfl r1 ?_ | refine k_ldC rfl c1 ?_ | (refine k_call rfl (k40 _) ?_; rintro r h2 ⟨e2, rfl⟩; obtain ⟨id2, cap2, h3, e3, w3, o3, x3, f3, l3⟩ := hwr h2 (he.trans (e1.trans e2)) (ho.ext (e1.trans e2)); cases e3) | refine k_stD rfl rfl w3 ?_ | refine k_mv rfl ?_))
  refine w_nilK ?_
  exact ⟨.inl rfl, x3, fin h2 h3 o3, fun j b hj hn => f3 j b ((e1.trans e2).get _ _ hj) hn⟩
/-- The sums, of the terms that were taken. -/
def smL (f : Int → Int) (lo : Int) (n : Nat) : List Int := (List.range n).map fun k : Nat => f (lo + (k : Int))
theorem smL_len (f : Int → Int) (lo : Int) (n : Nat) : (smL f lo n).length = n := by simp [smL]
theorem smL_at {f : Int → Int} {lo : Int} {n k : Nat} (hk : k < n) : (smL f lo n).getD k 0 = f (lo + k) := by simp [smL, List.getD, hk]
theorem smL_congr {f g : Int → Int} {lo : Int} {n : Nat} (h : ∀ e, f e = g e) : smL f lo n = smL g lo n := by
  unfold smL
  exact List.map_congr_left fun k _ => h _
theorem smL_set {f : Int → Int} {lo e w : Int} {n : Nat} (h0 : lo ≤ e) (h1 : e < lo + n) : (smL f lo n).set (e - lo).toNat ((smL f lo n).getD (e - lo).toNat 0 + w) = smL (fun x => f x + w * dl x e) lo n := by
  rw [smL_at (k := (e - lo).toNat) (by omega)]
  refine List.ext_getElem (by simp [smL]) fun k h2 h3 => ?_
  rw [List.getElem_set]
  simp only [smL, List.getElem_map, List.getElem_range]
  rw [smL_len] at h3
  by_cases hk : (e - lo).toNat = k
  · rw [if_pos hk, show lo + ((e - lo).toNat : Int) = e by omega, show lo + (k : Int) = e by omega, dl_self]; omega
  · rw [if_neg hk, dl_ne (by omega)]; omega
/-- While the products are added up. -/
structure Sx (h0 hb h : Heap) (S : SV) (q7 q5 : Nat) (lo : Int) (vs : List Int) : Prop where
  e : Ext h0 h
  o : OwnD h0 h S (vs.map wdP)
  b7 : Cel1 h q7 S
  b5 : Cel1 h q5 (.int .i64 lo)
  k : ∀ (j : Nat) (b : Blk), hb[j]? = some b → NotAt S j → h[j]? = some b
theorem Sx.ext {h0 hb h h' : Heap} {S : SV} {q7 q5 : Nat} {lo : Int} {vs : List Int} (x : Sx h0 hb h S q7 q5 lo vs) (he : Ext h h') : Sx h0 hb h' S q7 q5 lo vs := ⟨x.e.trans he, x.o.ext he, x.b7.ext he, x.b5.ext he, fun j b hj hn => he.get _ _ (x.k j b hj hn)⟩
def I43i (h0 hb : Heap) (S : SV) (q7 q5 q4 qt : Nat) (lo : Int) (n : Nat) (bb : Bool) (sp sq : SV) (p q : List Tm) (i : Nat) (t : Tm) (E : Env) (h : Heap) : Prop := ∃ j : Nat, j ≤ q.length ∧ Sx h0 hb h S q7 q5 lo (smL (fun e => mc (p.take i) q e + mc [t] (q.take j) e) lo n) ∧ Cel h q4 (.bool bb) sq ∧ Cel h qt (.int .i64 t.1) (.int .i64 t.2) ∧
  E.keep [2, 4, 7, 11, 12, 13, 18, 19, 20] = [(2, some (.sc (.fn 44 [(q7, 0), (q5, 0)]))), (4, some (.sc (.ptr q4 0))), (7, some (.sc (.ptr qt 0))), (11, some (.sc sp)), (12, some (.sc (.int .i64 (p.length : Nat)))), (13, some (.sc (.int .i64 (i : Nat)))), (18, some (.sc sq)), (19, some (.sc (.int .i64 (q.length : Nat)))), (20, some (.sc (.int .i64 (j : Nat))))]
def R43i (h0 hb : Heap) (S : SV) (q7 q5 q4 : Nat) (lo : Int) (n : Nat) (bb : Bool) (sp sq : SV) (p q : List Tm) (i : Nat) (t : Tm) (ex : Ex) (E : Env) (h : Heap) : Prop := ex = .ex 2 ∧ Sx h0 hb h S q7 q5 lo (smL (fun e => mc (p.take i) q e + mc [t] q e) lo n) ∧ Cel h q4 (.bool bb) sq ∧ ∃ a b c d e, 
  E = [(2, some (.sc (.fn 44 [(q7, 0), (q5, 0)]))), (4, some (.sc (.ptr q4 0))), (7, a), (11, some (.sc sp)), (12, some (.sc (.int .i64 (p.length : Nat)))), (13, some (.sc (.int .i64 (i : Nat)))), (18, b), (19, c), (20, d), (21, e)]
/-- A polynomial's terms fit. -/
structure Tfit (ts : List Tm) : Prop where
  len : ts.length ≤ 2097153
  cf : ∀ t ∈ ts, t.2.natAbs ≤ cM
  ex : ∀ t ∈ ts, t.1.natAbs ≤ 4194304
theorem Pok.fit {p : Pol} (k : Pok p) : Tfit p.ts := ⟨k.len, k.cf, fun t ht => by have := k.ex t ht; simp only [eM] at this; omega⟩
theorem mc_snoc (q : List Tm) (t u : Tm) (e : Int) : mc [t] (q ++ [u]) e = mc [t] q e + t.2 * u.2 * dl e (t.1 + u.1) := by
  rw [mc_one, mc_one, cf_app, Int.mul_add, Int.mul_assoc]
  congr 1
  show t.2 * (u.2 * dl (e - t.1) u.1 + 0) = _
  congr 1
  by_cases h : u.1 = e - t.1
  · rw [h, dl_self, show t.1 + (e - t.1) = e by omega, dl_self]; omega
  · rw [dl_ne h, dl_ne (by omega)]; omega
theorem round43i (h0 hb : Heap) (S : SV) (q7 q5 q4 qt : Nat) (lo : Int) (n : Nat) (hn : n ≤ 10000000) (bb : Bool) (sp sq : SV) (p q : List Tm) (i : Nat) (t : Tm) (hq : IsD h0 sq (tms q)) (fq : Tfit q) (ht : t.2.natAbs ≤ cM ∧ t.1.natAbs ≤ 4194304) (hrng : ∀ u ∈ q, lo ≤ t.1 + u.1 ∧ t.1 + u.1 < lo + n) (hlo : -100000000 ≤ lo ∧ lo ≤ 100000000) (E : Env) (h : Heap) (hI : I43i h0 hb S q7 q5 q4 qt lo n bb sp sq p q i t E h) :
    wA FT HKt b43L1 (E.keep [2, 4, 7, 11, 12, 13, 18, 19, 20]) h (wRound (I43i h0 hb S q7 q5 q4 qt lo n bb sp sq p q i t) (cK [2, 4, 7, 11, 12, 13, 18, 19, 20] q.length 20) (cK [2, 4, 7, 11, 12, 13, 18, 19, 20] q.length 20 E h) (R43i h0 hb S q7 q5 q4 lo n bb sp sq p q i t)) := by
  obtain ⟨j, hj, x, c4, ct, hE⟩ := hI
  have hm : cK [2, 4, 7, 11, 12, 13, 18, 19, 20] q.length 20 E h = q.length - j := by unfold cK; rw [hE]; rfl
  rw [hm, hE]
  have hql := fq.len
  by_cases hlt : j < q.length
  · obtain ⟨u, hu⟩ : ∃ u, q[j]? = some u := ⟨_, List.getElem?_eq_getElem hlt⟩
    have hum := List.mem_of_getElem? hu
    have hur := hrng u hum
    have hue := fq.ex u hum
    have huc := fq.cf u hum
    obtain ⟨id, off, cap, e1, r0⟩ := hq.at (i := j) (p := tmP u) (by simp [hu])
    rw [tms_len] at e1
    subst e1
    have r1 := readN_ext x.e r0
    simp only [cM] at ht huc
    have k41 := fun H => call41 H t.2 u.2 (by omega) (by omega)
    have tk : q.take (j + 1) = q.take j ++ [u] := by rw [List.take_add_one, hu]; rfl
    have k44 := fun H (x : Sx h0 hb H S q7 q5 lo (smL (fun e => mc (p.take i) q e + mc [t] (q.take j) e) lo n)) => call44 h0 H x.e q7 q5 S lo (t.1 + u.1) (t.2 * u.2) _ x.o x.b7 x.b5 (by rw [smL_len]; omega) (by rw [smL_len]; exact hn)
    rw [smL_set hur.1 hur.2] at k44
    repeat' (first | refine w_seq ?_ | refine w_seqN ?_ | refine w_blk ?_ | refine w_blkN ?_ | refine w_skip ?_ | refine w_ops ?_ | refine w_opsD ?_ | refine d_one ?_ | refine d_nil ?_ | ((refine i_cond ?_); refine w_condT rfl ?_) | ((refine i_nil ?_); first | refine d_same ?_ | refine d_ord ?_ | refine d_ext (by assumption) ?_ | refine w_end9 rfl rfl rfl rfl rfl rfl rfl rfl rfl ?_ | refine w_end10 rfl rfl rfl rfl rfl rfl rfl rfl rfl rfl ?_) | ((refine i_cons ?_); first | refine k_idxA (esz := 2) rfl rfl (by omega) ?_ | refine k_ldD rfl r1 ?_ | (refine k_newst rfl ?_; intro h2 e2 c2; have dt := ct.ext e2; have x2 := x.ext e2) | refine k_ldC0 rfl dt ?_ | refine k_ldC0 rfl c2 ?_ | refine k_ldC1 rfl dt ?_ | refine k_ldC1 rfl c2 ?_ | (refine k_call rfl (k41 _) ?_; rintro r h3 ⟨e3, rfl⟩; have x3 := x2.ext e3) | (refine k_callvC rfl rfl (k44 h3 x3) ?_; rintro r h4 ⟨e4, o4, f4⟩) | refine k_mv rfl ?_ | refine k_add rfl rfl (by omega) ?_ | refine k_lssT rfl rfl (by omega) ?_ | refine k_ok rfl rfl ?_))
    have n4 : NotAt S q4 → Cel h4 q4 (.bool bb) (.slc id off q.length cap) := fun hn => (c4.ext (e2.trans e3)).fram f4 hn
    refine w_roundN ⟨j + 1, by omega, ⟨e4, ?_, x3.b7.fram f4 (x3.o.cel x3.b7), x3.b5.fram f4 (x3.o.cel x3.b5), fun j b hj hn => (f4 j b (x3.k j b hj hn) hn).1⟩, n4 (x.o.cel c4), (dt.ext e3).fram f4 (x.o.cel ct), rfl⟩ (by simp [cK, Env.keep, Env.get]; omega)
    rw [tk]
    have : smL (fun e => mc (p.take i) q e + mc [t] (q.take j ++ [u]) e) lo n = smL (fun x => mc (p.take i) q x + mc [t] (q.take j) x + t.2 * u.2 * dl x (t.1 + u.1)) lo n := smL_congr fun e => by rw [mc_snoc]; omega
    rw [this]; exact o4
  · have : j = q.length := by omega
    subst this
    rw [List.take_length] at x
    repeat' (first | refine w_seq ?_ | refine w_seqN ?_ | refine w_seqX ?_ | refine w_exit ?_ | refine w_ops ?_ | ((refine i_cond ?_); refine w_condF rfl ?_) | ((refine i_nil ?_); refine w_end10 rfl rfl rfl rfl rfl rfl rfl rfl rfl rfl ?_) | ((refine i_cons ?_); refine k_lssF rfl rfl (by omega) ?_))
    exact w_roundX ⟨rfl, x, c4, _, _, _, _, _, rfl⟩
def I43 (h0 hb : Heap) (S : SV) (q7 q5 q4 : Nat) (lo : Int) (n : Nat) (bb : Bool) (sp sq : SV) (p q : List Tm) (E : Env) (h : Heap) : Prop := ∃ i : Nat, i ≤ p.length ∧ Sx h0 hb h S q7 q5 lo (smL (fun e => mc (p.take i) q e) lo n) ∧ Cel h q4 (.bool bb) sq ∧
  E.keep [2, 4, 11, 12, 13] = [(2, some (.sc (.fn 44 [(q7, 0), (q5, 0)]))), (4, some (.sc (.ptr q4 0))), (11, some (.sc sp)), (12, some (.sc (.int .i64 (p.length : Nat)))), (13, some (.sc (.int .i64 (i : Nat))))]
def R43 (h0 hb : Heap) (S : SV) (q7 q5 : Nat) (lo : Int) (n : Nat) (p q : List Tm) (ex : Ex) (E : Env) (h : Heap) : Prop := ex = .ex 0 ∧ Sx h0 hb h S q7 q5 lo (smL (fun e => mc p q e) lo n)
theorem round43 (h0 hb : Heap) (S : SV) (q7 q5 q4 : Nat) (lo : Int) (n : Nat) (hn : n ≤ 10000000) (bb : Bool) (sp sq : SV) (p q : List Tm) (hp : IsD h0 sp (tms p)) (hq : IsD h0 sq (tms q)) (fp : Tfit p) (fq : Tfit q) (hrng : ∀ t ∈ p, ∀ u ∈ q, lo ≤ t.1 + u.1 ∧ t.1 + u.1 < lo + n) (hlo : -100000000 ≤ lo ∧ lo ≤ 100000000) (E : Env) (h : Heap) (hI : I43 h0 hb S q7 q5 q4 lo n bb sp sq p q E h) :
    wA FT HKt b43L0 (E.keep [2, 4, 11, 12, 13]) h (wRound (I43 h0 hb S q7 q5 q4 lo n bb sp sq p q) (cK [2, 4, 11, 12, 13] p.length 13) (cK [2, 4, 11, 12, 13] p.length 13 E h) (R43 h0 hb S q7 q5 lo n p q)) := by
  obtain ⟨i, hi, x, c4, hE⟩ := hI
  have hm : cK [2, 4, 11, 12, 13] p.length 13 E h = p.length - i := by unfold cK; rw [hE]; rfl
  rw [hm, hE]
  have hpl := fp.len
  have lq := hq.len
  rw [tms_len] at lq
  by_cases hlt : i < p.length
  · obtain ⟨t, ht⟩ : ∃ t, p[i]? = some t := ⟨_, List.getElem?_eq_getElem hlt⟩
    have htm := List.mem_of_getElem? ht
    obtain ⟨id, off, cap, e1, r0⟩ := hp.at (i := i) (p := tmP t) (by simp [ht])
    rw [tms_len] at e1
    subst e1
    have r1 := readN_ext x.e r0
    repeat' (first | refine w_seq ?_ | refine w_seqN ?_ | refine w_blk ?_ | refine w_skip ?_ | refine w_ops ?_ | ((refine i_cond ?_); refine w_condT rfl ?_) | ((refine i_nil ?_); first | refine w_end6 rfl rfl rfl rfl rfl rfl ?_ | refine w_end9 rfl rfl rfl rfl rfl rfl rfl rfl rfl ?_) | ((refine i_cons ?_); first | refine k_idxA (esz := 2) rfl rfl (by omega) ?_ | refine k_ldD rfl r1 ?_ | (refine k_newst rfl ?_; intro h2 e2 c2; have d4 := c4.ext e2; have x2 := x.ext e2) | refine k_ldC1 rfl d4 ?_ | refine k_len rfl lq ?_ | refine k_mv rfl ?_ | refine k_lssT rfl rfl (by omega) ?_ | refine k_ok rfl rfl ?_))
    have x2' : Sx h0 hb h2 S q7 q5 lo (smL (fun e => mc (p.take i) q e + mc [t] (q.take 0) e) lo n) := by
      have : smL (fun e => mc (p.take i) q e + mc [t] (q.take 0) e) lo n = smL (fun e => mc (p.take i) q e) lo n := smL_congr fun e => by rw [List.take_zero, mc_nilr]; omega
      rw [this]; exact x2
    refine w_loop (I43i h0 hb S q7 q5 q4 h.length lo n bb (.slc id off p.length cap) sq p q i t) (cK [2, 4, 7, 11, 12, 13, 18, 19, 20] q.length 20) (R43i h0 hb S q7 q5 q4 lo n bb (.slc id off p.length cap) sq p q i t) ⟨0, Nat.zero_le _, x2', d4, c2, rfl⟩ (round43i h0 hb S q7 q5 q4 h.length lo n hn bb (.slc id off p.length cap) sq p q i t hq fq ⟨fp.cf t htm, fp.ex t htm⟩ (hrng t htm) hlo) ?_
    rintro ex E' h3 ⟨rfl, x3, c3, a, b, c, d, e, rfl⟩
    repeat' (first | refine w_seqN ?_ | refine w_blkN ?_ | refine w_blkX ?_ | refine w_ops ?_ | ((refine i_nil ?_); refine w_end5 rfl rfl rfl rfl rfl ?_) | ((refine i_cons ?_); first | refine k_mv rfl ?_ | refine k_add rfl rfl (by omega) ?_))
    refine w_roundN ⟨i + 1, by omega, ?_, c3, rfl⟩ (by simp [cK, Env.keep, Env.get]; omega)
    have tk : p.take (i + 1) = p.take i ++ [t] := by rw [List.take_add_one, ht]; rfl
    have : smL (fun e => mc (p.take (i + 1)) q e) lo n = smL (fun e => mc (p.take i) q e + mc [t] q e) lo n := smL_congr fun e => by rw [tk, mc_app]
    rw [this]; exact x3
  · have : i = p.length := by omega
    subst this
    rw [List.take_length] at x
    repeat' (first | refine w_seq ?_ | refine w_seqN ?_ | refine w_seqX ?_ | refine w_exit ?_ | refine w_ops ?_ | ((refine i_cond ?_); refine w_condF rfl ?_) | ((refine i_nil ?_); refine w_end6 rfl rfl rfl rfl rfl rfl ?_) | ((refine i_cons ?_); refine k_lssF rfl rfl (by omega) ?_))
    exact w_roundX ⟨rfl, x⟩
theorem call43 (h0 h : Heap) (S : SV) (q7 q5 : Nat) (lo : Int) (n : Nat) (hn : n ≤ 10000000) (ba bb : Bool) (sp sq : SV) (p q : List Tm) (hp : IsD h0 sp (tms p)) (hq : IsD h0 sq (tms q)) (fp : Tfit p) (fq : Tfit q) (hrng : ∀ t ∈ p, ∀ u ∈ q, lo ≤ t.1 + u.1 ∧ t.1 + u.1 < lo + n) (hlo : -100000000 ≤ lo ∧ lo ≤ 100000000) (x : Sx h0 h h S q7 q5 lo (List.replicate n 0)) :
    ∃ r h', Cal FT HKt 43 [.agg [.bool ba, sp], .agg [.bool bb, sq], .sc (.fn 44 [(q7, 0), (q5, 0)])] h r h' ∧ Sx h0 h h' S q7 q5 lo (smL (fun e => mc p q e) lo n) := by
  refine Cal.of (F := a43) rfl rfl rfl ?_
  have lp := hp.len
  rw [tms_len] at lp
  have e0 : List.replicate n 0 = smL (fun e => mc (p.take 0) q e) lo n := by
    refine List.ext_getElem (by simp [smL]) fun k h1 h2 => ?_
    simp [smL, mc_nil]
  rw [e0] at x
  repeat' (first | refine w_seq ?_ | refine w_seqN ?_ | refine w_blk ?_ | refine w_ops ?_ | ((refine i_nil ?_); first | refine w_end3 rfl rfl rfl ?_ | refine w_end5 rfl rfl rfl rfl rfl ?_) | ((refine i_cons ?_); first | (have z := e1; refine k_boxC rfl ?_; intro h2 e2 c2; have x2 := x1.ext e2; have d1 := c1.ext e2) | (refine k_boxC rfl ?_; intro h1 e1 c1; have x1 := x.ext e1) | refine k_ldC1 rfl d1 ?_ | refine k_len rfl lp ?_ | refine k_mv rfl ?_ | refine k_ok rfl rfl ?_))
  refine w_loop (I43 h0 h S q7 q5 h1.length lo n bb sp sq p q) (cK [2, 4, 11, 12, 13] p.length 13) (R43 h0 h S q7 q5 lo n p q) ⟨0, Nat.zero_le _, x2, c2, rfl⟩ (round43 h0 h S q7 q5 h1.length lo n hn bb sp sq p q hp hq fp fq hrng hlo) ?_
  rintro ex E' h3 ⟨rfl, x3⟩
  repeat' (refine w_blkX ?_)
  exact ⟨.inl rfl, x3⟩
end Go.Proofs.YtlnjddjobbhcaaaDoor

