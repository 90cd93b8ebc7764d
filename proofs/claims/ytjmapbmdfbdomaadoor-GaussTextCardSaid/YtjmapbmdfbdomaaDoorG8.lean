/- gauss.Parse: its loops. -/
import Derived.Test.YtjmapbmdfbdomaaDoorG7
import Derived.Test.YtjmapbmdfbdomaaDoorG4
namespace Go.Proofs.YtjmapbmdfbdomaaDoor
open Go.Ab
set_option linter.unusedVariables false
set_option linter.unusedSimpArgs false
set_option maxRecDepth 20000
attribute [local irreducible] wOps wA wSeq wBlk wRound wOpsD

section
variable {FT : FuncId → Option AFun} {HK : FuncId → Option Hook} {E : Env} {h : Heap} {K : Env → Heap → Prop} {d : Option Nat} {r : List AOp} {x y : AO}
theorem k_pushL {h0 : Heap} {s x z : SV} {vs : List SV} {a b bytes : Nat} {ao bo : AO} {zz : List SV} (he : Ext h0 h) (ho : Own h0 h s vs) (hx : ev E bo = some (.sc x)) (hs : evS (bindE (some a) (some (.sc (.slc h.length 0 1 (some 1)))) E) ao = some s) (hb : (vs.length + 1) * (bytes + 1) ≤ bigN)
    (hw : ∀ s' h', Own h0 h' s' (vs ++ [x]) → Ext h0 h' → Fram h h' s s' → h.length ≤ h'.length → wOps FT HK r (bindE (some b) (some (.sc s')) (bindE (some a) (some (.sc (.slc h.length 0 1 (some 1)))) E)) h' K) :
    wOps FT HK (⟨some a, .bsl 1 [z] 1 [(0, bo)], none⟩ :: ⟨some b, .app 1 bytes zz ao (.t a), none⟩ :: r) E h K := by
  refine op_ok (v := some (.sc (.slc h.length 0 1 (some 1)))) (h' := h ++ [.cells [x] true 1]) rfl rfl ?_ ?_
  · simp only [step1, ESz.one_n]
    rw [if_pos (by omega)]
    simp [evParts, hx, AV.cells, fillA, rep, splice]
  · obtain ⟨s', h', h1, h2, h3, h4⟩ := push_step (bytes := bytes) (x := x) he ho hb
    have hl : h.length ≤ h'.length := by
      have h1' := h1
      rw [Option.bind_eq_some_iff] at h1'
      obtain ⟨p, -, hp⟩ := h1'
      rw [Option.map_eq_some_iff] at hp
      obtain ⟨r, hr, e⟩ := hp
      obtain ⟨-, rfl⟩ := Prod.mk.inj e
      have := appS_len (s' := r.1) (h' := r.2) hr
      simp at this
      omega
    refine op_ok (v := some (.sc s')) (h' := h') rfl rfl ?_ (hw s' h' h2 h3 h4 hl)
    simp only [step1, hs, Option.bind_some]
    have h5 : evS (bindE (some a) (some (.sc (.slc h.length 0 1 (some 1)))) E) (.t a) = some (.slc h.length 0 1 (some 1)) := by
      simp [evS, ev, bindE, Env.get]
    rw [h5]
    exact h1
end
theorem fields_callF {h : Heap} (s : List UInt8) (hl : s.length ≤ 1000000) : ∃ v h', Cal FT HKt 24 [.sc (tb s)] h v h' ∧ ∃ t, v = .sc t ∧ Ext h h' ∧ IsSl h' t 1 (Lib.fieldsD s).length ((Lib.fieldsD s).map tb) ∧ Fsh h t := by
  refine ⟨_, _, Cal.hook (g := fieldsHook) rfl (by simp only [fieldsHook, tb, tb_size]; rw [if_pos (by omega)]), _, rfl, ⟨_, rfl⟩, .inr ⟨h.length, 0, _, _, rfl, by simp; rfl, rfl, fun h0 => by rw [List.eq_nil_of_length_eq_zero h0]; rfl, fun _ => ⟨_, false, rfl, ?_⟩⟩, fun j hj o n c e => ?_⟩
  · unfold cut
    simp only [ESz.one_n, Nat.mul_one]
    rw [if_pos (by simp)]
    simp only [List.drop_zero, Option.some.injEq]
    exact List.take_of_length_le (by simp)
  · injection e with e1
    omega

/-- The ways of Parse's memory that stay. -/
structure PT (h0 H : Heap) (qc qr : Nat) (sg q : SV) (ws : List (List UInt8)) : Prop where
  s : PS h0 H qc sg
  r0 : h0.length ≤ qr
  r1 : qr ≠ qc
  r2 : NotAt sg qr
  r3 : Cel3 H qr .nilS .nilS (.int .i64 0)
  f : IsSl H q 1 ws.length (ws.map tb)
  f1 : NotAt q qc
  f2 : Apart sg q
theorem PT.fs {h0 H h : Heap} {qc qr : Nat} {sg q X : SV} {ws : List (List UInt8)} {A : List Int} {C : List (List Vis)} {L : Int} (p : PT h0 H qc qr sg q ws) (s : Pq h0 H h qc sg X A C L) : IsSl h q 1 ws.length (ws.map tb) :=
  IsSl.keep p.f fun j b hj hn => s.kp j b hj (fun e => by subst e; exact hn p.f1) (by
    rcases p.f2 j with h | h
    · exact h
    · exact absurd h hn)
theorem PT.cr {h0 H h : Heap} {qc qr : Nat} {sg q X : SV} {ws : List (List UInt8)} {A : List Int} {C : List (List Vis)} {L : Int} (p : PT h0 H qc qr sg q ws) (s : Pq h0 H h qc sg X A C L) : Cel3 h qr .nilS .nilS (.int .i64 0) :=
  s.kp qr _ p.r3 p.r1 p.r2
structure Bd (A : List Int) (C : List (List Vis)) (L : Int) (k i : Nat) : Prop where
  a : AOk A
  al : A.length = 64
  cf : C.flatten.length ≤ k
  cl : C.length ≤ i
  l : 0 ≤ L ∧ L ≤ i
  v : ∀ v ∈ C.flatten, 0 ≤ v.1 ∧ v.1 < 64
def I11 (h0 H : Heap) (qc qr : Nat) (sg q : SV) (s : List UInt8) (ws : List (List UInt8)) (R : Option (List (List Vis) × List Int × Int)) (E : Env) (h : Heap) : Prop := ∃ (i : Nat) (A : List Int) (C : List (List Vis)) (L : Int) (X : SV),
  i ≤ ws.length ∧ Pq h0 H h qc sg X A C L ∧ candW (ws.drop i) A C L = R ∧ Bd A C L (ws.take i).flatten.length i ∧
  E = [(0, some (.sc (tb s))), (2, some (.sc (.ptr qr 0))), (4, some (.sc (.ptr qc 0))), (5, some (.sc sg)), (19, some (.sc q)), (20, some (.sc (.int .i64 (ws.length : Nat)))), (21, some (.sc (.int .i64 (i : Nat))))]
def R11 (h0 H : Heap) (qc qr : Nat) (sg : SV) (s : List UInt8) (ws : List (List UInt8)) (R : Option (List (List Vis) × List Int × Int)) (ex : Ex) (E : Env) (h : Heap) : Prop := match ex with
  | .rt => E = [(2, some (.sc (.ptr qr 0))), (3, some (.sc (.int .i64 3)))] ∧ R = none ∧ Cel3 h qr .nilS .nilS (.int .i64 0) ∧ Ext h0 h
  | .ex z => z = 0 ∧ ∃ A C L X a b c d, R = some (C, A, L) ∧ Pq h0 H h qc sg X A C L ∧ Bd A C L ws.flatten.length ws.length ∧
      E = [(0, some (.sc (tb s))), (2, some (.sc (.ptr qr 0))), (4, some (.sc (.ptr qc 0))), (5, some (.sc sg)), (19, a), (20, b), (21, c), (22, d)]
  | .nm => False
theorem wflat_snoc {ws : List (List UInt8)} {i : Nat} {w : List UInt8} (h : ws[i]? = some w) : (ws.take (i + 1)).flatten.length = (ws.take i).flatten.length + w.length := by
  rw [take_snoc h]; simp
set_option maxHeartbeats 8000000 in
theorem round11 (h0 H : Heap) (qc qr : Nat) (sg q : SV) (s : List UInt8) (ws : List (List UInt8)) (R : Option (List (List Vis) × List Int × Int)) (p : PT h0 H qc qr sg q ws) (hl : ws.length ≤ 100000) (hw : ∀ w ∈ ws, w.length ≤ 100000) (E : Env) (h : Heap) (hI : I11 h0 H qc qr sg q s ws R E h) :
    wA FT HKt b11L0 (E.keep [0, 2, 4, 5, 19, 20, 21]) h (wRound (I11 h0 H qc qr sg q s ws R) (cnt ws.length 21) (cnt ws.length 21 E h) (R11 h0 H qc qr sg s ws R)) := by
  obtain ⟨i, A, C, L, X, hi, st, hr, bd, rfl⟩ := hI
  have hbl := bd.l
  by_cases hlt : i < ws.length
  · obtain ⟨w, hx⟩ : ∃ w, ws[i]? = some w := ⟨_, List.getElem?_eq_getElem hlt⟩
    have hwl := hw w (List.mem_of_getElem? hx)
    have hd : ws.drop i = w :: ws.drop (i + 1) := by
      obtain ⟨h9, h10⟩ := List.getElem?_eq_some_iff.1 hx
      rw [List.drop_eq_getElem_cons h9, h10]
    rw [hd, candW] at hr
    have hfl := wflat_snoc hx
    have hs1 : IsSl h q 1 (ws.map tb).length (ws.map tb) := by rw [List.length_map]; exact p.fs st
    obtain ⟨id, off, cap, eq, hrd⟩ := IsSl.at hs1 (show (ws.map tb)[i]? = some (tb w) by rw [List.getElem?_map, hx]; rfl)
    rw [List.length_map] at eq
    have bq := st.c.at
    by_cases hst : w = [42]
    · rw [if_pos hst] at hr
      have hd1 : decide (w = [42]) = true := decide_eq_true hst
      have s2 := st.cell p.s (L + 1)
      have w2 := st.c.wr.2.2.1 (.int .i64 (L + 1))
      subst eq
      repeat' (first | refine w_seq ?_ | refine w_seqN ?_ | refine w_seqX ?_ | refine w_blk ?_ | refine w_blkX ?_ | refine w_skip ?_ | refine w_exit ?_ | refine w_ops ?_ | ((refine i_cond ?_); refine w_condT rfl ?_) | ((refine i_nil ?_); first | refine w_end7 rfl rfl rfl rfl rfl rfl rfl ?_ | refine w_end8 rfl rfl rfl rfl rfl rfl rfl rfl ?_ | refine w_end9 rfl rfl rfl rfl rfl rfl rfl rfl rfl ?_) | ((refine i_cons ?_); first | refine k_idxA rfl rfl (by omega) ?_ | refine k_ld rfl hrd ?_ | refine k_seql (b := [42]) rfl rfl hd1 ?_ | refine k_fldA rfl ?_ | refine k_ldb rfl bq rfl ?_ | refine k_st2 rfl rfl w2 ?_ | refine k_mv rfl ?_ | refine k_add rfl rfl (by omega) ?_ | refine k_lssT rfl rfl (by omega) ?_))
      exact w_roundN ⟨i + 1, A, C, L + 1, X, by omega, s2, hr, ⟨bd.a, bd.al, by have := bd.cf; omega, by have := bd.cl; omega, by omega, bd.v⟩, rfl⟩ (by simp [cnt, Env.get]; omega)
    · rw [if_neg hst] at hr
      have hd1 : decide (w = [42]) = false := decide_eq_false hst
      have k1 := call25 h0 h w sg A (by omega) st.e st.o bd.a
      cases hq : seqL w.length w A [] with
      | none =>
        rw [hq] at k1 hr
        have cr := p.cr st
        subst eq
        repeat' (first | refine w_seq ?_ | refine w_seqN ?_ | refine w_seqR ?_ | refine w_blk ?_ | refine w_blkR ?_ | refine w_skip ?_ | refine w_ret ?_ | refine w_ops ?_ | ((refine i_cond ?_); first | refine w_condT rfl ?_ | refine w_condF rfl ?_) | ((refine i_nil ?_); first | refine w_end2 rfl rfl ?_ | refine w_end8 rfl rfl rfl rfl rfl rfl rfl rfl ?_ | refine w_end9 rfl rfl rfl rfl rfl rfl rfl rfl rfl ?_) | ((refine i_cons ?_); first | refine k_idxA rfl rfl (by omega) ?_ | refine k_ld rfl hrd ?_ | refine k_seql (b := [42]) rfl rfl hd1 ?_ | (refine k_call rfl k1 ?_; rintro v h2 ⟨e2, f2, rfl⟩; have c2 : Cel3 h2 qr .nilS .nilS (.int .i64 0) := f2.kp _ _ cr p.r2) | refine k_bld rfl rfl ?_ | (refine k_st3 rfl rfl c2 ?_; intro h3 q3 c3) | refine k_mv rfl ?_ | refine k_notF rfl ?_ | refine k_lssT rfl rfl (by omega) ?_ | refine k_ok rfl rfl ?_))
        exact w_roundR ⟨rfl, hr.symm, c3, by rw [q3]; exact e2.set p.r0 _⟩
      | some o =>
        obtain ⟨vs, A'⟩ := o
        rw [hq] at k1 hr
        have hrg := seq_rng _ _ _ _ _ _ hq (by simp)
        rw [bd.al] at hrg
        obtain ⟨ss, y1, y2, y3⟩ := st.x
        have hcl := bd.cl
        subst eq
        repeat' (first | refine w_seq ?_ | refine w_seqN ?_ | refine w_blk ?_ | refine w_blkN ?_ | refine w_skip ?_ | refine w_ops ?_ | ((refine i_cond ?_); first | refine w_condT rfl ?_ | refine w_condF rfl ?_) | ((refine i_nil ?_); first | refine w_end7 rfl rfl rfl rfl rfl rfl rfl ?_ | refine w_end8 rfl rfl rfl rfl rfl rfl rfl rfl ?_ | refine w_end9 rfl rfl rfl rfl rfl rfl rfl rfl rfl ?_) | ((refine i_cons ?_); first | refine k_idxA rfl rfl (by omega) ?_ | refine k_ld rfl hrd ?_ | refine k_seql (b := [42]) rfl rfl hd1 ?_ | (refine k_call rfl k1 ?_; rintro v h2 ⟨e2, f2, t, rfl, o2, g2, a2, l2, n2, p2, b2⟩; have s2 := st.seq p.s e2 f2 g2; have b9 := s2.c.at; have x2 := own_fr y2 f2 (p.s.ap st.xf); have ax := apart_new y2 n2) | refine k_fldA rfl ?_ | refine k_ldb rfl b9 rfl ?_ | (refine k_pushL e2 x2 rfl rfl (by simp only [bigN]; omega) ?_; intro X' h3 o3 e3 f3 l3; have c3 : Cel3 h3 qc X .nilS (.int .i64 L) := (f3 _ _ s2.c (s2.xf _ p.s.q1)).1; have w3 := c3.wr.1 X') | refine k_st2 rfl rfl w3 ?_ | refine k_mv rfl ?_ | refine k_notT rfl ?_ | refine k_add rfl rfl (by omega) ?_ | refine k_lssT rfl rfl (by omega) ?_ | refine k_ok rfl rfl ?_))
        have s3 := Pq.push (A := A) p.s s2 y1 x2 (fun i u us a b => ⟨vis_fr (y3 i u us a b).1 f2 (p.s.ap (y3 i u us a b).2.2), (y3 i u us a b).2.1, (y3 i u us a b).2.2⟩) st.len o2 n2 ax o3 e3 f3 l3
        exact w_roundN ⟨i + 1, A', C ++ [vs], L, X', by omega, s3, hr, ⟨a2, by rw [l2]; exact bd.al, by have := bd.cf; rw [hfl, List.flatten_append, List.length_append]; simp only [List.flatten_cons, List.flatten_nil, List.append_nil]; omega, by simp; exact bd.cl, by omega, fun v hv => by
          simp only [List.flatten_append, List.flatten_cons, List.flatten_nil, List.append_nil, List.mem_append] at hv
          rcases hv with hv | hv
          · exact bd.v v hv
          · have := hrg v hv; omega⟩, rfl⟩ (by simp [cnt, Env.get]; omega)
  · have hie : i = ws.length := by omega
    subst hie
    rw [List.drop_length, candW] at hr
    rw [List.take_length] at bd
    repeat' (first | refine w_seq ?_ | refine w_seqN ?_ | refine w_seqX ?_ | refine w_exit ?_ | refine w_ops ?_ | ((refine i_cond ?_); refine w_condF rfl ?_) | ((refine i_nil ?_); refine w_end8 rfl rfl rfl rfl rfl rfl rfl rfl ?_) | ((refine i_cons ?_); refine k_lssF rfl rfl (by omega) ?_))
    exact w_roundX ⟨rfl, A, C, L, X, _, _, _, _, hr.symm, st, bd, rfl⟩

/-! ### The last sign -/
def dn (E : Env) (_ : Heap) : Nat := match E.get 10 with
  | some (.sc (.int _ i)) => i.toNat
  | _ => 0
def I11t (h0 : Heap) (z qc qr : Nat) (s sg : SV) (A : List Int) (E : Env) (h : Heap) : Prop := ∃ n : Nat, h = h0 ∧ n ≤ A.length ∧ trimZ (A.take n) = trimZ A ∧
  E = [(0, some (.sc s)), (2, some (.sc (.ptr qr 0))), (4, some (.sc (.ptr qc 0))), (5, some (.sc sg)), (10, some (.sc (.int .i64 (n : Nat))))]
def R11t (h0 : Heap) (z qc qr : Nat) (s sg : SV) (A : List Int) (ex : Ex) (E : Env) (h : Heap) : Prop := h = h0 ∧ ex = .ex 2 ∧ ∃ (n : Nat) (a : Option AV), n ≤ A.length ∧ A.take n = trimZ A ∧
  E = [(0, some (.sc s)), (2, some (.sc (.ptr qr 0))), (4, some (.sc (.ptr qc 0))), (5, some (.sc sg)), (10, some (.sc (.int .i64 (n : Nat)))), (58, a)]
theorem round11t (h0 H : Heap) (z qc qr : Nat) (s sg : SV) (A : List Int) (ho : Own H h0 sg (ints A)) (hl : A.length ≤ 1000) (E : Env) (h : Heap) (hI : I11t h0 z qc qr s sg A E h) :
    wA FT HKt b11L1 (E.keep [0, 2, 4, 5, 10]) h (wRound (I11t h0 z qc qr s sg A) dn (dn E h) (R11t h0 z qc qr s sg A)) := by
  obtain ⟨n, rfl, hn, ht, rfl⟩ := hI
  by_cases h0' : n = 0
  · subst h0'
    repeat' (first | refine w_seq ?_ | refine w_seqN ?_ | refine w_seqX ?_ | refine w_exit ?_ | refine w_ops ?_ | ((refine i_cond ?_); refine w_condF rfl ?_) | ((refine i_nil ?_); refine w_end6 rfl rfl rfl rfl rfl rfl ?_) | ((refine i_cons ?_); first | refine k_skip rfl ?_ | refine k_mv rfl ?_ | refine k_pickF rfl rfl ?_ | refine k_gtrF rfl rfl (by omega) ?_))
    exact w_roundX ⟨rfl, rfl, 0, _, by omega, by rw [← ht]; rfl, rfl⟩
  · obtain ⟨m, rfl⟩ : ∃ m, n = m + 1 := ⟨n - 1, by omega⟩
    have hlt : m < A.length := by omega
    obtain ⟨x, hx⟩ : ∃ x, A[m]? = some x := ⟨_, List.getElem?_eq_getElem hlt⟩
    have hb : (ints A)[((((m + 1 : Nat) : Int)) - 1).toNat]? = some (.int .i64 x) := by
      rw [show ((((m + 1 : Nat) : Int)) - 1).toNat = m by omega, List.getElem?_map, hx]; rfl
    obtain ⟨id, cap, e2, r2⟩ := Own.rd ho hb
    rw [List.length_map] at e2
    rw [take_snoc hx, trim_snoc] at ht
    by_cases hz : x = 0
    · rw [if_pos hz] at ht
      subst e2
      repeat' (first | refine w_seq ?_ | refine w_seqN ?_ | refine w_blk ?_ | refine w_blkN ?_ | refine w_skip ?_ | refine w_ops ?_ | ((refine i_cond ?_); refine w_condT rfl ?_) | ((refine i_nil ?_); first | refine w_end5 rfl rfl rfl rfl rfl ?_ | refine w_end6 rfl rfl rfl rfl rfl rfl ?_) | ((refine i_cons ?_); first | refine k_idxA rfl rfl (by omega) ?_ | refine k_ld rfl r2 ?_ | refine k_want rfl ?_ | refine k_mv rfl ?_ | refine k_pickT rfl rfl ?_ | refine k_sub rfl rfl (by omega) ?_ | refine k_gtrT rfl rfl (by omega) ?_ | refine k_eqlT rfl rfl (by omega) ?_))
      have em : (((m + 1 : Nat) : Int)) - 1 = (m : Int) := by omega
      exact w_roundN ⟨m, rfl, by omega, ht, by rw [em]⟩ (by simp [dn, Env.get])
    · rw [if_neg hz] at ht
      subst e2
      repeat' (first | refine w_seq ?_ | refine w_seqN ?_ | refine w_seqX ?_ | refine w_exit ?_ | refine w_ops ?_ | ((refine i_cond ?_); refine w_condF rfl ?_) | ((refine i_nil ?_); refine w_end6 rfl rfl rfl rfl rfl rfl ?_) | ((refine i_cons ?_); first | refine k_idxA rfl rfl (by omega) ?_ | refine k_ld rfl r2 ?_ | refine k_want rfl ?_ | refine k_mv rfl ?_ | refine k_pickT rfl rfl ?_ | refine k_sub rfl rfl (by omega) ?_ | refine k_gtrT rfl rfl (by omega) ?_ | refine k_eqlF rfl rfl (by omega) ?_))
      exact w_roundX ⟨rfl, rfl, m + 1, _, hn, by rw [take_snoc hx]; exact ht, rfl⟩
end Go.Proofs.YtjmapbmdfbdomaaDoor
