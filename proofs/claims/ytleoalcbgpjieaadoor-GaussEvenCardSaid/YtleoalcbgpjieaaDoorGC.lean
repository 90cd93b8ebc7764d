/- gauss.Of. -/
import Derived.Test.YtleoalcbgpjieaaDoorGB
namespace Go.Proofs.YtleoalcbgpjieaaDoor
open Go.Ab
set_option linter.unusedVariables false
set_option linter.unusedSimpArgs false
set_option maxRecDepth 20000
set_option maxHeartbeats 4000000
attribute [local irreducible] wOps wA wSeq wBlk wRound wOpsD

def I10v (hb : Heap) (qr qo : Nat) (o f : SV) (n i : Nat) (L : List Nat) (E : Env) (h : Heap) : Prop := ∃ (k : Nat) (u : SV), k ≤ L.length ∧ Ext hb h ∧ Own2m hb h u k L.length (vcs ((visL L).take k)) ∧
  E = [(2, some (.sc (.ptr qr 0))), (4, some (.sc (.ptr qo 0))), (7, some (.sc u)), (21, some (.sc o)), (22, some (.sc (.int .i64 (n : Nat)))), (23, some (.sc (.int .i64 (i : Nat)))), (30, some (.sc f)), (31, some (.sc (.int .i64 (L.length : Nat)))), (32, some (.sc (.int .i64 (k : Nat))))]
def R10v (hb : Heap) (qr qo : Nat) (o : SV) (n i : Nat) (L : List Nat) (ex : Ex) (E : Env) (h : Heap) : Prop := ex = .ex 2 ∧ Ext hb h ∧ ∃ u a b c d, Own2m hb h u (visL L).length L.length (vcs (visL L)) ∧
  E = [(2, some (.sc (.ptr qr 0))), (4, some (.sc (.ptr qo 0))), (7, some (.sc u)), (21, some (.sc o)), (22, some (.sc (.int .i64 (n : Nat)))), (23, some (.sc (.int .i64 (i : Nat)))), (30, a), (31, b), (32, c), (33, d)]
theorem round10v (hb : Heap) (qr qo : Nat) (o f : SV) (n i : Nat) (L : List Nat) (hf : IsStr hb f L) (hl : L.length ≤ 1000) (hg : ∀ g ∈ L, g < 1000) (E : Env) (h : Heap) (hI : I10v hb qr qo o f n i L E h) :
    wA FT HKt b10L1 (E.keep [2, 4, 7, 21, 22, 23, 30, 31, 32]) h (wRound (I10v hb qr qo o f n i L) (cnt L.length 32) (cnt L.length 32 E h) (R10v hb qr qo o n i L)) := by
  obtain ⟨k, u, hk, e, ow, rfl⟩ := hI
  have hf' := hf.ext e
  by_cases hlt : k < L.length
  · obtain ⟨x, hx⟩ : ∃ x, L[k]? = some x := ⟨_, List.getElem?_eq_getElem hlt⟩
    obtain ⟨id2, off2, cap2, rfl, hr2⟩ := hf'.at hx
    have hxb := hg x (List.mem_of_getElem? hx)
    have en := visL_next hx
    by_cases ho : x % 2 = 1
    · rw [decide_eq_true ho] at en
      repeat' (first | refine w_seq ?_ | refine w_seqN ?_ | refine w_blk ?_ | refine w_blkN ?_ | refine w_skip ?_ | refine w_ops ?_ | ((refine i_cond ?_); refine w_condT rfl ?_) | ((refine i_nil ?_); first | refine w_end9 rfl rfl rfl rfl rfl rfl rfl rfl rfl ?_ | refine w_end10 rfl rfl rfl rfl rfl rfl rfl rfl rfl rfl ?_) | ((refine i_cons ?_); first | refine k_idxA (esz := 1) rfl rfl (by omega) ?_ | refine k_ld rfl hr2 ?_ | refine k_bld rfl rfl ?_ | (refine k_push2m e ow hlt rfl rfl (by simp only [bigN]; omega) ?_; intro u' h3 o3 e3) | refine k_mv rfl ?_ | refine k_add rfl rfl (by omega) ?_ | refine k_quo rfl rfl (by omega) ?_ | refine k_rem rfl rfl (by omega) ?_ | refine k_lssT rfl rfl (by omega) ?_ | refine k_eqlT rfl rfl (by omega) ?_))
      exact w_roundN ⟨k + 1, u', by omega, e3, by rw [en]; exact o3, rfl⟩ (by simp [cnt, Env.get]; omega)
    · rw [decide_eq_false ho] at en
      repeat' (first | refine w_seq ?_ | refine w_seqN ?_ | refine w_blk ?_ | refine w_blkN ?_ | refine w_skip ?_ | refine w_ops ?_ | ((refine i_cond ?_); refine w_condT rfl ?_) | ((refine i_nil ?_); first | refine w_end9 rfl rfl rfl rfl rfl rfl rfl rfl rfl ?_ | refine w_end10 rfl rfl rfl rfl rfl rfl rfl rfl rfl rfl ?_) | ((refine i_cons ?_); first | refine k_idxA (esz := 1) rfl rfl (by omega) ?_ | refine k_ld rfl hr2 ?_ | refine k_bld rfl rfl ?_ | (refine k_push2m e ow hlt rfl rfl (by simp only [bigN]; omega) ?_; intro u' h3 o3 e3) | refine k_mv rfl ?_ | refine k_add rfl rfl (by omega) ?_ | refine k_quo rfl rfl (by omega) ?_ | refine k_rem rfl rfl (by omega) ?_ | refine k_lssT rfl rfl (by omega) ?_ | refine k_eqlF rfl rfl (by omega) ?_))
      exact w_roundN ⟨k + 1, u', by omega, e3, by rw [en]; exact o3, rfl⟩ (by simp [cnt, Env.get]; omega)
  · have hke : k = L.length := by omega
    subst hke
    have hvl := visL_len L
    rw [List.take_of_length_le (by omega)] at ow
    repeat' (first | refine w_seq ?_ | refine w_seqN ?_ | refine w_seqX ?_ | refine w_exit ?_ | refine w_ops ?_ | ((refine i_cond ?_); refine w_condF rfl ?_) | ((refine i_nil ?_); refine w_end10 rfl rfl rfl rfl rfl rfl rfl rfl rfl rfl ?_) | ((refine i_cons ?_); refine k_lssF rfl rfl (by omega) ?_))
    exact w_roundX ⟨rfl, e, u, _, _, _, _, by rw [hvl]; exact ow, rfl⟩
def I10c (h0 H : Heap) (qr qo : Nat) (o S : SV) (l : Int) (Ls : List (List Nat)) (E : Env) (h : Heap) : Prop := ∃ (i : Nat) (Y : SV), i ≤ Ls.length ∧ Po h0 H h qo Y S l ((codeC Ls).take i) ∧
  E = [(2, some (.sc (.ptr qr 0))), (4, some (.sc (.ptr qo 0))), (21, some (.sc o)), (22, some (.sc (.int .i64 (Ls.length : Nat)))), (23, some (.sc (.int .i64 (i : Nat))))]
def R10c (h0 H : Heap) (qr qo : Nat) (S : SV) (l : Int) (Ls : List (List Nat)) (ex : Ex) (E : Env) (h : Heap) : Prop := ex = .ex 0 ∧ ∃ Y a b c d, Po h0 H h qo Y S l (codeC Ls) ∧
  E = [(2, some (.sc (.ptr qr 0))), (4, some (.sc (.ptr qo 0))), (21, a), (22, b), (23, c), (24, d)]
theorem round10c (h0 H : Heap) (qr qo : Nat) (o S : SV) (l : Int) (Ls : List (List Nat)) (hO : StrO H qo o Ls) (hLs : Ls.length ≤ 256) (hsm : ∀ L ∈ Ls, L.length ≤ 256 ∧ ∀ g ∈ L, g < 1000) (q0 : h0.length ≤ qo) (q1 : qo < H.length) (E : Env) (h : Heap) (hI : I10c h0 H qr qo o S l Ls E h) :
    wA FT HKt b10L0 (E.keep [2, 4, 21, 22, 23]) h (wRound (I10c h0 H qr qo o S l Ls) (cnt Ls.length 23) (cnt Ls.length 23 E h) (R10c h0 H qr qo S l Ls)) := by
  obtain ⟨i, Y, hi, st, rfl⟩ := hI
  have hcl : (codeC Ls).length = Ls.length := by simp [codeC]
  have hO' := hO.go st.kp
  by_cases hlt : i < Ls.length
  · obtain ⟨L, hx⟩ : ∃ L, Ls[i]? = some L := ⟨_, List.getElem?_eq_getElem hlt⟩
    have hC : (codeC Ls)[i]? = some (visL L) := by simp [codeC, hx]
    have en : (codeC Ls).take (i + 1) = (codeC Ls).take i ++ [visL L] := take_snoc hC
    obtain ⟨hL1, hL2⟩ := hsm L (List.mem_of_getElem? hx)
    obtain ⟨id, off, cap, f, rfl, hr, hf⟩ := hO'.at hx
    have lf := hf.len
    repeat' (first | refine w_seq ?_ | refine w_seqN ?_ | refine w_blk ?_ | refine w_skip ?_ | refine w_ops ?_ | ((refine i_cond ?_); refine w_condT rfl ?_) | ((refine i_nil ?_); first | refine w_end6 rfl rfl rfl rfl rfl rfl ?_ | refine w_end7 rfl rfl rfl rfl rfl rfl rfl ?_ | refine w_end9 rfl rfl rfl rfl rfl rfl rfl rfl rfl ?_) | ((refine i_cons ?_); first | refine k_idxA (esz := 1) rfl rfl (by omega) ?_ | refine k_ld rfl hr ?_ | refine k_len rfl lf ?_ | (refine k_mk2 (h0 := h) (Ext.refl _) rfl rfl (by simp only [bigN]; omega) ?_; intro u1 h1 o1 e1 e1') | refine k_mv rfl ?_ | refine k_lssT rfl rfl (by omega) ?_))
    refine w_loop (I10v h qr qo (.slc id off Ls.length cap) f Ls.length i L) (cnt L.length 32) (R10v h qr qo (.slc id off Ls.length cap) Ls.length i L) ⟨0, u1, Nat.zero_le _, e1, o1, rfl⟩ (round10v h qr qo _ f Ls.length i L hf (by omega) hL2) ?_
    rintro ex E' h2 ⟨rfl, e2, u, a, b, c, d, o2, rfl⟩
    have s2 := st.ext e2
    obtain ⟨ss, x1, x2, x3⟩ := s2.x
    have b2 := s2.c.at
    have hfu : Fsh h u := o2.fsh
    have hau : Ab.Apart Y u := by
      obtain ⟨ss', y1, y2, y3⟩ := st.x
      exact apart_new y2 hfu
    have v2 := Own2m.vis o2
    repeat' (first | refine w_seqN ?_ | refine w_blkN ?_ | refine w_blkX ?_ | refine w_ops ?_ | ((refine i_nil ?_); refine w_end5 rfl rfl rfl rfl rfl ?_) | ((refine i_cons ?_); first | refine k_fldA rfl ?_ | refine k_ldb rfl b2 rfl ?_ | (refine k_pushL s2.e x2 rfl rfl (by simp only [bigN]; rw [x1, List.length_take]; omega) ?_; intro Y' h3 o3 e3 f3 l3; have c3 : Cel3 h3 qo Y S (.int .i64 l) := (f3 _ _ s2.c (s2.xf _ q1)).1; have w3 := c3.wr.1 Y') | refine k_st2 rfl rfl w3 ?_ | refine k_mv rfl ?_ | refine k_add rfl rfl (by omega) ?_))
    have s3 := Po.push q0 q1 s2 x1 x3 v2 (fun j hj => hfu j (Nat.lt_of_lt_of_le hj st.len)) hau o3 e3 f3 l3
    exact w_roundN ⟨i + 1, Y', by omega, by rw [en]; exact s3, rfl⟩ (by simp [cnt, Env.get]; omega)
  · have hie : i = Ls.length := by omega
    subst hie
    rw [← hcl, List.take_length] at st
    repeat' (first | refine w_seq ?_ | refine w_seqN ?_ | refine w_seqX ?_ | refine w_exit ?_ | refine w_ops ?_ | ((refine i_cond ?_); refine w_condF rfl ?_) | ((refine i_nil ?_); refine w_end6 rfl rfl rfl rfl rfl rfl ?_) | ((refine i_cons ?_); refine k_lssF rfl rfl (by omega) ?_))
    exact w_roundX ⟨rfl, Y, _, _, _, _, st, rfl⟩

theorem IsStrs.lenS {h : Heap} {o : SV} {Ls : List (List Nat)} (i : IsStrs h o Ls) : lenS false o = some (Ls.length : Int) := by
  obtain ⟨fs, h1, h2⟩ := i
  rw [← F2.length h2]; exact IsSl.len h1
/-- What Of answers. -/
def OfR (xs ms : List Int) (l : Int) (h0 : Heap) (v : AV) (h' : Heap) : Prop := Ext h0 h' ∧ ((PV xs ms l ∧ ∃ Y S, v = .tup [.agg [Y, S, .int .i64 l], .sc (.int .i64 0)] ∧ IsCode h' Y S (codeG xs ms l)) ∨ (¬ PV xs ms l ∧ v = .tup [.agg [.nilS, .nilS, .int .i64 0], .sc (.int .i64 1)]))
theorem call10 (h0 : Heap) (s m : SV) (l : Int) (xs ms : List Int) (hx : IsInts h0 s xs) (hs : IsInts h0 m ms) :
    ∃ v h', Cal FT HKt 10 [.agg [s, m, .int .i64 l]] h0 v h' ∧ OfR xs ms l h0 v h' := by
  refine Cal.of (F := a10) rfl rfl rfl ?_
  repeat' (first | refine w_seq ?_ | refine w_seqN ?_ | refine w_ops ?_ | ((refine i_nil ?_); refine w_end2 rfl rfl ?_) | ((refine i_cons ?_); first | (refine k_box rfl rfl ?_; intro h1 e1 l1 b1) | (refine k_new3 ?_; intro h2 e2 l2 c2; have b2 := b1.ext e2) | refine k_mv rfl ?_))
  have k1 := call18 (HK := HKt) rfl rfl rfl rfl rfl h2 s m l xs ms (IsSl.ext hx (e1.trans e2)) (IsSl.ext hs (e1.trans e2))
  have n1 := e1.len
  have n2 := e2.len
  by_cases hV : PV xs ms l
  · have hF := hV.1
    have h64 := hF.n64
    have h4 := hF.four
    have kc := fun H (e : Ext h0 H) => call29 H s xs (IsSl.ext hx e) (by omega)
    repeat' (first | refine w_seq ?_ | refine w_seqN ?_ | refine w_skip ?_ | refine w_ops ?_ | refine w_opsD ?_ | refine d_one ?_ | refine d_nil ?_ | ((refine i_cond ?_); refine w_condF rfl ?_) | ((refine i_nil ?_); first | refine d_same ?_ | refine d_ord ?_ | refine d_ext (by assumption) ?_ | refine w_end3 rfl rfl rfl ?_) | ((refine i_cons ?_); first | refine k_ldA rfl b2 rfl ?_ | (refine k_call rfl k1 ?_; rintro v h3 ⟨e3, bb, rfl, q⟩; obtain rfl := q.2 hV; have b3 := b2.ext e3; have x03 := e1.trans (e2.trans e3)) | refine k_fldA rfl ?_ | refine k_ldb rfl b4 rfl ?_ | refine k_ldb rfl b3 rfl ?_ | (refine k_call rfl (kc h3 x03) ?_; rintro v h4' ⟨e4, s4, rfl, i4, f4⟩; have b4 := b3.ext e4) | refine k_bld rfl rfl ?_ | (have c2' := b4; refine k_new3 ?_; intro h5 e5 l5 c5) | (refine k_st3 rfl rfl c5 ?_; intro h6 q6 c6) | refine k_notT rfl ?_))
    have e6 : Ext h4' h6 := by rw [q6]; exact e5.set (Nat.le_refl _) _
    have b6 := b4.ext e6
    have x06 : Ext h0 h6 := x03.trans (e4.trans e6)
    have k2 := call30 (HK := HKt) rfl rfl rfl rfl rfl rfl rfl rfl rfl rfl rfl h6 s m l xs ms (IsSl.ext hx x06) (IsSl.ext hs x06) hV
    repeat' (first | refine w_seqN ?_ | refine w_blk ?_ | ((refine i_nil ?_); refine w_end5 rfl rfl rfl rfl rfl ?_) | ((refine i_cons ?_); first | refine k_ldA rfl b6 rfl ?_ | (refine k_call rfl k2 ?_; rintro v h7 ⟨e7, o, rfl, iS⟩; have lo := (iS.is.lenS)) | refine k_len rfl lo ?_ | refine k_mv rfl ?_))
    have n3 := e3.len
    have n4 := e4.len
    have n6 := e6.len
    have n7 := e7.len
    have l6 : h6.length = h4'.length + 1 := by rw [q6, List.length_set, l5]
    have hO := iS.to (q := h4'.length) (by omega)
    have po : Po h0 h7 h7 h4'.length .nilS s4 l ((codeC (strs xs ms)).take 0) := ⟨x06.trans e7, Nat.le_refl _, fun _ _ h _ => h, c6.ext e7, ⟨[], by simp, .inl ⟨rfl, rfl⟩, by simp⟩, fsh_nil _⟩
    refine w_loop (I10c h0 h7 h1.length h4'.length o s4 l (strs xs ms)) (cnt (strs xs ms).length 23) (R10c h0 h7 h1.length h4'.length s4 l (strs xs ms)) ⟨0, .nilS, Nat.zero_le _, po, rfl⟩ (round10c h0 h7 _ _ o s4 l _ hO (strs_len hF) (fun L hL => ⟨(strs_small hF L hL).1, fun g hg => by have := (strs_small hF L hL).2 g hg; omega⟩) (by omega) (by omega)) ?_
    rintro ex E' h8 ⟨rfl, Y, a, b, c, d, s8, rfl⟩
    have r8 : Cel3 h8 h1.length .nilS .nilS (.int .i64 0) := s8.kp _ _ (c2.ext (e3.trans (e4.trans (e6.trans e7)))) (by omega)
    have c8 := s8.c
    repeat' (first | refine w_seq ?_ | refine w_seqN ?_ | refine w_blkX ?_ | refine w_ret ?_ | refine w_ops ?_ | ((refine i_nil ?_); refine w_end2 rfl rfl ?_) | ((refine i_cons ?_); first | refine k_ld3 rfl c8 ?_ | (refine k_st3 rfl rfl r8 ?_; intro h9 q9 c9) | refine k_mv rfl ?_))
    have e9 : Ext h0 h9 := by rw [q9]; exact s8.e.set (by omega) _
    obtain ⟨ss, x1, x2, x3⟩ := s8.x
    have hlt : h1.length < h7.length := by omega
    have i7 := IsSl.ext i4 (e6.trans e7)
    have nq : NotAt s4 h4'.length := isSl_not i4 (Nat.le_refl _)
    have nr : NotAt s4 h1.length := f4 _ (by omega)
    have i8 : IsInts h8 s4 xs := IsSl.keep i7 fun j b hj ht => s8.kp j b hj fun e => by subst e; exact ht nq
    refine ⟨.inr rfl, oK_cellt rfl c9.read rfl ⟨e9, .inl ⟨hV, Y, s4, rfl, ⟨⟨ss, x1, ?_, fun i t vs a b => ?_⟩, ?_⟩⟩⟩⟩
    · rw [q9]
      exact (own_set x2 (s8.xf _ hlt) _).sl
    · rw [q9]
      exact vis_set (x3 i t vs a b).1 ((x3 i t vs a b).2.2 _ hlt) _
    · rw [q9]
      exact IsSl.keep i8 fun j b hj ht => by rw [List.getElem?_set_ne (fun e => by subst e; exact ht nr)]; exact hj
  · have hbF : ∀ bb : Bool, (bb = true ↔ PV xs ms l) → bb = false := fun bb q => by cases bb with
      | false => rfl
      | true => exact absurd (q.1 rfl) hV
    repeat' (first | refine w_seq ?_ | refine w_seqN ?_ | refine w_seqR ?_ | refine w_ret ?_ | refine w_ops ?_ | ((refine i_cond ?_); refine w_condT rfl ?_) | ((refine i_nil ?_); first | refine w_end2 rfl rfl ?_ | refine w_end3 rfl rfl rfl ?_) | ((refine i_cons ?_); first | refine k_ldA rfl b2 rfl ?_ | (refine k_call rfl k1 ?_; rintro v h3 ⟨e3, bb, rfl, q⟩; obtain rfl := hbF _ q; have r3 := c2.ext e3) | refine k_bld rfl rfl ?_ | (refine k_st3 rfl rfl r3 ?_; intro h6 q6 c6) | refine k_mv rfl ?_ | refine k_notF rfl ?_))
    have e6 : Ext h0 h6 := by rw [q6]; exact (e1.trans (e2.trans e3)).set (by omega) _
    exact ⟨.inr rfl, oK_cellt rfl c6.read rfl ⟨e6, .inr ⟨hV, rfl⟩⟩⟩
end Go.Proofs.YtleoalcbgpjieaaDoor
