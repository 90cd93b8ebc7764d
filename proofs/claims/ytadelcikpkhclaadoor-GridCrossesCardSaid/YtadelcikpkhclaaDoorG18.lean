/- The law GridCrosses, reckoned. -/
import Derived.Test.YtadelcikpkhclaaDoorG17
namespace Go.Proofs.YtadelcikpkhclaaDoor
open Go.Ab
set_option linter.unusedVariables false
set_option maxRecDepth 20000
attribute [local irreducible] wOps wA wSeq wBlk wRound wOpsD
variable {HK : FuncId → Option Hook}

def I4b (h0 : Heap) (p n : Nat) (tm : SV) (E : Env) (h : Heap) : Prop := ∃ k : Nat, k ≤ n ∧ h = h0 ∧ E = [(1, some (.sc (.ptr p 0))), (150, some (.sc tm)), (151, some (.sc (.int .i64 n))), (152, some (.sc (.int .i64 k)))]
def R4b (h0 : Heap) (ex : Ex) (E : Env) (h : Heap) : Prop := ex = .ex 2
set_option maxHeartbeats 4000000 in
theorem round4b (h0 : Heap) (p n : Nat) (X O tm : SV) (g : Gr) (hp : Cel h0 p X O) (hg : IsG h0 X O g) (hm : IsInts h0 tm (cntL n (crs g))) (hV : Vg n g) (E : Env) (h : Heap) (hI : I4b h0 p n tm E h) :
    wA FT HK1 b4L1 (E.keep [1, 150, 151, 152]) h (wRound (I4b h0 p n tm) (cnt n 152) (cnt n 152 E h) (R4b h0)) := by
  obtain ⟨k, hk, rfl, rfl⟩ := hI
  have n40 := hV.few
  have e1 := hV.vd.p1.len
  have e2 := hV.vd.p2.len
  by_cases hlt : k < n
  · have hb := cntC_bound hV.vd hlt (hV.df k hlt)
    have i1 := hV.vd.in1 hlt
    have i2 := hV.vd.in2 hlt
    unfold In01 at i1 i2
    obtain ⟨iX, oX, kX, rfl, hrX⟩ := IsInts.at hg.x (atN_get (xs := g.1) (k := k) (by omega))
    obtain ⟨iO, oO, kO, rfl, hrO⟩ := IsInts.at hg.o (atN_get (xs := g.2) (k := k) (by omega))
    obtain ⟨iM, oM, kM, rfl, hrM⟩ := IsInts.at hm (cntL_get (n := n) (i := k) (l := crs g) hlt)
    have hml := cntL_len n (crs g)
    repeat' (first
      | refine w_seq ?_
      | refine w_seqN ?_
      | refine w_seqX ?_
      | refine w_seqR ?_
      | refine w_blk ?_
      | refine w_blkN ?_
      | refine w_blkX ?_
      | refine w_blkR ?_
      | refine w_skip ?_
      | refine w_ret ?_
      | refine w_exit ?_
      | refine w_ops ?_
      | refine w_opsD ?_
      | refine d_one ?_
      | refine d_nil ?_
      | ((refine i_cond ?_); first | refine w_condT rfl ?_ | refine w_condF rfl ?_)
      | ((refine i_nil ?_); first | refine d_same ?_ | refine d_ord ?_ | refine d_ext ⟨_, rfl⟩ ?_ | refine d_ext (extA _ _ _) ?_ | refine d_ext (by assumption) ?_ | refine w_end0 ?_ | refine w_end1 rfl ?_ | refine w_end2 rfl rfl ?_ | refine w_end3 rfl rfl rfl ?_ | refine w_end4 rfl rfl rfl rfl ?_ | refine w_end5 rfl rfl rfl rfl rfl ?_ | refine w_end6 rfl rfl rfl rfl rfl rfl ?_ | refine w_end7 rfl rfl rfl rfl rfl rfl rfl ?_ | refine w_end8 rfl rfl rfl rfl rfl rfl rfl rfl ?_ | refine w_end9 rfl rfl rfl rfl rfl rfl rfl rfl rfl ?_ | refine w_end10 rfl rfl rfl rfl rfl rfl rfl rfl rfl rfl ?_ | refine w_end11 rfl rfl rfl rfl rfl rfl rfl rfl rfl rfl rfl ?_ | refine w_end12 rfl rfl rfl rfl rfl rfl rfl rfl rfl rfl rfl rfl ?_ | refine w_end13 rfl rfl rfl rfl rfl rfl rfl rfl rfl rfl rfl rfl rfl ?_ | refine w_end14 rfl rfl rfl rfl rfl rfl rfl rfl rfl rfl rfl rfl rfl rfl ?_ | refine w_end15 rfl rfl rfl rfl rfl rfl rfl rfl rfl rfl rfl rfl rfl rfl rfl ?_ | refine w_end16 rfl rfl rfl rfl rfl rfl rfl rfl rfl rfl rfl rfl rfl rfl rfl rfl ?_)
      | ((refine i_cons ?_); first
        | refine k_ldb rfl hp.at rfl ?_
        | refine k_idxA rfl rfl (by omega) ?_
        | refine k_ld rfl hrX ?_
        | refine k_ld rfl hrO ?_
        | refine k_ld rfl hrM ?_
        | refine k_skip rfl ?_
        | refine k_want rfl ?_
        | refine k_mv rfl ?_
        | refine k_pickT rfl rfl ?_
        | refine k_pickF rfl rfl ?_
        | refine k_notT rfl ?_
        | refine k_notF rfl ?_
        | refine k_add rfl rfl (by omega) ?_
        | refine k_sub rfl rfl (by omega) ?_
        | refine k_mul rfl rfl (by omega) ?_
        | refine k_neg rfl (by omega) ?_
        | refine k_quo rfl rfl (by omega) ?_
        | refine k_rem rfl rfl (by omega) ?_
        | refine k_conv rfl (by omega) ?_
        | refine k_max rfl rfl ?_
        | refine k_min rfl rfl ?_
        | refine k_lssT rfl rfl (by omega) ?_
        | refine k_lssF rfl rfl (by omega) ?_
        | refine k_lss rfl rfl (fun hc => ?_) (fun hc => ?_)
        | refine k_leqT rfl rfl (by omega) ?_
        | refine k_leqF rfl rfl (by omega) ?_
        | refine k_leq rfl rfl (fun hc => ?_) (fun hc => ?_)
        | refine k_gtrT rfl rfl (by omega) ?_
        | refine k_gtrF rfl rfl (by omega) ?_
        | refine k_gtr rfl rfl (fun hc => ?_) (fun hc => ?_)
        | refine k_geqT rfl rfl (by omega) ?_
        | refine k_geqF rfl rfl (by omega) ?_
        | refine k_geq rfl rfl (fun hc => ?_) (fun hc => ?_)
        | refine k_eqlT rfl rfl (by omega) ?_
        | refine k_eqlF rfl rfl (by omega) ?_
        | refine k_eql rfl rfl (fun hc => ?_) (fun hc => ?_)
        | refine k_neqT rfl rfl (by omega) ?_
        | refine k_neqF rfl rfl (by omega) ?_
        | refine k_neq rfl rfl (fun hc => ?_) (fun hc => ?_)
        | refine k_len rfl rfl ?_
        | refine k_ok rfl rfl ?_))
    exact w_roundN ⟨k + 1, by omega, rfl, rfl⟩ (by simp [cnt, Env.get]; omega)
  · repeat' (first
   | refine w_seq ?_
   | refine w_seqN ?_
   | refine w_seqX ?_
   | refine w_seqR ?_
   | refine w_blk ?_
   | refine w_blkN ?_
   | refine w_blkX ?_
   | refine w_blkR ?_
   | refine w_skip ?_
   | refine w_ret ?_
   | refine w_exit ?_
   | refine w_ops ?_
   | refine w_opsD ?_
   | refine d_one ?_
   | refine d_nil ?_
   | ((refine i_cond ?_); first | refine w_condT rfl ?_ | refine w_condF rfl ?_)
   | ((refine i_nil ?_); first | refine d_same ?_ | refine d_ord ?_ | refine d_ext ⟨_, rfl⟩ ?_ | refine d_ext (extA _ _ _) ?_ | refine d_ext (by assumption) ?_ | refine w_end0 ?_ | refine w_end1 rfl ?_ | refine w_end2 rfl rfl ?_ | refine w_end3 rfl rfl rfl ?_ | refine w_end4 rfl rfl rfl rfl ?_ | refine w_end5 rfl rfl rfl rfl rfl ?_ | refine w_end6 rfl rfl rfl rfl rfl rfl ?_ | refine w_end7 rfl rfl rfl rfl rfl rfl rfl ?_ | refine w_end8 rfl rfl rfl rfl rfl rfl rfl rfl ?_ | refine w_end9 rfl rfl rfl rfl rfl rfl rfl rfl rfl ?_ | refine w_end10 rfl rfl rfl rfl rfl rfl rfl rfl rfl rfl ?_ | refine w_end11 rfl rfl rfl rfl rfl rfl rfl rfl rfl rfl rfl ?_ | refine w_end12 rfl rfl rfl rfl rfl rfl rfl rfl rfl rfl rfl rfl ?_ | refine w_end13 rfl rfl rfl rfl rfl rfl rfl rfl rfl rfl rfl rfl rfl ?_ | refine w_end14 rfl rfl rfl rfl rfl rfl rfl rfl rfl rfl rfl rfl rfl rfl ?_ | refine w_end15 rfl rfl rfl rfl rfl rfl rfl rfl rfl rfl rfl rfl rfl rfl rfl ?_ | refine w_end16 rfl rfl rfl rfl rfl rfl rfl rfl rfl rfl rfl rfl rfl rfl rfl rfl ?_)
   | ((refine i_cons ?_); first
     | refine k_skip rfl ?_
     | refine k_want rfl ?_
     | refine k_mv rfl ?_
     | refine k_pickT rfl rfl ?_
     | refine k_pickF rfl rfl ?_
     | refine k_notT rfl ?_
     | refine k_notF rfl ?_
     | refine k_add rfl rfl (by omega) ?_
     | refine k_sub rfl rfl (by omega) ?_
     | refine k_mul rfl rfl (by omega) ?_
     | refine k_neg rfl (by omega) ?_
     | refine k_quo rfl rfl (by omega) ?_
     | refine k_rem rfl rfl (by omega) ?_
     | refine k_conv rfl (by omega) ?_
     | refine k_max rfl rfl ?_
     | refine k_min rfl rfl ?_
     | refine k_lssT rfl rfl (by omega) ?_
     | refine k_lssF rfl rfl (by omega) ?_
     | refine k_lss rfl rfl (fun hc => ?_) (fun hc => ?_)
     | refine k_leqT rfl rfl (by omega) ?_
     | refine k_leqF rfl rfl (by omega) ?_
     | refine k_leq rfl rfl (fun hc => ?_) (fun hc => ?_)
     | refine k_gtrT rfl rfl (by omega) ?_
     | refine k_gtrF rfl rfl (by omega) ?_
     | refine k_gtr rfl rfl (fun hc => ?_) (fun hc => ?_)
     | refine k_geqT rfl rfl (by omega) ?_
     | refine k_geqF rfl rfl (by omega) ?_
     | refine k_geq rfl rfl (fun hc => ?_) (fun hc => ?_)
     | refine k_eqlT rfl rfl (by omega) ?_
     | refine k_eqlF rfl rfl (by omega) ?_
     | refine k_eql rfl rfl (fun hc => ?_) (fun hc => ?_)
     | refine k_neqT rfl rfl (by omega) ?_
     | refine k_neqF rfl rfl (by omega) ?_
     | refine k_neq rfl rfl (fun hc => ?_) (fun hc => ?_)
     | refine k_len rfl rfl ?_
     | refine k_ok rfl rfl ?_))
    exact w_roundX rfl

theorem cntL_nil (n : Nat) : ints (cntL n []) = List.replicate n (.int .i64 0) := by
  apply List.ext_getElem?
  intro i
  by_cases h : i < n
  · rw [List.getElem?_map, cntL_get h, List.getElem?_replicate, if_pos h]; rfl
  · rw [List.getElem?_eq_none (by rw [List.length_map, cntL_len]; omega), List.getElem?_eq_none (by rw [List.length_replicate]; omega)]

set_option maxHeartbeats 8000000 in
theorem crosses (h0 : Heap) (X : SV) (xs : List Int) (hX : IsInts h0 X xs) (O : SV) (os : List Int) (hO : IsInts h0 O os) :
    ∃ v h', Cal FT HK1 4 [.agg [X, O]] h0 v h' ∧ v = .sc (.bool true) := by
  refine Cal.of (F := a4) rfl rfl rfl ?_
  have s : Stt h0 h0 [] [(X, O, (xs, os))] := Stt.start ⟨hX, hO⟩
  have hl0 := IsSl.len hX
  generalize hg : (xs, os) = g at *
  obtain rfl : xs = g.1 := by rw [← hg]
  by_cases hf : g.1.length ≤ 16 ∧ g.2.length ≤ 32
  · by_cases hv : VG g.1 g.2
    · have hV := (vg_iff g).1 hv
      have n40 := hV.few
      have sz := hV.vd.rg.sz
      have k1 := fun h X O hg => few12 h X O g hg
      rw [decide_eq_true hf] at k1
      have k2 := fun h X O hg => valid13 (HK := HK1) rfl rfl h X O g hg
      rw [decide_eq_true hv] at k2
      have hbd : (0 : Int) ≤ (g.1.length : Int) ∧ (g.1.length : Int) ≤ (g.1.length : Int) ∧ (g.1.length : Int) * (8 + 1 : Nat) ≤ bigN := by simp [bigN]; omega
      repeat' (first
        | refine w_seq ?_
        | refine w_seqN ?_
        | refine w_seqX ?_
        | refine w_seqR ?_
        | refine w_blk ?_
        | refine w_blkN ?_
        | refine w_blkX ?_
        | refine w_blkR ?_
        | refine w_skip ?_
        | refine w_ret ?_
        | refine w_exit ?_
        | refine w_ops ?_
        | refine w_opsD ?_
        | refine d_one ?_
        | refine d_nil ?_
        | ((refine i_cond ?_); first | refine w_condT rfl ?_ | refine w_condF rfl ?_)
        | ((refine i_nil ?_); first | refine d_same ?_ | refine d_ord ?_ | refine d_ext ⟨_, rfl⟩ ?_ | refine d_ext (extA _ _ _) ?_ | refine d_ext (by assumption) ?_ | refine w_end0 ?_ | refine w_end1 rfl ?_ | refine w_end2 rfl rfl ?_ | refine w_end3 rfl rfl rfl ?_ | refine w_end4 rfl rfl rfl rfl ?_ | refine w_end5 rfl rfl rfl rfl rfl ?_ | refine w_end6 rfl rfl rfl rfl rfl rfl ?_ | refine w_end7 rfl rfl rfl rfl rfl rfl rfl ?_ | refine w_end8 rfl rfl rfl rfl rfl rfl rfl rfl ?_ | refine w_end9 rfl rfl rfl rfl rfl rfl rfl rfl rfl ?_ | refine w_end10 rfl rfl rfl rfl rfl rfl rfl rfl rfl rfl ?_ | refine w_end11 rfl rfl rfl rfl rfl rfl rfl rfl rfl rfl rfl ?_ | refine w_end12 rfl rfl rfl rfl rfl rfl rfl rfl rfl rfl rfl rfl ?_ | refine w_end13 rfl rfl rfl rfl rfl rfl rfl rfl rfl rfl rfl rfl rfl ?_ | refine w_end14 rfl rfl rfl rfl rfl rfl rfl rfl rfl rfl rfl rfl rfl rfl ?_ | refine w_end15 rfl rfl rfl rfl rfl rfl rfl rfl rfl rfl rfl rfl rfl rfl rfl ?_ | refine w_end16 rfl rfl rfl rfl rfl rfl rfl rfl rfl rfl rfl rfl rfl rfl rfl rfl ?_)
        | ((refine i_cons ?_); first
          | (refine k_boxC rfl ?_; intro hh ee cc; have s := (s.ext ee).addC cc)
          | (refine k_call rfl (awake_call _) ?_; rintro v hh ⟨rfl, rfl⟩)
          | refine k_ldC rfl (s.c 0 rfl) ?_
          | refine k_ldC rfl (s.c 1 rfl) ?_
          | refine k_ldC rfl (s.c 2 rfl) ?_
          | refine k_ldC0 rfl (s.c 0 rfl) ?_
          | refine k_ldC1 rfl (s.c 0 rfl) ?_
          | refine k_ldC0 rfl (s.c 1 rfl) ?_
          | refine k_ldC1 rfl (s.c 1 rfl) ?_
          | refine k_ldC0 rfl (s.c 2 rfl) ?_
          | refine k_ldC1 rfl (s.c 2 rfl) ?_
          | (refine k_call rfl (k1 _ _ _ (s.g 0 rfl)) ?_; rintro v hh ⟨ee, rfl⟩; have s := s.ext ee)
          | (refine k_call rfl (k2 _ _ _ (s.g 0 rfl)) ?_; rintro v hB ⟨ee, rfl⟩; have s := s.ext ee)
          | refine k_bld rfl rfl ?_
          | (refine k_newst rfl ?_; intro h1 x1 c3; have sB := s; have s := (s.ext x1).addC c3)
          | refine k_len rfl hl0 ?_
          | (refine k_mkO (Ext.refl _) rfl rfl hbd ?_; intro tm h2 ho x2 x2' l2; have s := s.ext x2)
          | (refine k_call rfl (call16 (HK := HK1) rfl rfl rfl rfl rfl _ _ _ _ (s.g 0 rfl) hv) ?_; rintro v h3 ⟨x3, tc, rfl, hcr⟩; have s := s.ext x3; have hcl := hcr.len)
          | refine k_len rfl hcl ?_
          | refine k_skip rfl ?_
          | refine k_want rfl ?_
          | refine k_mv rfl ?_
          | refine k_pickT rfl rfl ?_
          | refine k_pickF rfl rfl ?_
          | refine k_notT rfl ?_
          | refine k_notF rfl ?_
          | refine k_add rfl rfl (by omega) ?_
          | refine k_sub rfl rfl (by omega) ?_
          | refine k_mul rfl rfl (by omega) ?_
          | refine k_neg rfl (by omega) ?_
          | refine k_quo rfl rfl (by omega) ?_
          | refine k_rem rfl rfl (by omega) ?_
          | refine k_conv rfl (by omega) ?_
          | refine k_max rfl rfl ?_
          | refine k_min rfl rfl ?_
          | refine k_lssT rfl rfl (by omega) ?_
          | refine k_lssF rfl rfl (by omega) ?_
          | refine k_lss rfl rfl (fun hc => ?_) (fun hc => ?_)
          | refine k_leqT rfl rfl (by omega) ?_
          | refine k_leqF rfl rfl (by omega) ?_
          | refine k_leq rfl rfl (fun hc => ?_) (fun hc => ?_)
          | refine k_gtrT rfl rfl (by omega) ?_
          | refine k_gtrF rfl rfl (by omega) ?_
          | refine k_gtr rfl rfl (fun hc => ?_) (fun hc => ?_)
          | refine k_geqT rfl rfl (by omega) ?_
          | refine k_geqF rfl rfl (by omega) ?_
          | refine k_geq rfl rfl (fun hc => ?_) (fun hc => ?_)
          | refine k_eqlT rfl rfl (by omega) ?_
          | refine k_eqlF rfl rfl (by omega) ?_
          | refine k_eql rfl rfl (fun hc => ?_) (fun hc => ?_)
          | refine k_neqT rfl rfl (by omega) ?_
          | refine k_neqF rfl rfl (by omega) ?_
          | refine k_neq rfl rfl (fun hc => ?_) (fun hc => ?_)
          | refine k_len rfl rfl ?_
          | refine k_ok rfl rfl ?_))
      rw [Int.toNat_natCast, ← cntL_nil] at ho
      have hb1 : hB.length ≤ h1.length := Ext.len x1
      have hC : C4 hB X O h0.length hB.length g.1.length g tm tc ((crs g).take 0) (-1) (-1) h3 :=
        ⟨x1.trans (x2.trans x3), s.c 0 rfl, Own.ext (Own.weaken ho hb1) x3, hcr.weaken (by have := Ext.len x2; omega)⟩
      refine w_loop (I4 hB X O h0.length hB.length g.1.length g tm tc) (cnt (crs g).length 32) (R4 hB h0.length g.1.length g tm) ⟨0, -1, -1, Nat.zero_le _, hC, fun r _ => by omega, rfl⟩ (round4 hB X O _ _ _ g tm tc (sB.c 0 rfl) (sB.g 0 rfl) hV (Nat.le_refl _)) ?_
      rintro ex E' h' ⟨rfl, he, hm, _, _, _, _, rfl⟩
      have hml : lenS false tm = some ((g.1.length : Nat) : Int) := by
        have := hm.len
        rwa [List.length_map, cntL_len] at this
      repeat' (first
        | refine w_seq ?_
        | refine w_seqN ?_
        | refine w_seqX ?_
        | refine w_seqR ?_
        | refine w_blk ?_
        | refine w_blkN ?_
        | refine w_blkX ?_
        | refine w_blkR ?_
        | refine w_skip ?_
        | refine w_ret ?_
        | refine w_exit ?_
        | refine w_ops ?_
        | refine w_opsD ?_
        | refine d_one ?_
        | refine d_nil ?_
        | ((refine i_cond ?_); first | refine w_condT rfl ?_ | refine w_condF rfl ?_)
        | ((refine i_nil ?_); first | refine d_same ?_ | refine d_ord ?_ | refine d_ext ⟨_, rfl⟩ ?_ | refine d_ext (extA _ _ _) ?_ | refine d_ext (by assumption) ?_ | refine w_end0 ?_ | refine w_end1 rfl ?_ | refine w_end2 rfl rfl ?_ | refine w_end3 rfl rfl rfl ?_ | refine w_end4 rfl rfl rfl rfl ?_ | refine w_end5 rfl rfl rfl rfl rfl ?_ | refine w_end6 rfl rfl rfl rfl rfl rfl ?_ | refine w_end7 rfl rfl rfl rfl rfl rfl rfl ?_ | refine w_end8 rfl rfl rfl rfl rfl rfl rfl rfl ?_ | refine w_end9 rfl rfl rfl rfl rfl rfl rfl rfl rfl ?_ | refine w_end10 rfl rfl rfl rfl rfl rfl rfl rfl rfl rfl ?_ | refine w_end11 rfl rfl rfl rfl rfl rfl rfl rfl rfl rfl rfl ?_ | refine w_end12 rfl rfl rfl rfl rfl rfl rfl rfl rfl rfl rfl rfl ?_ | refine w_end13 rfl rfl rfl rfl rfl rfl rfl rfl rfl rfl rfl rfl rfl ?_ | refine w_end14 rfl rfl rfl rfl rfl rfl rfl rfl rfl rfl rfl rfl rfl rfl ?_ | refine w_end15 rfl rfl rfl rfl rfl rfl rfl rfl rfl rfl rfl rfl rfl rfl rfl ?_ | refine w_end16 rfl rfl rfl rfl rfl rfl rfl rfl rfl rfl rfl rfl rfl rfl rfl rfl ?_)
        | ((refine i_cons ?_); first
          | refine k_len rfl hml ?_
          | refine k_skip rfl ?_
          | refine k_want rfl ?_
          | refine k_mv rfl ?_
          | refine k_pickT rfl rfl ?_
          | refine k_pickF rfl rfl ?_
          | refine k_notT rfl ?_
          | refine k_notF rfl ?_
          | refine k_add rfl rfl (by omega) ?_
          | refine k_sub rfl rfl (by omega) ?_
          | refine k_mul rfl rfl (by omega) ?_
          | refine k_neg rfl (by omega) ?_
          | refine k_quo rfl rfl (by omega) ?_
          | refine k_rem rfl rfl (by omega) ?_
          | refine k_conv rfl (by omega) ?_
          | refine k_max rfl rfl ?_
          | refine k_min rfl rfl ?_
          | refine k_lssT rfl rfl (by omega) ?_
          | refine k_lssF rfl rfl (by omega) ?_
          | refine k_lss rfl rfl (fun hc => ?_) (fun hc => ?_)
          | refine k_leqT rfl rfl (by omega) ?_
          | refine k_leqF rfl rfl (by omega) ?_
          | refine k_leq rfl rfl (fun hc => ?_) (fun hc => ?_)
          | refine k_gtrT rfl rfl (by omega) ?_
          | refine k_gtrF rfl rfl (by omega) ?_
          | refine k_gtr rfl rfl (fun hc => ?_) (fun hc => ?_)
          | refine k_geqT rfl rfl (by omega) ?_
          | refine k_geqF rfl rfl (by omega) ?_
          | refine k_geq rfl rfl (fun hc => ?_) (fun hc => ?_)
          | refine k_eqlT rfl rfl (by omega) ?_
          | refine k_eqlF rfl rfl (by omega) ?_
          | refine k_eql rfl rfl (fun hc => ?_) (fun hc => ?_)
          | refine k_neqT rfl rfl (by omega) ?_
          | refine k_neqF rfl rfl (by omega) ?_
          | refine k_neq rfl rfl (fun hc => ?_) (fun hc => ?_)
          | refine k_len rfl rfl ?_
          | refine k_ok rfl rfl ?_))
      refine w_loop (I4b h' h0.length g.1.length tm) (cnt g.1.length 152) (R4b h') ⟨0, Nat.zero_le _, rfl, rfl⟩ (round4b h' _ _ X O tm g ((sB.c 0 rfl).ext he) ((sB.g 0 rfl).ext he) (Own.ids hm) hV) ?_
      rintro ex E' h'' rfl
      repeat' (first
        | refine w_seq ?_
        | refine w_seqN ?_
        | refine w_seqX ?_
        | refine w_seqR ?_
        | refine w_blk ?_
        | refine w_blkN ?_
        | refine w_blkX ?_
        | refine w_blkR ?_
        | refine w_skip ?_
        | refine w_ret ?_
        | refine w_exit ?_
        | refine w_ops ?_
        | refine w_opsD ?_
        | refine d_one ?_
        | refine d_nil ?_
        | ((refine i_cond ?_); first | refine w_condT rfl ?_ | refine w_condF rfl ?_)
        | ((refine i_nil ?_); first | refine d_same ?_ | refine d_ord ?_ | refine d_ext ⟨_, rfl⟩ ?_ | refine d_ext (extA _ _ _) ?_ | refine d_ext (by assumption) ?_ | refine w_end0 ?_ | refine w_end1 rfl ?_ | refine w_end2 rfl rfl ?_ | refine w_end3 rfl rfl rfl ?_ | refine w_end4 rfl rfl rfl rfl ?_ | refine w_end5 rfl rfl rfl rfl rfl ?_ | refine w_end6 rfl rfl rfl rfl rfl rfl ?_ | refine w_end7 rfl rfl rfl rfl rfl rfl rfl ?_ | refine w_end8 rfl rfl rfl rfl rfl rfl rfl rfl ?_ | refine w_end9 rfl rfl rfl rfl rfl rfl rfl rfl rfl ?_ | refine w_end10 rfl rfl rfl rfl rfl rfl rfl rfl rfl rfl ?_ | refine w_end11 rfl rfl rfl rfl rfl rfl rfl rfl rfl rfl rfl ?_ | refine w_end12 rfl rfl rfl rfl rfl rfl rfl rfl rfl rfl rfl rfl ?_ | refine w_end13 rfl rfl rfl rfl rfl rfl rfl rfl rfl rfl rfl rfl rfl ?_ | refine w_end14 rfl rfl rfl rfl rfl rfl rfl rfl rfl rfl rfl rfl rfl rfl ?_ | refine w_end15 rfl rfl rfl rfl rfl rfl rfl rfl rfl rfl rfl rfl rfl rfl rfl ?_ | refine w_end16 rfl rfl rfl rfl rfl rfl rfl rfl rfl rfl rfl rfl rfl rfl rfl rfl ?_)
        | ((refine i_cons ?_); first
          | refine k_skip rfl ?_
          | refine k_want rfl ?_
          | refine k_mv rfl ?_
          | refine k_pickT rfl rfl ?_
          | refine k_pickF rfl rfl ?_
          | refine k_notT rfl ?_
          | refine k_notF rfl ?_
          | refine k_add rfl rfl (by omega) ?_
          | refine k_sub rfl rfl (by omega) ?_
          | refine k_mul rfl rfl (by omega) ?_
          | refine k_neg rfl (by omega) ?_
          | refine k_quo rfl rfl (by omega) ?_
          | refine k_rem rfl rfl (by omega) ?_
          | refine k_conv rfl (by omega) ?_
          | refine k_max rfl rfl ?_
          | refine k_min rfl rfl ?_
          | refine k_lssT rfl rfl (by omega) ?_
          | refine k_lssF rfl rfl (by omega) ?_
          | refine k_lss rfl rfl (fun hc => ?_) (fun hc => ?_)
          | refine k_leqT rfl rfl (by omega) ?_
          | refine k_leqF rfl rfl (by omega) ?_
          | refine k_leq rfl rfl (fun hc => ?_) (fun hc => ?_)
          | refine k_gtrT rfl rfl (by omega) ?_
          | refine k_gtrF rfl rfl (by omega) ?_
          | refine k_gtr rfl rfl (fun hc => ?_) (fun hc => ?_)
          | refine k_geqT rfl rfl (by omega) ?_
          | refine k_geqF rfl rfl (by omega) ?_
          | refine k_geq rfl rfl (fun hc => ?_) (fun hc => ?_)
          | refine k_eqlT rfl rfl (by omega) ?_
          | refine k_eqlF rfl rfl (by omega) ?_
          | refine k_eql rfl rfl (fun hc => ?_) (fun hc => ?_)
          | refine k_neqT rfl rfl (by omega) ?_
          | refine k_neqF rfl rfl (by omega) ?_
          | refine k_neq rfl rfl (fun hc => ?_) (fun hc => ?_)
          | refine k_len rfl rfl ?_
          | refine k_ok rfl rfl ?_))
      exact ⟨.inr rfl, rfl⟩
    · have k1 := fun h X O hg => few12 h X O g hg
      rw [decide_eq_true hf] at k1
      have k2 := fun h X O hg => valid13 (HK := HK1) rfl rfl h X O g hg
      rw [decide_eq_false hv] at k2
      repeat' (first
        | refine w_seq ?_
        | refine w_seqN ?_
        | refine w_seqX ?_
        | refine w_seqR ?_
        | refine w_blk ?_
        | refine w_blkN ?_
        | refine w_blkX ?_
        | refine w_blkR ?_
        | refine w_skip ?_
        | refine w_ret ?_
        | refine w_exit ?_
        | refine w_ops ?_
        | refine w_opsD ?_
        | refine d_one ?_
        | refine d_nil ?_
        | ((refine i_cond ?_); first | refine w_condT rfl ?_ | refine w_condF rfl ?_)
        | ((refine i_nil ?_); first | refine d_same ?_ | refine d_ord ?_ | refine d_ext ⟨_, rfl⟩ ?_ | refine d_ext (extA _ _ _) ?_ | refine d_ext (by assumption) ?_ | refine w_end0 ?_ | refine w_end1 rfl ?_ | refine w_end2 rfl rfl ?_ | refine w_end3 rfl rfl rfl ?_ | refine w_end4 rfl rfl rfl rfl ?_ | refine w_end5 rfl rfl rfl rfl rfl ?_ | refine w_end6 rfl rfl rfl rfl rfl rfl ?_ | refine w_end7 rfl rfl rfl rfl rfl rfl rfl ?_ | refine w_end8 rfl rfl rfl rfl rfl rfl rfl rfl ?_ | refine w_end9 rfl rfl rfl rfl rfl rfl rfl rfl rfl ?_ | refine w_end10 rfl rfl rfl rfl rfl rfl rfl rfl rfl rfl ?_ | refine w_end11 rfl rfl rfl rfl rfl rfl rfl rfl rfl rfl rfl ?_ | refine w_end12 rfl rfl rfl rfl rfl rfl rfl rfl rfl rfl rfl rfl ?_ | refine w_end13 rfl rfl rfl rfl rfl rfl rfl rfl rfl rfl rfl rfl rfl ?_ | refine w_end14 rfl rfl rfl rfl rfl rfl rfl rfl rfl rfl rfl rfl rfl rfl ?_ | refine w_end15 rfl rfl rfl rfl rfl rfl rfl rfl rfl rfl rfl rfl rfl rfl rfl ?_ | refine w_end16 rfl rfl rfl rfl rfl rfl rfl rfl rfl rfl rfl rfl rfl rfl rfl rfl ?_)
        | ((refine i_cons ?_); first
          | (refine k_boxC rfl ?_; intro hh ee cc; have s := (s.ext ee).addC cc)
          | (refine k_call rfl (awake_call _) ?_; rintro v hh ⟨rfl, rfl⟩)
          | refine k_ldC rfl (s.c 0 rfl) ?_
          | refine k_ldC rfl (s.c 1 rfl) ?_
          | refine k_ldC rfl (s.c 2 rfl) ?_
          | refine k_ldC0 rfl (s.c 0 rfl) ?_
          | refine k_ldC1 rfl (s.c 0 rfl) ?_
          | refine k_ldC0 rfl (s.c 1 rfl) ?_
          | refine k_ldC1 rfl (s.c 1 rfl) ?_
          | refine k_ldC0 rfl (s.c 2 rfl) ?_
          | refine k_ldC1 rfl (s.c 2 rfl) ?_
          | (refine k_call rfl (k1 _ _ _ (s.g 0 rfl)) ?_; rintro v hh ⟨ee, rfl⟩; have s := s.ext ee)
          | (refine k_call rfl (k2 _ _ _ (s.g 0 rfl)) ?_; rintro v hh ⟨ee, rfl⟩; have s := s.ext ee)
          | refine k_skip rfl ?_
          | refine k_want rfl ?_
          | refine k_mv rfl ?_
          | refine k_pickT rfl rfl ?_
          | refine k_pickF rfl rfl ?_
          | refine k_notT rfl ?_
          | refine k_notF rfl ?_
          | refine k_add rfl rfl (by omega) ?_
          | refine k_sub rfl rfl (by omega) ?_
          | refine k_mul rfl rfl (by omega) ?_
          | refine k_neg rfl (by omega) ?_
          | refine k_quo rfl rfl (by omega) ?_
          | refine k_rem rfl rfl (by omega) ?_
          | refine k_conv rfl (by omega) ?_
          | refine k_max rfl rfl ?_
          | refine k_min rfl rfl ?_
          | refine k_lssT rfl rfl (by omega) ?_
          | refine k_lssF rfl rfl (by omega) ?_
          | refine k_lss rfl rfl (fun hc => ?_) (fun hc => ?_)
          | refine k_leqT rfl rfl (by omega) ?_
          | refine k_leqF rfl rfl (by omega) ?_
          | refine k_leq rfl rfl (fun hc => ?_) (fun hc => ?_)
          | refine k_gtrT rfl rfl (by omega) ?_
          | refine k_gtrF rfl rfl (by omega) ?_
          | refine k_gtr rfl rfl (fun hc => ?_) (fun hc => ?_)
          | refine k_geqT rfl rfl (by omega) ?_
          | refine k_geqF rfl rfl (by omega) ?_
          | refine k_geq rfl rfl (fun hc => ?_) (fun hc => ?_)
          | refine k_eqlT rfl rfl (by omega) ?_
          | refine k_eqlF rfl rfl (by omega) ?_
          | refine k_eql rfl rfl (fun hc => ?_) (fun hc => ?_)
          | refine k_neqT rfl rfl (by omega) ?_
          | refine k_neqF rfl rfl (by omega) ?_
          | refine k_neq rfl rfl (fun hc => ?_) (fun hc => ?_)
          | refine k_len rfl rfl ?_
          | refine k_ok rfl rfl ?_))
      exact ⟨.inr rfl, rfl⟩
  · have k1 := fun h X O hg => few12 h X O g hg
    rw [decide_eq_false hf] at k1
    repeat' (first
      | refine w_seq ?_
      | refine w_seqN ?_
      | refine w_seqX ?_
      | refine w_seqR ?_
      | refine w_blk ?_
      | refine w_blkN ?_
      | refine w_blkX ?_
      | refine w_blkR ?_
      | refine w_skip ?_
      | refine w_ret ?_
      | refine w_exit ?_
      | refine w_ops ?_
      | refine w_opsD ?_
      | refine d_one ?_
      | refine d_nil ?_
      | ((refine i_cond ?_); first | refine w_condT rfl ?_ | refine w_condF rfl ?_)
      | ((refine i_nil ?_); first | refine d_same ?_ | refine d_ord ?_ | refine d_ext ⟨_, rfl⟩ ?_ | refine d_ext (extA _ _ _) ?_ | refine d_ext (by assumption) ?_ | refine w_end0 ?_ | refine w_end1 rfl ?_ | refine w_end2 rfl rfl ?_ | refine w_end3 rfl rfl rfl ?_ | refine w_end4 rfl rfl rfl rfl ?_ | refine w_end5 rfl rfl rfl rfl rfl ?_ | refine w_end6 rfl rfl rfl rfl rfl rfl ?_ | refine w_end7 rfl rfl rfl rfl rfl rfl rfl ?_ | refine w_end8 rfl rfl rfl rfl rfl rfl rfl rfl ?_ | refine w_end9 rfl rfl rfl rfl rfl rfl rfl rfl rfl ?_ | refine w_end10 rfl rfl rfl rfl rfl rfl rfl rfl rfl rfl ?_ | refine w_end11 rfl rfl rfl rfl rfl rfl rfl rfl rfl rfl rfl ?_ | refine w_end12 rfl rfl rfl rfl rfl rfl rfl rfl rfl rfl rfl rfl ?_ | refine w_end13 rfl rfl rfl rfl rfl rfl rfl rfl rfl rfl rfl rfl rfl ?_ | refine w_end14 rfl rfl rfl rfl rfl rfl rfl rfl rfl rfl rfl rfl rfl rfl ?_ | refine w_end15 rfl rfl rfl rfl rfl rfl rfl rfl rfl rfl rfl rfl rfl rfl rfl ?_ | refine w_end16 rfl rfl rfl rfl rfl rfl rfl rfl rfl rfl rfl rfl rfl rfl rfl rfl ?_)
      | ((refine i_cons ?_); first
        | (refine k_boxC rfl ?_; intro hh ee cc; have s := (s.ext ee).addC cc)
        | (refine k_call rfl (awake_call _) ?_; rintro v hh ⟨rfl, rfl⟩)
        | refine k_ldC rfl (s.c 0 rfl) ?_
        | refine k_ldC rfl (s.c 1 rfl) ?_
        | refine k_ldC rfl (s.c 2 rfl) ?_
        | refine k_ldC0 rfl (s.c 0 rfl) ?_
        | refine k_ldC1 rfl (s.c 0 rfl) ?_
        | refine k_ldC0 rfl (s.c 1 rfl) ?_
        | refine k_ldC1 rfl (s.c 1 rfl) ?_
        | refine k_ldC0 rfl (s.c 2 rfl) ?_
        | refine k_ldC1 rfl (s.c 2 rfl) ?_
        | (refine k_call rfl (k1 _ _ _ (s.g 0 rfl)) ?_; rintro v hh ⟨ee, rfl⟩; have s := s.ext ee)
        | refine k_skip rfl ?_
        | refine k_want rfl ?_
        | refine k_mv rfl ?_
        | refine k_pickT rfl rfl ?_
        | refine k_pickF rfl rfl ?_
        | refine k_notT rfl ?_
        | refine k_notF rfl ?_
        | refine k_add rfl rfl (by omega) ?_
        | refine k_sub rfl rfl (by omega) ?_
        | refine k_mul rfl rfl (by omega) ?_
        | refine k_neg rfl (by omega) ?_
        | refine k_quo rfl rfl (by omega) ?_
        | refine k_rem rfl rfl (by omega) ?_
        | refine k_conv rfl (by omega) ?_
        | refine k_max rfl rfl ?_
        | refine k_min rfl rfl ?_
        | refine k_lssT rfl rfl (by omega) ?_
        | refine k_lssF rfl rfl (by omega) ?_
        | refine k_lss rfl rfl (fun hc => ?_) (fun hc => ?_)
        | refine k_leqT rfl rfl (by omega) ?_
        | refine k_leqF rfl rfl (by omega) ?_
        | refine k_leq rfl rfl (fun hc => ?_) (fun hc => ?_)
        | refine k_gtrT rfl rfl (by omega) ?_
        | refine k_gtrF rfl rfl (by omega) ?_
        | refine k_gtr rfl rfl (fun hc => ?_) (fun hc => ?_)
        | refine k_geqT rfl rfl (by omega) ?_
        | refine k_geqF rfl rfl (by omega) ?_
        | refine k_geq rfl rfl (fun hc => ?_) (fun hc => ?_)
        | refine k_eqlT rfl rfl (by omega) ?_
        | refine k_eqlF rfl rfl (by omega) ?_
        | refine k_eql rfl rfl (fun hc => ?_) (fun hc => ?_)
        | refine k_neqT rfl rfl (by omega) ?_
        | refine k_neqF rfl rfl (by omega) ?_
        | refine k_neq rfl rfl (fun hc => ?_) (fun hc => ?_)
        | refine k_len rfl rfl ?_
        | refine k_ok rfl rfl ?_))
    exact ⟨.inr rfl, rfl⟩
end Go.Proofs.YtadelcikpkhclaaDoor
