/- The law GridRotates, reckoned. -/
import Derived.Test.YtadelcikpkhclaaDoorG15
namespace Go.Proofs.YtadelcikpkhclaaDoor
open Go.Ab
set_option linter.unusedVariables false
set_option maxRecDepth 20000
attribute [local irreducible] wOps wA wSeq wBlk wRound wOpsD
variable {HK : FuncId → Option Hook}

def rotN : Nat → Gr → Gr
  | 0, g => g
  | k + 1, g => rotG (rotN k g)
theorem rotN_vg {n : Nat} {g : Gr} (h : Vg n g) : ∀ k, Vg n (rotN k g)
  | 0 => h
  | k + 1 => (rotN_vg h k).rot
theorem rotN_comp {n : Nat} {g : Gr} (h : Vg n g) : ∀ k, comp (rotN k g) = comp g
  | 0 => rfl
  | k + 1 => (rotN_vg h k).vd.comp_rot.trans (rotN_comp h k)
theorem rotN_crs {n : Nat} {g : Gr} (h : Vg n g) : ∀ k, (crs (rotN k g)).length = (crs g).length
  | 0 => rfl
  | k + 1 => (rotN_vg h k).vd.crs_rot.trans (rotN_crs h k)
theorem vg_of {n : Nat} {g : Gr} (h : Vg n g) : VG g.1 g.2 := (vg_iff g).2 (by rw [h.vd.rg.sz.1]; exact h)
theorem crossLen (h : Heap) (X O : SV) (g : Gr) (m : Nat) (hg : IsG h X O g) (hv : VG g.1 g.2) (e : (crs g).length = m) :
    ∃ v h', Cal FT HK1 16 [.agg [X, O]] h v h' ∧ Ext h h' ∧ ∃ t, v = .sc t ∧ lenS false t = some (m : Int) := by
  obtain ⟨v, h', k1, k2, t, k3, k4⟩ := call16 (HK := HK1) rfl rfl rfl rfl rfl h X O g hg hv
  exact ⟨v, h', k1, k2, t, k3, by rw [k4.len, e]⟩
theorem compIs (h : Heap) (X O : SV) (g : Gr) (m : Nat) (hg : IsG h X O g) (hv : VG g.1 g.2) (e : comp g = m) :
    ∃ v h', Cal FT HK1 15 [.agg [X, O]] h v h' ∧ Ext h h' ∧ v = .sc (.int .i64 m) := by
  subst e; exact call15 rfl rfl rfl rfl rfl h X O g hg hv

/-- One cell is written anew. -/
theorem Stt.wr2 {h0 h h1 : Heap} {p q : Nat} {X O a' b' : SV} {g g2 : Gr} {F : List (Nat × SV × SV)} {G : List (SV × SV × Gr)} (s : Stt h0 h F G) (w : Wr h h1 q a' b') (hp : Cel h p X O) (hpq : p ≠ q) (hq : h0.length ≤ q) (hg : IsG h X O g) (hg2 : IsG h a' b' g2) :
    Stt h0 h1 [(q, a', b'), (p, X, O)] [(a', b', g2), (X, O, g)] :=
  Stt.addG (Stt.addG (Stt.addC (Stt.addC ⟨w.ext s.e hq, fun i q a b hi => by simp at hi, fun i q a b hi => by simp at hi⟩ (w.keep hp hpq)) w.cel) (hg.wr w)) (hg2.wr w)

def cnt4 (E : Env) (_ : Heap) : Nat := match E.get 20 with
  | some (.sc (.int _ i)) => 4 - i.toNat
  | _ => 0
def I5 (h0 : Heap) (p q : Nat) (X O : SV) (g : Gr) (E : Env) (h : Heap) : Prop := ∃ (k : Nat) (a b : SV), k ≤ 4 ∧ Stt h0 h [(q, a, b), (p, X, O)] [(a, b, rotN k g), (X, O, g)] ∧
  E = [(1, some (.sc (.ptr p 0))), (3, some (.sc (.ptr q 0))), (20, some (.sc (.int .i64 k)))]
def R5 (h0 : Heap) (p q : Nat) (X O : SV) (g : Gr) (ex : Ex) (E : Env) (h : Heap) : Prop := ex = .ex 0 ∧ ∃ (a b : SV), Stt h0 h [(q, a, b), (p, X, O)] [(a, b, rotN 4 g), (X, O, g)] ∧ ∃ c,
  E = [(1, some (.sc (.ptr p 0))), (3, some (.sc (.ptr q 0))), (20, c), (21, some (.sc (.bool false)))]
set_option maxHeartbeats 8000000 in
theorem round5 (h0 : Heap) (p q n : Nat) (X O : SV) (g : Gr) (hV : Vg n g) (hpq : p ≠ q) (hq : h0.length ≤ q) (E : Env) (h : Heap) (hI : I5 h0 p q X O g E h) :
    wA FT HK1 b5L0 (E.keep [1, 3, 20]) h (wRound (I5 h0 p q X O g) cnt4 (cnt4 E h) (R5 h0 p q X O g)) := by
  obtain ⟨k, a, b, hk, s, rfl⟩ := hI
  by_cases hlt : k < 4
  · have v0 := vg_of hV
    have vk := vg_of (rotN_vg hV k)
    have vk1 := vg_of (rotN_vg hV (k + 1))
    have k1 := fun h X O hg => valid13 (HK := HK1) rfl rfl h X O (rotN (k + 1) g) hg
    rw [decide_eq_true vk1] at k1
    have hlt4 : (k : Int) < 4 := by omega
    repeat' (first
      | refine w_seq ?_
      | refine w_seqN ?_
      | refine w_seqX ?_
      | refine w_seqR ?_
      | refine w_blk ?_
      | refine w_blkN ?_
      | refine w_blkX ?_
      | refine w_blkR ?_
      | refine w_skip ?_
      | refine w_ret ?_
      | refine w_exit ?_
      | refine w_ops ?_
      | refine w_opsD ?_
      | refine d_one ?_
      | refine d_nil ?_
      | ((refine i_cond ?_); first | refine w_condT rfl ?_ | refine w_condF rfl ?_)
      | ((refine i_nil ?_); first | refine d_same ?_ | refine d_ord ?_ | refine d_ext ⟨_, rfl⟩ ?_ | refine d_ext (extA _ _ _) ?_ | refine d_ext (by assumption) ?_ | refine w_end0 ?_ | refine w_end1 rfl ?_ | refine w_end2 rfl rfl ?_ | refine w_end3 rfl rfl rfl ?_ | refine w_end4 rfl rfl rfl rfl ?_ | refine w_end5 rfl rfl rfl rfl rfl ?_ | refine w_end6 rfl rfl rfl rfl rfl rfl ?_ | refine w_end7 rfl rfl rfl rfl rfl rfl rfl ?_ | refine w_end8 rfl rfl rfl rfl rfl rfl rfl rfl ?_ | refine w_end9 rfl rfl rfl rfl rfl rfl rfl rfl rfl ?_ | refine w_end10 rfl rfl rfl rfl rfl rfl rfl rfl rfl rfl ?_ | refine w_end11 rfl rfl rfl rfl rfl rfl rfl rfl rfl rfl rfl ?_ | refine w_end12 rfl rfl rfl rfl rfl rfl rfl rfl rfl rfl rfl rfl ?_ | refine w_end13 rfl rfl rfl rfl rfl rfl rfl rfl rfl rfl rfl rfl rfl ?_ | refine w_end14 rfl rfl rfl rfl rfl rfl rfl rfl rfl rfl rfl rfl rfl rfl ?_ | refine w_end15 rfl rfl rfl rfl rfl rfl rfl rfl rfl rfl rfl rfl rfl rfl rfl ?_ | refine w_end16 rfl rfl rfl rfl rfl rfl rfl rfl rfl rfl rfl rfl rfl rfl rfl rfl ?_)
      | ((refine i_cons ?_); first
        | (refine k_boxC rfl ?_; intro hh ee cc; have s := (s.ext ee).addC cc)
        | (refine k_call rfl (awake_call _) ?_; rintro v hh ⟨rfl, rfl⟩)
        | refine k_ldC rfl (s.c 0 rfl) ?_
        | refine k_ldC rfl (s.c 1 rfl) ?_
        | refine k_ldC rfl (s.c 2 rfl) ?_
        | refine k_ldC rfl (s.c 3 rfl) ?_
        | refine k_ldC rfl (s.c 4 rfl) ?_
        | refine k_ldC0 rfl (s.c 0 rfl) ?_
        | refine k_ldC1 rfl (s.c 0 rfl) ?_
        | refine k_ldC0 rfl (s.c 1 rfl) ?_
        | refine k_ldC1 rfl (s.c 1 rfl) ?_
        | refine k_ldC0 rfl (s.c 2 rfl) ?_
        | refine k_ldC1 rfl (s.c 2 rfl) ?_
        | refine k_ldC0 rfl (s.c 3 rfl) ?_
        | refine k_ldC1 rfl (s.c 3 rfl) ?_
        | refine k_ldC0 rfl (s.c 4 rfl) ?_
        | refine k_ldC1 rfl (s.c 4 rfl) ?_
        | (refine k_call rfl (call21 rfl rfl rfl _ _ _ _ (s.g 0 rfl) vk) ?_; rintro v hh ⟨ee, X1, O1, rfl, gg⟩; have s := (s.ext ee).addG (g := rotN (k + 1) g) gg)
        | (refine k_newst rfl ?_; intro hh ee cc; have s := (s.ext ee).addC cc)
        | (refine k_call rfl (k1 _ _ _ (s.g 0 rfl)) ?_; rintro v hh ⟨ee, rfl⟩; have s := s.ext ee)
        | (refine k_call rfl (compIs _ _ _ _ (comp g) (s.g 0 rfl) vk1 (rotN_comp hV (k + 1))) ?_; rintro v hh ⟨ee, rfl⟩; have s := s.ext ee)
        | (refine k_call rfl (compIs _ _ _ _ (comp g) (s.g 2 rfl) v0 rfl) ?_; rintro v hh ⟨ee, rfl⟩; have s := s.ext ee)
        | (refine k_call rfl (crossLen _ _ _ _ (crs g).length (s.g 0 rfl) vk1 (rotN_crs hV (k + 1))) ?_; rintro v hh ⟨ee, t1, rfl, ht1⟩; have s := s.ext ee)
        | (refine k_call rfl (crossLen _ _ _ _ (crs g).length (s.g 2 rfl) v0 rfl) ?_; rintro v hh ⟨ee, t2, rfl, ht2⟩; have s := s.ext ee)
        | refine k_len rfl ht1 ?_
        | refine k_len rfl ht2 ?_
        | (refine k_stC rfl rfl (s.c 1 rfl) ?_; intro h9 w9)
        | refine k_skip rfl ?_
        | refine k_want rfl ?_
        | refine k_mv rfl ?_
        | refine k_pickT rfl rfl ?_
        | refine k_pickF rfl rfl ?_
        | refine k_notT rfl ?_
        | refine k_notF rfl ?_
        | refine k_add rfl rfl (by omega) ?_
        | refine k_sub rfl rfl (by omega) ?_
        | refine k_mul rfl rfl (by omega) ?_
        | refine k_neg rfl (by omega) ?_
        | refine k_quo rfl rfl (by omega) ?_
        | refine k_rem rfl rfl (by omega) ?_
        | refine k_conv rfl (by omega) ?_
        | refine k_max rfl rfl ?_
        | refine k_min rfl rfl ?_
        | refine k_lssT rfl rfl (by omega) ?_
        | refine k_lssF rfl rfl (by omega) ?_
        | refine k_lss rfl rfl (fun hc => ?_) (fun hc => ?_)
        | refine k_leqT rfl rfl (by omega) ?_
        | refine k_leqF rfl rfl (by omega) ?_
        | refine k_leq rfl rfl (fun hc => ?_) (fun hc => ?_)
        | refine k_gtrT rfl rfl (by omega) ?_
        | refine k_gtrF rfl rfl (by omega) ?_
        | refine k_gtr rfl rfl (fun hc => ?_) (fun hc => ?_)
        | refine k_geqT rfl rfl (by omega) ?_
        | refine k_geqF rfl rfl (by omega) ?_
        | refine k_geq rfl rfl (fun hc => ?_) (fun hc => ?_)
        | refine k_eqlT rfl rfl (by omega) ?_
        | refine k_eqlF rfl rfl (by omega) ?_
        | refine k_eql rfl rfl (fun hc => ?_) (fun hc => ?_)
        | refine k_neqT rfl rfl (by omega) ?_
        | refine k_neqF rfl rfl (by omega) ?_
        | refine k_neq rfl rfl (fun hc => ?_) (fun hc => ?_)
        | refine k_len rfl rfl ?_
        | refine k_ok rfl rfl ?_))
    exact w_roundN ⟨k + 1, _, _, by omega, Stt.wr2 s w9 (s.c 2 rfl) hpq hq (s.g 2 rfl) (s.g 0 rfl), rfl⟩ (by simp [cnt4, Env.get]; omega)
  · obtain rfl : k = 4 := by omega
    repeat' (first
      | refine w_seq ?_
      | refine w_seqN ?_
      | refine w_seqX ?_
      | refine w_seqR ?_
      | refine w_blk ?_
      | refine w_blkN ?_
      | refine w_blkX ?_
      | refine w_blkR ?_
      | refine w_skip ?_
      | refine w_ret ?_
      | refine w_exit ?_
      | refine w_ops ?_
      | refine w_opsD ?_
      | refine d_one ?_
      | refine d_nil ?_
      | ((refine i_cond ?_); first | refine w_condT rfl ?_ | refine w_condF rfl ?_)
      | ((refine i_nil ?_); first | refine d_same ?_ | refine d_ord ?_ | refine d_ext ⟨_, rfl⟩ ?_ | refine d_ext (extA _ _ _) ?_ | refine d_ext (by assumption) ?_ | refine w_end0 ?_ | refine w_end1 rfl ?_ | refine w_end2 rfl rfl ?_ | refine w_end3 rfl rfl rfl ?_ | refine w_end4 rfl rfl rfl rfl ?_ | refine w_end5 rfl rfl rfl rfl rfl ?_ | refine w_end6 rfl rfl rfl rfl rfl rfl ?_ | refine w_end7 rfl rfl rfl rfl rfl rfl rfl ?_ | refine w_end8 rfl rfl rfl rfl rfl rfl rfl rfl ?_ | refine w_end9 rfl rfl rfl rfl rfl rfl rfl rfl rfl ?_ | refine w_end10 rfl rfl rfl rfl rfl rfl rfl rfl rfl rfl ?_ | refine w_end11 rfl rfl rfl rfl rfl rfl rfl rfl rfl rfl rfl ?_ | refine w_end12 rfl rfl rfl rfl rfl rfl rfl rfl rfl rfl rfl rfl ?_ | refine w_end13 rfl rfl rfl rfl rfl rfl rfl rfl rfl rfl rfl rfl rfl ?_ | refine w_end14 rfl rfl rfl rfl rfl rfl rfl rfl rfl rfl rfl rfl rfl rfl ?_ | refine w_end15 rfl rfl rfl rfl rfl rfl rfl rfl rfl rfl rfl rfl rfl rfl rfl ?_ | refine w_end16 rfl rfl rfl rfl rfl rfl rfl rfl rfl rfl rfl rfl rfl rfl rfl rfl ?_)
      | ((refine i_cons ?_); first
        | refine k_skip rfl ?_
        | refine k_want rfl ?_
        | refine k_mv rfl ?_
        | refine k_pickT rfl rfl ?_
        | refine k_pickF rfl rfl ?_
        | refine k_notT rfl ?_
        | refine k_notF rfl ?_
        | refine k_add rfl rfl (by omega) ?_
        | refine k_sub rfl rfl (by omega) ?_
        | refine k_mul rfl rfl (by omega) ?_
        | refine k_neg rfl (by omega) ?_
        | refine k_quo rfl rfl (by omega) ?_
        | refine k_rem rfl rfl (by omega) ?_
        | refine k_conv rfl (by omega) ?_
        | refine k_max rfl rfl ?_
        | refine k_min rfl rfl ?_
        | refine k_lssT rfl rfl (by omega) ?_
        | refine k_lssF rfl rfl (by omega) ?_
        | refine k_lss rfl rfl (fun hc => ?_) (fun hc => ?_)
        | refine k_leqT rfl rfl (by omega) ?_
        | refine k_leqF rfl rfl (by omega) ?_
        | refine k_leq rfl rfl (fun hc => ?_) (fun hc => ?_)
        | refine k_gtrT rfl rfl (by omega) ?_
        | refine k_gtrF rfl rfl (by omega) ?_
        | refine k_gtr rfl rfl (fun hc => ?_) (fun hc => ?_)
        | refine k_geqT rfl rfl (by omega) ?_
        | refine k_geqF rfl rfl (by omega) ?_
        | refine k_geq rfl rfl (fun hc => ?_) (fun hc => ?_)
        | refine k_eqlT rfl rfl (by omega) ?_
        | refine k_eqlF rfl rfl (by omega) ?_
        | refine k_eql rfl rfl (fun hc => ?_) (fun hc => ?_)
        | refine k_neqT rfl rfl (by omega) ?_
        | refine k_neqF rfl rfl (by omega) ?_
        | refine k_neq rfl rfl (fun hc => ?_) (fun hc => ?_)
        | refine k_len rfl rfl ?_
        | refine k_ok rfl rfl ?_))
    exact w_roundX ⟨rfl, _, _, s, _, rfl⟩

set_option maxHeartbeats 8000000 in
theorem rotates (h0 : Heap) (X : SV) (xs : List Int) (hX : IsInts h0 X xs) (O : SV) (os : List Int) (hO : IsInts h0 O os) :
    ∃ v h', Cal FT HK1 5 [.agg [X, O]] h0 v h' ∧ v = .sc (.bool true) := by
  refine Cal.of (F := a5) rfl rfl rfl ?_
  have s : Stt h0 h0 [] [(X, O, (xs, os))] := Stt.start ⟨hX, hO⟩
  generalize hg : (xs, os) = g at *
  by_cases hf : g.1.length ≤ 16 ∧ g.2.length ≤ 32
  · by_cases hv : VG g.1 g.2
    · have hV := (vg_iff g).1 hv
      have n40 := hV.few
      have sz := hV.vd.rg.sz
      have k1 := fun h X O hg => few12 h X O g hg
      rw [decide_eq_true hf] at k1
      have k2 := fun h X O hg => valid13 (HK := HK1) rfl rfl h X O g hg
      rw [decide_eq_true hv] at k2
      repeat' (first
        | refine w_seq ?_
        | refine w_seqN ?_
        | refine w_seqX ?_
        | refine w_seqR ?_
        | refine w_blk ?_
        | refine w_blkN ?_
        | refine w_blkX ?_
        | refine w_blkR ?_
        | refine w_skip ?_
        | refine w_ret ?_
        | refine w_exit ?_
        | refine w_ops ?_
        | refine w_opsD ?_
        | refine d_one ?_
        | refine d_nil ?_
        | ((refine i_cond ?_); first | refine w_condT rfl ?_ | refine w_condF rfl ?_)
        | ((refine i_nil ?_); first | refine d_same ?_ | refine d_ord ?_ | refine d_ext ⟨_, rfl⟩ ?_ | refine d_ext (extA _ _ _) ?_ | refine d_ext (by assumption) ?_ | refine w_end0 ?_ | refine w_end1 rfl ?_ | refine w_end2 rfl rfl ?_ | refine w_end3 rfl rfl rfl ?_ | refine w_end4 rfl rfl rfl rfl ?_ | refine w_end5 rfl rfl rfl rfl rfl ?_ | refine w_end6 rfl rfl rfl rfl rfl rfl ?_ | refine w_end7 rfl rfl rfl rfl rfl rfl rfl ?_ | refine w_end8 rfl rfl rfl rfl rfl rfl rfl rfl ?_ | refine w_end9 rfl rfl rfl rfl rfl rfl rfl rfl rfl ?_ | refine w_end10 rfl rfl rfl rfl rfl rfl rfl rfl rfl rfl ?_ | refine w_end11 rfl rfl rfl rfl rfl rfl rfl rfl rfl rfl rfl ?_ | refine w_end12 rfl rfl rfl rfl rfl rfl rfl rfl rfl rfl rfl rfl ?_ | refine w_end13 rfl rfl rfl rfl rfl rfl rfl rfl rfl rfl rfl rfl rfl ?_ | refine w_end14 rfl rfl rfl rfl rfl rfl rfl rfl rfl rfl rfl rfl rfl rfl ?_ | refine w_end15 rfl rfl rfl rfl rfl rfl rfl rfl rfl rfl rfl rfl rfl rfl rfl ?_ | refine w_end16 rfl rfl rfl rfl rfl rfl rfl rfl rfl rfl rfl rfl rfl rfl rfl rfl ?_)
        | ((refine i_cons ?_); first
          | (refine k_boxC rfl ?_; intro hh ee cc; have s := (s.ext ee).addC cc)
          | (refine k_call rfl (awake_call _) ?_; rintro v hh ⟨rfl, rfl⟩)
          | refine k_ldC rfl (s.c 0 rfl) ?_
          | refine k_ldC rfl (s.c 1 rfl) ?_
          | refine k_ldC rfl (s.c 2 rfl) ?_
          | refine k_ldC rfl (s.c 3 rfl) ?_
          | refine k_ldC rfl (s.c 4 rfl) ?_
          | refine k_ldC0 rfl (s.c 0 rfl) ?_
          | refine k_ldC1 rfl (s.c 0 rfl) ?_
          | refine k_ldC0 rfl (s.c 1 rfl) ?_
          | refine k_ldC1 rfl (s.c 1 rfl) ?_
          | refine k_ldC0 rfl (s.c 2 rfl) ?_
          | refine k_ldC1 rfl (s.c 2 rfl) ?_
          | refine k_ldC0 rfl (s.c 3 rfl) ?_
          | refine k_ldC1 rfl (s.c 3 rfl) ?_
          | refine k_ldC0 rfl (s.c 4 rfl) ?_
          | refine k_ldC1 rfl (s.c 4 rfl) ?_
          | (refine k_call rfl (k1 _ _ _ (s.g 0 rfl)) ?_; rintro v hh ⟨ee, rfl⟩; have s := s.ext ee)
          | (refine k_call rfl (k2 _ _ _ (s.g 0 rfl)) ?_; rintro v hh ⟨ee, rfl⟩; have s := s.ext ee)
          | (refine k_newst rfl ?_; intro hh ee cc; have s1 := s; have s := (s.ext ee).addC cc)
          | refine k_skip rfl ?_
          | refine k_want rfl ?_
          | refine k_mv rfl ?_
          | refine k_pickT rfl rfl ?_
          | refine k_pickF rfl rfl ?_
          | refine k_notT rfl ?_
          | refine k_notF rfl ?_
          | refine k_add rfl rfl (by omega) ?_
          | refine k_sub rfl rfl (by omega) ?_
          | refine k_mul rfl rfl (by omega) ?_
          | refine k_neg rfl (by omega) ?_
          | refine k_quo rfl rfl (by omega) ?_
          | refine k_rem rfl rfl (by omega) ?_
          | refine k_conv rfl (by omega) ?_
          | refine k_max rfl rfl ?_
          | refine k_min rfl rfl ?_
          | refine k_lssT rfl rfl (by omega) ?_
          | refine k_lssF rfl rfl (by omega) ?_
          | refine k_lss rfl rfl (fun hc => ?_) (fun hc => ?_)
          | refine k_leqT rfl rfl (by omega) ?_
          | refine k_leqF rfl rfl (by omega) ?_
          | refine k_leq rfl rfl (fun hc => ?_) (fun hc => ?_)
          | refine k_gtrT rfl rfl (by omega) ?_
          | refine k_gtrF rfl rfl (by omega) ?_
          | refine k_gtr rfl rfl (fun hc => ?_) (fun hc => ?_)
          | refine k_geqT rfl rfl (by omega) ?_
          | refine k_geqF rfl rfl (by omega) ?_
          | refine k_geq rfl rfl (fun hc => ?_) (fun hc => ?_)
          | refine k_eqlT rfl rfl (by omega) ?_
          | refine k_eqlF rfl rfl (by omega) ?_
          | refine k_eql rfl rfl (fun hc => ?_) (fun hc => ?_)
          | refine k_neqT rfl rfl (by omega) ?_
          | refine k_neqF rfl rfl (by omega) ?_
          | refine k_neq rfl rfl (fun hc => ?_) (fun hc => ?_)
          | refine k_len rfl rfl ?_
          | refine k_ok rfl rfl ?_))
      have s2 : Stt h0 _ _ _ := Stt.addG s (s.g 0 rfl)
      refine w_loop (I5 h0 _ _ X O g) cnt4 (R5 h0 _ _ X O g) ⟨0, _, _, Nat.zero_le _, s2, rfl⟩ (round5 h0 _ _ g.1.length X O g hV (Nat.ne_of_lt (Cel.lt (s1.c 0 rfl))) (Ext.len s1.e)) ?_
      rintro ex E' h' ⟨rfl, a, b, s, _, rfl⟩
      have e4 : rotN 4 g = g := rotG4 hV.vd
      rw [e4] at s
      repeat' (first
        | refine w_seq ?_
        | refine w_seqN ?_
        | refine w_seqX ?_
        | refine w_seqR ?_
        | refine w_blk ?_
        | refine w_blkN ?_
        | refine w_blkX ?_
        | refine w_blkR ?_
        | refine w_skip ?_
        | refine w_ret ?_
        | refine w_exit ?_
        | refine w_ops ?_
        | refine w_opsD ?_
        | refine d_one ?_
        | refine d_nil ?_
        | ((refine i_cond ?_); first | refine w_condT rfl ?_ | refine w_condF rfl ?_)
        | ((refine i_nil ?_); first | refine d_same ?_ | refine d_ord ?_ | refine d_ext ⟨_, rfl⟩ ?_ | refine d_ext (extA _ _ _) ?_ | refine d_ext (by assumption) ?_ | refine w_end0 ?_ | refine w_end1 rfl ?_ | refine w_end2 rfl rfl ?_ | refine w_end3 rfl rfl rfl ?_ | refine w_end4 rfl rfl rfl rfl ?_ | refine w_end5 rfl rfl rfl rfl rfl ?_ | refine w_end6 rfl rfl rfl rfl rfl rfl ?_ | refine w_end7 rfl rfl rfl rfl rfl rfl rfl ?_ | refine w_end8 rfl rfl rfl rfl rfl rfl rfl rfl ?_ | refine w_end9 rfl rfl rfl rfl rfl rfl rfl rfl rfl ?_ | refine w_end10 rfl rfl rfl rfl rfl rfl rfl rfl rfl rfl ?_ | refine w_end11 rfl rfl rfl rfl rfl rfl rfl rfl rfl rfl rfl ?_ | refine w_end12 rfl rfl rfl rfl rfl rfl rfl rfl rfl rfl rfl rfl ?_ | refine w_end13 rfl rfl rfl rfl rfl rfl rfl rfl rfl rfl rfl rfl rfl ?_ | refine w_end14 rfl rfl rfl rfl rfl rfl rfl rfl rfl rfl rfl rfl rfl rfl ?_ | refine w_end15 rfl rfl rfl rfl rfl rfl rfl rfl rfl rfl rfl rfl rfl rfl rfl ?_ | refine w_end16 rfl rfl rfl rfl rfl rfl rfl rfl rfl rfl rfl rfl rfl rfl rfl rfl ?_)
        | ((refine i_cons ?_); first
          | (refine k_boxC rfl ?_; intro hh ee cc; have s := (s.ext ee).addC cc)
          | (refine k_call rfl (awake_call _) ?_; rintro v hh ⟨rfl, rfl⟩)
          | refine k_ldC rfl (s.c 0 rfl) ?_
          | refine k_ldC rfl (s.c 1 rfl) ?_
          | refine k_ldC rfl (s.c 2 rfl) ?_
          | refine k_ldC rfl (s.c 3 rfl) ?_
          | refine k_ldC rfl (s.c 4 rfl) ?_
          | refine k_ldC0 rfl (s.c 0 rfl) ?_
          | refine k_ldC1 rfl (s.c 0 rfl) ?_
          | refine k_ldC0 rfl (s.c 1 rfl) ?_
          | refine k_ldC1 rfl (s.c 1 rfl) ?_
          | refine k_ldC0 rfl (s.c 2 rfl) ?_
          | refine k_ldC1 rfl (s.c 2 rfl) ?_
          | refine k_ldC0 rfl (s.c 3 rfl) ?_
          | refine k_ldC1 rfl (s.c 3 rfl) ?_
          | refine k_ldC0 rfl (s.c 4 rfl) ?_
          | refine k_ldC1 rfl (s.c 4 rfl) ?_
          | (refine k_call rfl (equal22 _ _ _ _ _ (s.g 0 rfl).x (s.g 1 rfl).x rfl (by omega)) ?_; rintro v hh ⟨rfl, rfl⟩)
          | (refine k_call rfl (equal22 _ _ _ _ _ (s.g 0 rfl).o (s.g 1 rfl).o rfl (by rw [sz.2]; omega)) ?_; rintro v hh ⟨rfl, rfl⟩)
          | refine k_skip rfl ?_
          | refine k_want rfl ?_
          | refine k_mv rfl ?_
          | refine k_pickT rfl rfl ?_
          | refine k_pickF rfl rfl ?_
          | refine k_notT rfl ?_
          | refine k_notF rfl ?_
          | refine k_add rfl rfl (by omega) ?_
          | refine k_sub rfl rfl (by omega) ?_
          | refine k_mul rfl rfl (by omega) ?_
          | refine k_neg rfl (by omega) ?_
          | refine k_quo rfl rfl (by omega) ?_
          | refine k_rem rfl rfl (by omega) ?_
          | refine k_conv rfl (by omega) ?_
          | refine k_max rfl rfl ?_
          | refine k_min rfl rfl ?_
          | refine k_lssT rfl rfl (by omega) ?_
          | refine k_lssF rfl rfl (by omega) ?_
          | refine k_lss rfl rfl (fun hc => ?_) (fun hc => ?_)
          | refine k_leqT rfl rfl (by omega) ?_
          | refine k_leqF rfl rfl (by omega) ?_
          | refine k_leq rfl rfl (fun hc => ?_) (fun hc => ?_)
          | refine k_gtrT rfl rfl (by omega) ?_
          | refine k_gtrF rfl rfl (by omega) ?_
          | refine k_gtr rfl rfl (fun hc => ?_) (fun hc => ?_)
          | refine k_geqT rfl rfl (by omega) ?_
          | refine k_geqF rfl rfl (by omega) ?_
          | refine k_geq rfl rfl (fun hc => ?_) (fun hc => ?_)
          | refine k_eqlT rfl rfl (by omega) ?_
          | refine k_eqlF rfl rfl (by omega) ?_
          | refine k_eql rfl rfl (fun hc => ?_) (fun hc => ?_)
          | refine k_neqT rfl rfl (by omega) ?_
          | refine k_neqF rfl rfl (by omega) ?_
          | refine k_neq rfl rfl (fun hc => ?_) (fun hc => ?_)
          | refine k_len rfl rfl ?_
          | refine k_ok rfl rfl ?_))
      exact ⟨.inr rfl, rfl⟩
    · have k1 := fun h X O hg => few12 h X O g hg
      rw [decide_eq_true hf] at k1
      have k2 := fun h X O hg => valid13 (HK := HK1) rfl rfl h X O g hg
      rw [decide_eq_false hv] at k2
      repeat' (first
        | refine w_seq ?_
        | refine w_seqN ?_
        | refine w_seqX ?_
        | refine w_seqR ?_
        | refine w_blk ?_
        | refine w_blkN ?_
        | refine w_blkX ?_
        | refine w_blkR ?_
        | refine w_skip ?_
        | refine w_ret ?_
        | refine w_exit ?_
        | refine w_ops ?_
        | refine w_opsD ?_
        | refine d_one ?_
        | refine d_nil ?_
        | ((refine i_cond ?_); first | refine w_condT rfl ?_ | refine w_condF rfl ?_)
        | ((refine i_nil ?_); first | refine d_same ?_ | refine d_ord ?_ | refine d_ext ⟨_, rfl⟩ ?_ | refine d_ext (extA _ _ _) ?_ | refine d_ext (by assumption) ?_ | refine w_end0 ?_ | refine w_end1 rfl ?_ | refine w_end2 rfl rfl ?_ | refine w_end3 rfl rfl rfl ?_ | refine w_end4 rfl rfl rfl rfl ?_ | refine w_end5 rfl rfl rfl rfl rfl ?_ | refine w_end6 rfl rfl rfl rfl rfl rfl ?_ | refine w_end7 rfl rfl rfl rfl rfl rfl rfl ?_ | refine w_end8 rfl rfl rfl rfl rfl rfl rfl rfl ?_ | refine w_end9 rfl rfl rfl rfl rfl rfl rfl rfl rfl ?_ | refine w_end10 rfl rfl rfl rfl rfl rfl rfl rfl rfl rfl ?_ | refine w_end11 rfl rfl rfl rfl rfl rfl rfl rfl rfl rfl rfl ?_ | refine w_end12 rfl rfl rfl rfl rfl rfl rfl rfl rfl rfl rfl rfl ?_ | refine w_end13 rfl rfl rfl rfl rfl rfl rfl rfl rfl rfl rfl rfl rfl ?_ | refine w_end14 rfl rfl rfl rfl rfl rfl rfl rfl rfl rfl rfl rfl rfl rfl ?_ | refine w_end15 rfl rfl rfl rfl rfl rfl rfl rfl rfl rfl rfl rfl rfl rfl rfl ?_ | refine w_end16 rfl rfl rfl rfl rfl rfl rfl rfl rfl rfl rfl rfl rfl rfl rfl rfl ?_)
        | ((refine i_cons ?_); first
          | (refine k_boxC rfl ?_; intro hh ee cc; have s := (s.ext ee).addC cc)
          | (refine k_call rfl (awake_call _) ?_; rintro v hh ⟨rfl, rfl⟩)
          | refine k_ldC rfl (s.c 0 rfl) ?_
          | refine k_ldC rfl (s.c 1 rfl) ?_
          | refine k_ldC rfl (s.c 2 rfl) ?_
          | refine k_ldC rfl (s.c 3 rfl) ?_
          | refine k_ldC rfl (s.c 4 rfl) ?_
          | refine k_ldC0 rfl (s.c 0 rfl) ?_
          | refine k_ldC1 rfl (s.c 0 rfl) ?_
          | refine k_ldC0 rfl (s.c 1 rfl) ?_
          | refine k_ldC1 rfl (s.c 1 rfl) ?_
          | refine k_ldC0 rfl (s.c 2 rfl) ?_
          | refine k_ldC1 rfl (s.c 2 rfl) ?_
          | refine k_ldC0 rfl (s.c 3 rfl) ?_
          | refine k_ldC1 rfl (s.c 3 rfl) ?_
          | refine k_ldC0 rfl (s.c 4 rfl) ?_
          | refine k_ldC1 rfl (s.c 4 rfl) ?_
          | (refine k_call rfl (k1 _ _ _ (s.g 0 rfl)) ?_; rintro v hh ⟨ee, rfl⟩; have s := s.ext ee)
          | (refine k_call rfl (k2 _ _ _ (s.g 0 rfl)) ?_; rintro v hh ⟨ee, rfl⟩; have s := s.ext ee)
          | refine k_skip rfl ?_
          | refine k_want rfl ?_
          | refine k_mv rfl ?_
          | refine k_pickT rfl rfl ?_
          | refine k_pickF rfl rfl ?_
          | refine k_notT rfl ?_
          | refine k_notF rfl ?_
          | refine k_add rfl rfl (by omega) ?_
          | refine k_sub rfl rfl (by omega) ?_
          | refine k_mul rfl rfl (by omega) ?_
          | refine k_neg rfl (by omega) ?_
          | refine k_quo rfl rfl (by omega) ?_
          | refine k_rem rfl rfl (by omega) ?_
          | refine k_conv rfl (by omega) ?_
          | refine k_max rfl rfl ?_
          | refine k_min rfl rfl ?_
          | refine k_lssT rfl rfl (by omega) ?_
          | refine k_lssF rfl rfl (by omega) ?_
          | refine k_lss rfl rfl (fun hc => ?_) (fun hc => ?_)
          | refine k_leqT rfl rfl (by omega) ?_
          | refine k_leqF rfl rfl (by omega) ?_
          | refine k_leq rfl rfl (fun hc => ?_) (fun hc => ?_)
          | refine k_gtrT rfl rfl (by omega) ?_
          | refine k_gtrF rfl rfl (by omega) ?_
          | refine k_gtr rfl rfl (fun hc => ?_) (fun hc => ?_)
          | refine k_geqT rfl rfl (by omega) ?_
          | refine k_geqF rfl rfl (by omega) ?_
          | refine k_geq rfl rfl (fun hc => ?_) (fun hc => ?_)
          | refine k_eqlT rfl rfl (by omega) ?_
          | refine k_eqlF rfl rfl (by omega) ?_
          | refine k_eql rfl rfl (fun hc => ?_) (fun hc => ?_)
          | refine k_neqT rfl rfl (by omega) ?_
          | refine k_neqF rfl rfl (by omega) ?_
          | refine k_neq rfl rfl (fun hc => ?_) (fun hc => ?_)
          | refine k_len rfl rfl ?_
          | refine k_ok rfl rfl ?_))
      exact ⟨.inr rfl, rfl⟩
  · have k1 := fun h X O hg => few12 h X O g hg
    rw [decide_eq_false hf] at k1
    repeat' (first
      | refine w_seq ?_
      | refine w_seqN ?_
      | refine w_seqX ?_
      | refine w_seqR ?_
      | refine w_blk ?_
      | refine w_blkN ?_
      | refine w_blkX ?_
      | refine w_blkR ?_
      | refine w_skip ?_
      | refine w_ret ?_
      | refine w_exit ?_
      | refine w_ops ?_
      | refine w_opsD ?_
      | refine d_one ?_
      | refine d_nil ?_
      | ((refine i_cond ?_); first | refine w_condT rfl ?_ | refine w_condF rfl ?_)
      | ((refine i_nil ?_); first | refine d_same ?_ | refine d_ord ?_ | refine d_ext ⟨_, rfl⟩ ?_ | refine d_ext (extA _ _ _) ?_ | refine d_ext (by assumption) ?_ | refine w_end0 ?_ | refine w_end1 rfl ?_ | refine w_end2 rfl rfl ?_ | refine w_end3 rfl rfl rfl ?_ | refine w_end4 rfl rfl rfl rfl ?_ | refine w_end5 rfl rfl rfl rfl rfl ?_ | refine w_end6 rfl rfl rfl rfl rfl rfl ?_ | refine w_end7 rfl rfl rfl rfl rfl rfl rfl ?_ | refine w_end8 rfl rfl rfl rfl rfl rfl rfl rfl ?_ | refine w_end9 rfl rfl rfl rfl rfl rfl rfl rfl rfl ?_ | refine w_end10 rfl rfl rfl rfl rfl rfl rfl rfl rfl rfl ?_ | refine w_end11 rfl rfl rfl rfl rfl rfl rfl rfl rfl rfl rfl ?_ | refine w_end12 rfl rfl rfl rfl rfl rfl rfl rfl rfl rfl rfl rfl ?_ | refine w_end13 rfl rfl rfl rfl rfl rfl rfl rfl rfl rfl rfl rfl rfl ?_ | refine w_end14 rfl rfl rfl rfl rfl rfl rfl rfl rfl rfl rfl rfl rfl rfl ?_ | refine w_end15 rfl rfl rfl rfl rfl rfl rfl rfl rfl rfl rfl rfl rfl rfl rfl ?_ | refine w_end16 rfl rfl rfl rfl rfl rfl rfl rfl rfl rfl rfl rfl rfl rfl rfl rfl ?_)
      | ((refine i_cons ?_); first
        | (refine k_boxC rfl ?_; intro hh ee cc; have s := (s.ext ee).addC cc)
        | (refine k_call rfl (awake_call _) ?_; rintro v hh ⟨rfl, rfl⟩)
        | refine k_ldC rfl (s.c 0 rfl) ?_
        | refine k_ldC rfl (s.c 1 rfl) ?_
        | refine k_ldC rfl (s.c 2 rfl) ?_
        | refine k_ldC rfl (s.c 3 rfl) ?_
        | refine k_ldC rfl (s.c 4 rfl) ?_
        | refine k_ldC0 rfl (s.c 0 rfl) ?_
        | refine k_ldC1 rfl (s.c 0 rfl) ?_
        | refine k_ldC0 rfl (s.c 1 rfl) ?_
        | refine k_ldC1 rfl (s.c 1 rfl) ?_
        | refine k_ldC0 rfl (s.c 2 rfl) ?_
        | refine k_ldC1 rfl (s.c 2 rfl) ?_
        | refine k_ldC0 rfl (s.c 3 rfl) ?_
        | refine k_ldC1 rfl (s.c 3 rfl) ?_
        | refine k_ldC0 rfl (s.c 4 rfl) ?_
        | refine k_ldC1 rfl (s.c 4 rfl) ?_
        | (refine k_call rfl (k1 _ _ _ (s.g 0 rfl)) ?_; rintro v hh ⟨ee, rfl⟩; have s := s.ext ee)
        | refine k_skip rfl ?_
        | refine k_want rfl ?_
        | refine k_mv rfl ?_
        | refine k_pickT rfl rfl ?_
        | refine k_pickF rfl rfl ?_
        | refine k_notT rfl ?_
        | refine k_notF rfl ?_
        | refine k_add rfl rfl (by omega) ?_
        | refine k_sub rfl rfl (by omega) ?_
        | refine k_mul rfl rfl (by omega) ?_
        | refine k_neg rfl (by omega) ?_
        | refine k_quo rfl rfl (by omega) ?_
        | refine k_rem rfl rfl (by omega) ?_
        | refine k_conv rfl (by omega) ?_
        | refine k_max rfl rfl ?_
        | refine k_min rfl rfl ?_
        | refine k_lssT rfl rfl (by omega) ?_
        | refine k_lssF rfl rfl (by omega) ?_
        | refine k_lss rfl rfl (fun hc => ?_) (fun hc => ?_)
        | refine k_leqT rfl rfl (by omega) ?_
        | refine k_leqF rfl rfl (by omega) ?_
        | refine k_leq rfl rfl (fun hc => ?_) (fun hc => ?_)
        | refine k_gtrT rfl rfl (by omega) ?_
        | refine k_gtrF rfl rfl (by omega) ?_
        | refine k_gtr rfl rfl (fun hc => ?_) (fun hc => ?_)
        | refine k_geqT rfl rfl (by omega) ?_
        | refine k_geqF rfl rfl (by omega) ?_
        | refine k_geq rfl rfl (fun hc => ?_) (fun hc => ?_)
        | refine k_eqlT rfl rfl (by omega) ?_
        | refine k_eqlF rfl rfl (by omega) ?_
        | refine k_eql rfl rfl (fun hc => ?_) (fun hc => ?_)
        | refine k_neqT rfl rfl (by omega) ?_
        | refine k_neqF rfl rfl (by omega) ?_
        | refine k_neq rfl rfl (fun hc => ?_) (fun hc => ?_)
        | refine k_len rfl rfl ?_
        | refine k_ok rfl rfl ?_))
    exact ⟨.inr rfl, rfl⟩
end Go.Proofs.YtadelcikpkhclaaDoor
