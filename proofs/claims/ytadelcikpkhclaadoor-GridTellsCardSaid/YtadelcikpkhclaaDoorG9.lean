/- The law GridTurns, reckoned. -/
import Derived.Test.YtadelcikpkhclaaDoorG8
namespace Go.Proofs.YtadelcikpkhclaaDoor
open Go.Ab
set_option linter.unusedVariables false
set_option maxRecDepth 20000
attribute [local irreducible] wOps wA wSeq wBlk wRound wOpsD
variable {HK : FuncId → Option Hook}

/-- What is known of the memory: what lies in cells, which grid diagrams there are. -/
structure Stt (h0 h : Heap) (F : List (Nat × SV × SV)) (G : List (SV × SV × Gr)) : Prop where
  e : Ext h0 h
  cs : ∀ (i : Nat) q a b, F[i]? = some (q, a, b) → Cel h q a b
  gs : ∀ (i : Nat) X O g, G[i]? = some (X, O, g) → IsG h X O g
theorem Stt.ext {h0 h h' : Heap} {F : List (Nat × SV × SV)} {G : List (SV × SV × Gr)} (s : Stt h0 h F G) (e : Ext h h') : Stt h0 h' F G := ⟨s.e.trans e, fun i q a b hi => (s.cs i q a b hi).ext e, fun i X O g hi => (s.gs i X O g hi).ext e⟩
theorem Stt.c {h0 h : Heap} {F : List (Nat × SV × SV)} {G : List (SV × SV × Gr)} (s : Stt h0 h F G) (i : Nat) {q : Nat} {a b : SV} (hi : F[i]? = some (q, a, b)) : Cel h q a b := s.cs i q a b hi
theorem Stt.g {h0 h : Heap} {F : List (Nat × SV × SV)} {G : List (SV × SV × Gr)} (s : Stt h0 h F G) (i : Nat) {X O : SV} {g : Gr} (hi : G[i]? = some (X, O, g)) : IsG h X O g := s.gs i X O g hi
theorem Stt.addC {h0 h : Heap} {F : List (Nat × SV × SV)} {G : List (SV × SV × Gr)} (s : Stt h0 h F G) {q : Nat} {a b : SV} (c : Cel h q a b) : Stt h0 h ((q, a, b) :: F) G := ⟨s.e, fun i q' a' b' hi => by
  cases i with
  | zero => simp at hi; obtain ⟨rfl, rfl, rfl⟩ := hi; exact c
  | succ i => exact s.cs i _ _ _ (by simpa using hi), s.gs⟩
theorem Stt.addG {h0 h : Heap} {F : List (Nat × SV × SV)} {G : List (SV × SV × Gr)} (s : Stt h0 h F G) {X O : SV} {g : Gr} (c : IsG h X O g) : Stt h0 h F ((X, O, g) :: G) := ⟨s.e, s.cs, fun i q' a' b' hi => by
  cases i with
  | zero => simp at hi; obtain ⟨rfl, rfl, rfl⟩ := hi; exact c
  | succ i => exact s.gs i _ _ _ (by simpa using hi)⟩
theorem Stt.start {h0 : Heap} {X O : SV} {g : Gr} (hg : IsG h0 X O g) : Stt h0 h0 [] [(X, O, g)] := Stt.addG ⟨Ext.refl _, fun i q a b hi => by simp at hi, fun i q a b hi => by simp at hi⟩ hg

theorem few12 (h0 : Heap) (X O : SV) (g : Gr) (hg : IsG h0 X O g) : ∃ v h', Cal FT HK1 12 [.agg [X, O]] h0 v h' ∧ Ext h0 h' ∧ v = .sc (.bool (decide (g.1.length ≤ 16 ∧ g.2.length ≤ 32))) := call12 rfl h0 X O g.1 g.2 hg.x hg.o
theorem valid14 (h0 : Heap) (X O : SV) (g : Gr) (hb : g.2.length ≤ 1000000) (hg : IsG h0 X O g) : ∃ v h', Cal FT HK1 14 [.agg [X, O]] h0 v h' ∧ Ext h0 h' ∧ v = .sc (.bool (decide (VG g.1 g.2))) := by
  have := call14 (HK := HK1) rfl rfl rfl h0 X O g.1 g.2 hg.x hg.o hb
  exact this
theorem same26 (h0 : Heap) (X O X' O' : SV) (g : Gr) (n : Nat) (h1 : IsG h0 X O g) (h2 : IsG h0 X' O' g) (hs : Sz n g) (hn : n ≤ 1000) : ∃ v h', Cal FT HK1 26 [.agg [X, O], .agg [X', O']] h0 v h' ∧ Ext h0 h' ∧ v = .sc (.bool true) :=
  call26 rfl rfl h0 X O X' O' g h1.x h1.o h2.x h2.o (by rw [hs.1, hs.2]; exact ⟨hn, hn⟩)

set_option maxHeartbeats 8000000 in
theorem turns (h0 : Heap) (X : SV) (xs : List Int) (hX : IsInts h0 X xs) (O : SV) (os : List Int) (hO : IsInts h0 O os) (c : Int) (hc : -9223372036854775808 ≤ c ∧ c ≤ 9223372036854775807) (r : Int) (hr : -9223372036854775808 ≤ r ∧ r ≤ 9223372036854775807) :
    ∃ v h', Cal FT HK1 8 [.agg [X, O], .sc (.int .i64 c), .sc (.int .i64 r)] h0 v h' ∧ v = .sc (.bool true) := by
  refine Cal.of (F := a8) rfl rfl rfl ?_
  have s : Stt h0 h0 [] [(X, O, (xs, os))] := Stt.start ⟨hX, hO⟩
  generalize hg : (xs, os) = g at *
  by_cases hf : g.1.length ≤ 16 ∧ g.2.length ≤ 32
  · by_cases hv : VG g.1 g.2
    · have hV := (vg_iff g).1 hv
      have n40 := hV.few
      have hrg := hV.vd.rg
      have k1 := fun h X O hg => few12 h X O g hg
      rw [decide_eq_true hf] at k1
      have k2 := fun h X O hg => valid14 h X O g (by omega) hg
      rw [decide_eq_true hv] at k2
      repeat' (first
        | refine w_seq ?_
        | refine w_seqN ?_
        | refine w_seqX ?_
        | refine w_seqR ?_
        | refine w_blk ?_
        | refine w_blkN ?_
        | refine w_blkX ?_
        | refine w_blkR ?_
        | refine w_skip ?_
        | refine w_ret ?_
        | refine w_exit ?_
        | refine w_ops ?_
        | refine w_opsD ?_
        | refine d_one ?_
        | refine d_nil ?_
        | ((refine i_cond ?_); first | refine w_condT rfl ?_ | refine w_condF rfl ?_)
        | ((refine i_nil ?_); first | refine d_same ?_ | refine d_ord ?_ | refine d_ext ⟨_, rfl⟩ ?_ | refine d_ext (extA _ _ _) ?_ | refine d_ext (by assumption) ?_ | refine w_end0 ?_ | refine w_end1 rfl ?_ | refine w_end2 rfl rfl ?_ | refine w_end3 rfl rfl rfl ?_ | refine w_end4 rfl rfl rfl rfl ?_ | refine w_end5 rfl rfl rfl rfl rfl ?_ | refine w_end6 rfl rfl rfl rfl rfl rfl ?_ | refine w_end7 rfl rfl rfl rfl rfl rfl rfl ?_ | refine w_end8 rfl rfl rfl rfl rfl rfl rfl rfl ?_ | refine w_end9 rfl rfl rfl rfl rfl rfl rfl rfl rfl ?_ | refine w_end10 rfl rfl rfl rfl rfl rfl rfl rfl rfl rfl ?_ | refine w_end11 rfl rfl rfl rfl rfl rfl rfl rfl rfl rfl rfl ?_ | refine w_end12 rfl rfl rfl rfl rfl rfl rfl rfl rfl rfl rfl rfl ?_ | refine w_end13 rfl rfl rfl rfl rfl rfl rfl rfl rfl rfl rfl rfl rfl ?_ | refine w_end14 rfl rfl rfl rfl rfl rfl rfl rfl rfl rfl rfl rfl rfl rfl ?_ | refine w_end15 rfl rfl rfl rfl rfl rfl rfl rfl rfl rfl rfl rfl rfl rfl rfl ?_ | refine w_end16 rfl rfl rfl rfl rfl rfl rfl rfl rfl rfl rfl rfl rfl rfl rfl rfl ?_)
        | ((refine i_cons ?_); first
          | (refine k_boxC rfl ?_; intro hh ee cc; have s := (s.ext ee).addC cc)
          | (refine k_call rfl (awake_call _) ?_; rintro v hh ⟨rfl, rfl⟩)
          | refine k_ldC rfl (s.c 0 rfl) ?_
          | refine k_ldC rfl (s.c 1 rfl) ?_
          | refine k_ldC rfl (s.c 2 rfl) ?_
          | refine k_ldC rfl (s.c 3 rfl) ?_
          | (refine k_call rfl (k1 _ _ _ (s.g 0 rfl)) ?_; rintro v hh ⟨ee, rfl⟩; have s := s.ext ee)
          | (refine k_call rfl (k2 _ _ _ (s.g 3 rfl)) ?_; rintro v hh ⟨ee, rfl⟩; have s := s.ext ee)
          | (refine k_call rfl (call21 rfl rfl rfl _ _ _ _ (s.g 0 rfl) hv) ?_; rintro v hh ⟨ee, X1, O1, rfl, gg⟩; have s := (s.ext ee).addG gg)
          | (refine k_call rfl (call23 rfl rfl rfl rfl _ _ _ _ c r (s.g 1 rfl) hv) ?_; rintro v hh ⟨ee, X1, O1, rfl, gg⟩; have s := (s.ext ee).addG gg)
          | (refine k_call rfl (call24 rfl rfl rfl rfl rfl rfl rfl rfl _ _ _ _ (s.g 2 rfl) hv) ?_; rintro v hh ⟨ee, X1, O1, rfl, gg⟩; have s := (s.ext ee).addG gg)
          | (refine k_newst rfl ?_; intro hh ee cc; have s := (s.ext ee).addC cc)
          | (refine k_call rfl (call27 rfl _ _ _ _ (s.g 3 rfl) hV) ?_; rintro v hh ⟨ee, X1, O1, rfl, gg⟩; have s := (s.ext ee).addG gg)
          | (refine k_call rfl (tr28 rfl rfl _ _ _ _ _ c r (s.g 4 rfl) hrg (by omega)) ?_; rintro v hh ⟨ee, X1, O1, rfl, gg⟩; have s := (s.ext ee).addG gg)
          | (refine k_call rfl (call29 rfl rfl rfl rfl _ _ _ _ _ (s.g 5 rfl) hrg (by omega)) ?_; rintro v hh ⟨ee, X1, O1, rfl, gg⟩; have s := (s.ext ee).addG gg)
          | (refine k_call rfl (same26 _ _ _ _ _ _ g.1.length (s.g 3 rfl) (s.g 0 rfl) hV.vd.rot.rg.sz (by omega)) ?_; rintro v hh ⟨ee, rfl⟩; have s := s.ext ee)
          | (refine k_call rfl (same26 _ _ _ _ _ _ g.1.length (s.g 3 rfl) (s.g 0 rfl) (hrg.tr c r).sz (by omega)) ?_; rintro v hh ⟨ee, rfl⟩; have s := s.ext ee)
          | (refine k_call rfl (same26 _ _ _ _ _ _ g.1.length (s.g 3 rfl) (s.g 0 rfl) ((leastG_is hrg).sz hrg).sz (by omega)) ?_; rintro v hh ⟨ee, rfl⟩; have s := s.ext ee)
          | refine k_skip rfl ?_
          | refine k_want rfl ?_
          | refine k_mv rfl ?_
          | refine k_pickT rfl rfl ?_
          | refine k_pickF rfl rfl ?_
          | refine k_notT rfl ?_
          | refine k_notF rfl ?_
          | refine k_add rfl rfl (by omega) ?_
          | refine k_sub rfl rfl (by omega) ?_
          | refine k_mul rfl rfl (by omega) ?_
          | refine k_neg rfl (by omega) ?_
          | refine k_quo rfl rfl (by omega) ?_
          | refine k_rem rfl rfl (by omega) ?_
          | refine k_conv rfl (by omega) ?_
          | refine k_max rfl rfl ?_
          | refine k_min rfl rfl ?_
          | refine k_lssT rfl rfl (by omega) ?_
          | refine k_lssF rfl rfl (by omega) ?_
          | refine k_lss rfl rfl (fun hc => ?_) (fun hc => ?_)
          | refine k_leqT rfl rfl (by omega) ?_
          | refine k_leqF rfl rfl (by omega) ?_
          | refine k_leq rfl rfl (fun hc => ?_) (fun hc => ?_)
          | refine k_gtrT rfl rfl (by omega) ?_
          | refine k_gtrF rfl rfl (by omega) ?_
          | refine k_gtr rfl rfl (fun hc => ?_) (fun hc => ?_)
          | refine k_geqT rfl rfl (by omega) ?_
          | refine k_geqF rfl rfl (by omega) ?_
          | refine k_geq rfl rfl (fun hc => ?_) (fun hc => ?_)
          | refine k_eqlT rfl rfl (by omega) ?_
          | refine k_eqlF rfl rfl (by omega) ?_
          | refine k_eql rfl rfl (fun hc => ?_) (fun hc => ?_)
          | refine k_neqT rfl rfl (by omega) ?_
          | refine k_neqF rfl rfl (by omega) ?_
          | refine k_neq rfl rfl (fun hc => ?_) (fun hc => ?_)
          | refine k_len rfl rfl ?_
          | refine k_ok rfl rfl ?_))
      exact ⟨.inr rfl, rfl⟩
    · have k1 := fun h X O hg => few12 h X O g hg
      rw [decide_eq_true hf] at k1
      have k2 := fun h X O hg => valid14 h X O g (by omega) hg
      rw [decide_eq_false hv] at k2
      repeat' (first
        | refine w_seq ?_
        | refine w_seqN ?_
        | refine w_seqX ?_
        | refine w_seqR ?_
        | refine w_blk ?_
        | refine w_blkN ?_
        | refine w_blkX ?_
        | refine w_blkR ?_
        | refine w_skip ?_
        | refine w_ret ?_
        | refine w_exit ?_
        | refine w_ops ?_
        | refine w_opsD ?_
        | refine d_one ?_
        | refine d_nil ?_
        | ((refine i_cond ?_); first | refine w_condT rfl ?_ | refine w_condF rfl ?_)
        | ((refine i_nil ?_); first | refine d_same ?_ | refine d_ord ?_ | refine d_ext ⟨_, rfl⟩ ?_ | refine d_ext (extA _ _ _) ?_ | refine d_ext (by assumption) ?_ | refine w_end0 ?_ | refine w_end1 rfl ?_ | refine w_end2 rfl rfl ?_ | refine w_end3 rfl rfl rfl ?_ | refine w_end4 rfl rfl rfl rfl ?_ | refine w_end5 rfl rfl rfl rfl rfl ?_ | refine w_end6 rfl rfl rfl rfl rfl rfl ?_ | refine w_end7 rfl rfl rfl rfl rfl rfl rfl ?_ | refine w_end8 rfl rfl rfl rfl rfl rfl rfl rfl ?_ | refine w_end9 rfl rfl rfl rfl rfl rfl rfl rfl rfl ?_ | refine w_end10 rfl rfl rfl rfl rfl rfl rfl rfl rfl rfl ?_ | refine w_end11 rfl rfl rfl rfl rfl rfl rfl rfl rfl rfl rfl ?_ | refine w_end12 rfl rfl rfl rfl rfl rfl rfl rfl rfl rfl rfl rfl ?_ | refine w_end13 rfl rfl rfl rfl rfl rfl rfl rfl rfl rfl rfl rfl rfl ?_ | refine w_end14 rfl rfl rfl rfl rfl rfl rfl rfl rfl rfl rfl rfl rfl rfl ?_ | refine w_end15 rfl rfl rfl rfl rfl rfl rfl rfl rfl rfl rfl rfl rfl rfl rfl ?_ | refine w_end16 rfl rfl rfl rfl rfl rfl rfl rfl rfl rfl rfl rfl rfl rfl rfl rfl ?_)
        | ((refine i_cons ?_); first
          | (refine k_boxC rfl ?_; intro hh ee cc; have s := (s.ext ee).addC cc)
          | (refine k_call rfl (awake_call _) ?_; rintro v hh ⟨rfl, rfl⟩)
          | refine k_ldC rfl (s.c 0 rfl) ?_
          | refine k_ldC rfl (s.c 1 rfl) ?_
          | refine k_ldC rfl (s.c 2 rfl) ?_
          | refine k_ldC rfl (s.c 3 rfl) ?_
          | (refine k_call rfl (k1 _ _ _ (s.g 0 rfl)) ?_; rintro v hh ⟨ee, rfl⟩; have s := s.ext ee)
          | (refine k_call rfl (k2 _ _ _ (s.g 0 rfl)) ?_; rintro v hh ⟨ee, rfl⟩; have s := s.ext ee)
          | (refine k_call rfl (call21e rfl rfl rfl _ _ _ _ (s.g 0 rfl) hv) ?_; rintro v hh ⟨ee, rfl⟩; have s := s.ext ee)
          | (refine k_call rfl (call23e rfl rfl rfl _ _ _ _ c r (s.g 0 rfl) hv) ?_; rintro v hh ⟨ee, rfl⟩; have s := s.ext ee)
          | (refine k_call rfl (call24e rfl rfl rfl _ _ _ _ (s.g 0 rfl) hv) ?_; rintro v hh ⟨ee, rfl⟩; have s := s.ext ee)
          | (refine k_newst rfl ?_; intro hh ee cc; have s := (s.ext ee).addC cc)
          | (refine k_call rfl (call25 rfl _) ?_; rintro v hh ⟨ee, rfl⟩; have s := s.ext ee)
          | refine k_skip rfl ?_
          | refine k_want rfl ?_
          | refine k_mv rfl ?_
          | refine k_pickT rfl rfl ?_
          | refine k_pickF rfl rfl ?_
          | refine k_notT rfl ?_
          | refine k_notF rfl ?_
          | refine k_add rfl rfl (by omega) ?_
          | refine k_sub rfl rfl (by omega) ?_
          | refine k_mul rfl rfl (by omega) ?_
          | refine k_neg rfl (by omega) ?_
          | refine k_quo rfl rfl (by omega) ?_
          | refine k_rem rfl rfl (by omega) ?_
          | refine k_conv rfl (by omega) ?_
          | refine k_max rfl rfl ?_
          | refine k_min rfl rfl ?_
          | refine k_lssT rfl rfl (by omega) ?_
          | refine k_lssF rfl rfl (by omega) ?_
          | refine k_lss rfl rfl (fun hc => ?_) (fun hc => ?_)
          | refine k_leqT rfl rfl (by omega) ?_
          | refine k_leqF rfl rfl (by omega) ?_
          | refine k_leq rfl rfl (fun hc => ?_) (fun hc => ?_)
          | refine k_gtrT rfl rfl (by omega) ?_
          | refine k_gtrF rfl rfl (by omega) ?_
          | refine k_gtr rfl rfl (fun hc => ?_) (fun hc => ?_)
          | refine k_geqT rfl rfl (by omega) ?_
          | refine k_geqF rfl rfl (by omega) ?_
          | refine k_geq rfl rfl (fun hc => ?_) (fun hc => ?_)
          | refine k_eqlT rfl rfl (by omega) ?_
          | refine k_eqlF rfl rfl (by omega) ?_
          | refine k_eql rfl rfl (fun hc => ?_) (fun hc => ?_)
          | refine k_neqT rfl rfl (by omega) ?_
          | refine k_neqF rfl rfl (by omega) ?_
          | refine k_neq rfl rfl (fun hc => ?_) (fun hc => ?_)
          | refine k_len rfl rfl ?_
          | refine k_ok rfl rfl ?_))
      exact ⟨.inr rfl, rfl⟩
  · have k1 := fun h X O hg => few12 h X O g hg
    rw [decide_eq_false hf] at k1
    repeat' (first
      | refine w_seq ?_
      | refine w_seqN ?_
      | refine w_seqX ?_
      | refine w_seqR ?_
      | refine w_blk ?_
      | refine w_blkN ?_
      | refine w_blkX ?_
      | refine w_blkR ?_
      | refine w_skip ?_
      | refine w_ret ?_
      | refine w_exit ?_
      | refine w_ops ?_
      | refine w_opsD ?_
      | refine d_one ?_
      | refine d_nil ?_
      | ((refine i_cond ?_); first | refine w_condT rfl ?_ | refine w_condF rfl ?_)
      | ((refine i_nil ?_); first | refine d_same ?_ | refine d_ord ?_ | refine d_ext ⟨_, rfl⟩ ?_ | refine d_ext (extA _ _ _) ?_ | refine d_ext (by assumption) ?_ | refine w_end0 ?_ | refine w_end1 rfl ?_ | refine w_end2 rfl rfl ?_ | refine w_end3 rfl rfl rfl ?_ | refine w_end4 rfl rfl rfl rfl ?_ | refine w_end5 rfl rfl rfl rfl rfl ?_ | refine w_end6 rfl rfl rfl rfl rfl rfl ?_ | refine w_end7 rfl rfl rfl rfl rfl rfl rfl ?_ | refine w_end8 rfl rfl rfl rfl rfl rfl rfl rfl ?_ | refine w_end9 rfl rfl rfl rfl rfl rfl rfl rfl rfl ?_ | refine w_end10 rfl rfl rfl rfl rfl rfl rfl rfl rfl rfl ?_ | refine w_end11 rfl rfl rfl rfl rfl rfl rfl rfl rfl rfl rfl ?_ | refine w_end12 rfl rfl rfl rfl rfl rfl rfl rfl rfl rfl rfl rfl ?_ | refine w_end13 rfl rfl rfl rfl rfl rfl rfl rfl rfl rfl rfl rfl rfl ?_ | refine w_end14 rfl rfl rfl rfl rfl rfl rfl rfl rfl rfl rfl rfl rfl rfl ?_ | refine w_end15 rfl rfl rfl rfl rfl rfl rfl rfl rfl rfl rfl rfl rfl rfl rfl ?_ | refine w_end16 rfl rfl rfl rfl rfl rfl rfl rfl rfl rfl rfl rfl rfl rfl rfl rfl ?_)
      | ((refine i_cons ?_); first
        | (refine k_boxC rfl ?_; intro hh ee cc; have s := (s.ext ee).addC cc)
        | (refine k_call rfl (awake_call _) ?_; rintro v hh ⟨rfl, rfl⟩)
        | refine k_ldC rfl (s.c 0 rfl) ?_
        | refine k_ldC rfl (s.c 1 rfl) ?_
        | refine k_ldC rfl (s.c 2 rfl) ?_
        | refine k_ldC rfl (s.c 3 rfl) ?_
        | (refine k_call rfl (k1 _ _ _ (s.g 0 rfl)) ?_; rintro v hh ⟨ee, rfl⟩; have s := s.ext ee)
        | refine k_skip rfl ?_
        | refine k_want rfl ?_
        | refine k_mv rfl ?_
        | refine k_pickT rfl rfl ?_
        | refine k_pickF rfl rfl ?_
        | refine k_notT rfl ?_
        | refine k_notF rfl ?_
        | refine k_add rfl rfl (by omega) ?_
        | refine k_sub rfl rfl (by omega) ?_
        | refine k_mul rfl rfl (by omega) ?_
        | refine k_neg rfl (by omega) ?_
        | refine k_quo rfl rfl (by omega) ?_
        | refine k_rem rfl rfl (by omega) ?_
        | refine k_conv rfl (by omega) ?_
        | refine k_max rfl rfl ?_
        | refine k_min rfl rfl ?_
        | refine k_lssT rfl rfl (by omega) ?_
        | refine k_lssF rfl rfl (by omega) ?_
        | refine k_lss rfl rfl (fun hc => ?_) (fun hc => ?_)
        | refine k_leqT rfl rfl (by omega) ?_
        | refine k_leqF rfl rfl (by omega) ?_
        | refine k_leq rfl rfl (fun hc => ?_) (fun hc => ?_)
        | refine k_gtrT rfl rfl (by omega) ?_
        | refine k_gtrF rfl rfl (by omega) ?_
        | refine k_gtr rfl rfl (fun hc => ?_) (fun hc => ?_)
        | refine k_geqT rfl rfl (by omega) ?_
        | refine k_geqF rfl rfl (by omega) ?_
        | refine k_geq rfl rfl (fun hc => ?_) (fun hc => ?_)
        | refine k_eqlT rfl rfl (by omega) ?_
        | refine k_eqlF rfl rfl (by omega) ?_
        | refine k_eql rfl rfl (fun hc => ?_) (fun hc => ?_)
        | refine k_neqT rfl rfl (by omega) ?_
        | refine k_neqF rfl rfl (by omega) ?_
        | refine k_neq rfl rfl (fun hc => ?_) (fun hc => ?_)
        | refine k_len rfl rfl ?_
        | refine k_ok rfl rfl ?_))
    exact ⟨.inr rfl, rfl⟩
end Go.Proofs.YtadelcikpkhclaaDoor
