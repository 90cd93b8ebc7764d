/- The law PolymatrixNormal. -/
import Derived.Test.YtofknpknogfijaaGreatDoorMN1
import Derived.Test.YtofknpknogfijaaGreatDoorO4
import Derived.Test.YtofknpknogfijaaGreatDoorO5
import Derived.Test.YtofknpknogfijaaGreatDoorPE
import Derived.Test.YtofknpknogfijaaGreatDoorT5
namespace Go.Proofs.YtofknpknogfijaaGreatDoor
open Go.Ab
set_option linter.unusedVariables false
set_option linter.unusedSimpArgs false
set_option maxRecDepth 20000
set_option maxHeartbeats 8000000
attribute [local irreducible] wOps wA wSeq wBlk wRound wRoundI wOpsD wOpsS
set_option linter.unusedSectionVars false
section
variable [HB]
theorem ofP_rngO {low : Int} {xs : List Int} : ∀ t ∈ (ofP low xs).ts, low ≤ t.1 ∧ t.1 < low + xs.length := by
  unfold ofP
  cases h : ofN low xs xs.length with
  | none => simp [bigP]
  | some r => exact fun t ht => let ⟨a, b, _⟩ := (ofN_ok h).2.1 t ht; ⟨a, b⟩
theorem nrm_sml {p : Pol} {B : Nat} (k : Pok p) (h : ∀ t ∈ p.ts, t.1.natAbs ≤ B) (hB : 2 * B ≤ 300) : Sml (nrmP p) := by
  intro t ht
  unfold nrmP at ht
  split at ht
  · have := h t ht; omega
  · rename_i hn
    obtain ⟨u, hu, rfl⟩ := List.mem_map.1 (show t ∈ (sgT p.ts).map _ from ht)
    obtain ⟨v, hv, e1, e2⟩ := sg_mem hu
    have := h v hv
    obtain ⟨w, hw, e3⟩ := lo0_mem (p := p.ts) (fun e => hn (.inr e))
    have := h w hw
    show (u.1 - lo0 (sgT p.ts)).natAbs ≤ 300
    rw [lo0_sg]; omega
def I6 (h0 : Heap) (low : Int) (s : SV) (xs : List Int) (by_ : Int) (k : Nat) (E : Env) (h : Heap) : Prop := ∃ i : Nat, i ≤ xs.length ∧ k = xs.length - i ∧ (∀ x ∈ xs.take i, smC x) ∧ h = h0 ∧
  E.keep [0, 1, 2, 7] = [(0, some (.sc (.int .i64 low))), (1, some (.sc s)), (2, some (.sc (.int .i8 by_))), (7, some (.sc (.int .i64 (i : Nat))))]
def R6 (h0 : Heap) (low : Int) (s : SV) (xs : List Int) (by_ : Int) (ex : Ex) (E : Env) (h : Heap) : Prop := h = h0 ∧
  ((ex = .ex 0 ∧ (∀ x ∈ xs, smC x) ∧ ∃ a b, E = [(0, some (.sc (.int .i64 low))), (1, some (.sc s)), (2, some (.sc (.int .i8 by_))), (7, a), (26, b)]) ∨ (ex = .rt ∧ E = [(6, some (.sc (.bool true)))]))
theorem round6 (h0 : Heap) (low : Int) (s : SV) (xs : List Int) (by_ : Int) (hx : IsInts h0 s xs) (hn : xs.length ≤ 20) (k : Nat) (E : Env) (h : Heap) (hI : I6 h0 low s xs by_ k E h) :
    wA FT HKt b6L0 (E.keep [0, 1, 2, 7]) h (wRoundI (I6 h0 low s xs by_) k (R6 h0 low s xs by_)) := by
  obtain ⟨i, hi, rfl, hall, rfl, hE⟩ := hI
  rw [hE]
  have ls := IsSl.len hx
  by_cases hlt : i < xs.length
  · obtain ⟨x, hx0⟩ : ∃ x, xs[i]? = some x := ⟨_, List.getElem?_eq_getElem hlt⟩
    obtain ⟨id, off, cap, rfl, rd⟩ := IsInts.at hx hx0
    by_cases hc1 : x < -4611686018427387904
    · repeat' (first | refine w_seq ?_ | refine w_seqN ?_ | refine w_seqR ?_ | refine w_blk ?_ | refine w_blkR ?_ | refine w_skip ?_ | refine w_ret ?_ | refine w_ops ?_ | ((refine i_cond ?_); refine w_condT rfl ?_) | ((refine i_nil ?_); first | refine w_end1 rfl ?_ | refine w_end5 rfl rfl rfl rfl rfl ?_) | ((refine i_cons ?_); first | refine k_len rfl ls ?_ | refine k_idxA (esz := 1) rfl rfl (by omega) ?_ | refine k_ld rfl rd ?_ | refine k_skip rfl ?_ | refine k_mv rfl ?_ | refine k_pickT rfl rfl ?_ | refine k_lssT rfl rfl (by omega) ?_))
      exact w_roundIR ⟨rfl, .inr ⟨rfl, rfl⟩⟩
    by_cases hc2 : x > 4611686018427387904
    · repeat' (first | refine w_seq ?_ | refine w_seqN ?_ | refine w_seqR ?_ | refine w_blk ?_ | refine w_blkR ?_ | refine w_skip ?_ | refine w_ret ?_ | refine w_ops ?_ | ((refine i_cond ?_); refine w_condT rfl ?_) | ((refine i_nil ?_); first | refine w_end1 rfl ?_ | refine w_end5 rfl rfl rfl rfl rfl ?_) | ((refine i_cons ?_); first | refine k_len rfl ls ?_ | refine k_idxA (esz := 1) rfl rfl (by omega) ?_ | refine k_ld rfl rd ?_ | refine k_want rfl ?_ | refine k_mv rfl ?_ | refine k_pickF rfl rfl ?_ | refine k_lssT rfl rfl (by omega) ?_ | refine k_lssF rfl rfl (by omega) ?_ | refine k_gtrT rfl rfl (by omega) ?_))
      exact w_roundIR ⟨rfl, .inr ⟨rfl, rfl⟩⟩
    repeat' (first | refine w_seq ?_ | refine w_seqN ?_ | refine w_blk ?_ | refine w_blkN ?_ | refine w_skip ?_ | refine w_ops ?_ | ((refine i_cond ?_); first | refine w_condT rfl ?_ | refine w_condF rfl ?_) | ((refine i_nil ?_); first | refine w_end4 rfl rfl rfl rfl ?_ | refine w_end5 rfl rfl rfl rfl rfl ?_) | ((refine i_cons ?_); first | refine k_len rfl ls ?_ | refine k_idxA (esz := 1) rfl rfl (by omega) ?_ | refine k_ld rfl rd ?_ | refine k_want rfl ?_ | refine k_mv rfl ?_ | refine k_pickF rfl rfl ?_ | refine k_add rfl rfl (by omega) ?_ | refine k_lssT rfl rfl (by omega) ?_ | refine k_lssF rfl rfl (by omega) ?_ | refine k_gtrF rfl rfl (by omega) ?_))
    refine w_roundIN (j := xs.length - (i + 1)) (by omega) ⟨i + 1, by omega, rfl, fun y hy => ?_, rfl, rfl⟩
    rw [List.take_add_one, hx0] at hy
    rcases List.mem_append.1 hy with hy | hy
    · exact hall y hy
    · simp at hy; subst hy; exact ⟨by omega, by omega⟩
  · have : i = xs.length := by omega
    subst this
    repeat' (first | refine w_seq ?_ | refine w_seqN ?_ | refine w_seqX ?_ | refine w_exit ?_ | refine w_ops ?_ | ((refine i_cond ?_); refine w_condF rfl ?_) | ((refine i_nil ?_); refine w_end5 rfl rfl rfl rfl rfl ?_) | ((refine i_cons ?_); first | refine k_len rfl ls ?_ | refine k_mv rfl ?_ | refine k_lssF rfl rfl (by omega) ?_))
    rw [List.take_length] at hall
    exact w_roundIX ⟨rfl, .inl ⟨rfl, hall, _, _, rfl⟩⟩
theorem call6w (aw : ∀ h : Heap, ∃ v h', Cal FT HKt 9 [] h v h' ∧ v = .sc (.bool true) ∧ h' = h) (h0 : Heap) (low : Int) (hlow : -9223372036854775808 ≤ low ∧ low ≤ 9223372036854775807) (s : SV) (xs : List Int) (hx : IsInts h0 s xs) (b : Int) (hb : -128 ≤ b ∧ b ≤ 127) :
    ∃ v h', Cal FT HKt 6 [.sc (.int .i64 low), .sc s, .sc (.int .i8 b)] h0 v h' ∧ v = .sc (.bool true) := by
  refine Cal.of (F := a6) rfl rfl rfl ?_
  have ls := IsSl.len hx
  by_cases hs1 : ¬ xs.length ≤ 20
  · repeat' (first | refine w_seq ?_ | refine w_seqN ?_ | refine w_seqR ?_ | refine w_skip ?_ | refine w_ret ?_ | refine w_ops ?_ | ((refine i_cond ?_); first | refine w_condT rfl ?_ | refine w_condF rfl ?_) | ((refine i_nil ?_); first | refine w_end1 rfl ?_ | refine w_end3 rfl rfl rfl ?_ | refine w_end4 rfl rfl rfl rfl ?_) | ((refine i_cons ?_); first | (refine k_call rfl (aw _) ?_; rintro v h0 ⟨rfl, rfl⟩) | refine k_len rfl ls ?_ | refine k_skip rfl ?_ | refine k_mv rfl ?_ | refine k_pickT rfl rfl ?_ | refine k_notT rfl ?_ | refine k_gtrT rfl rfl (by omega) ?_))
    exact ⟨.inr rfl, rfl⟩
  by_cases hs2 : low < -100
  · repeat' (first | refine w_seq ?_ | refine w_seqN ?_ | refine w_seqR ?_ | refine w_skip ?_ | refine w_ret ?_ | refine w_ops ?_ | ((refine i_cond ?_); first | refine w_condT rfl ?_ | refine w_condF rfl ?_) | ((refine i_nil ?_); first | refine w_end1 rfl ?_ | refine w_end3 rfl rfl rfl ?_ | refine w_end4 rfl rfl rfl rfl ?_) | ((refine i_cons ?_); first | (refine k_call rfl (aw _) ?_; rintro v h0 ⟨rfl, rfl⟩) | refine k_len rfl ls ?_ | refine k_skip rfl ?_ | refine k_want rfl ?_ | refine k_mv rfl ?_ | refine k_pickT rfl rfl ?_ | refine k_pickF rfl rfl ?_ | refine k_notT rfl ?_ | refine k_lssT rfl rfl (by omega) ?_ | refine k_gtrF rfl rfl (by omega) ?_))
    exact ⟨.inr rfl, rfl⟩
  by_cases hs3 : low > 100
  · repeat' (first | refine w_seq ?_ | refine w_seqN ?_ | refine w_seqR ?_ | refine w_skip ?_ | refine w_ret ?_ | refine w_ops ?_ | ((refine i_cond ?_); first | refine w_condT rfl ?_ | refine w_condF rfl ?_) | ((refine i_nil ?_); first | refine w_end1 rfl ?_ | refine w_end3 rfl rfl rfl ?_ | refine w_end4 rfl rfl rfl rfl ?_) | ((refine i_cons ?_); first | (refine k_call rfl (aw _) ?_; rintro v h0 ⟨rfl, rfl⟩) | refine k_len rfl ls ?_ | refine k_want rfl ?_ | refine k_mv rfl ?_ | refine k_pickF rfl rfl ?_ | refine k_notT rfl ?_ | refine k_lssF rfl rfl (by omega) ?_ | refine k_gtrT rfl rfl (by omega) ?_ | refine k_gtrF rfl rfl (by omega) ?_))
    exact ⟨.inr rfl, rfl⟩
  replace hs1 := Decidable.not_not.1 hs1
  repeat' (first | refine w_seq ?_ | refine w_seqN ?_ | refine w_blk ?_ | refine w_skip ?_ | refine w_ops ?_ | ((refine i_cond ?_); refine w_condF rfl ?_) | ((refine i_nil ?_); first | refine w_end3 rfl rfl rfl ?_ | refine w_end4 rfl rfl rfl rfl ?_) | ((refine i_cons ?_); first | (refine k_call rfl (aw _) ?_; rintro v h0 ⟨rfl, rfl⟩) | refine k_len rfl ls ?_ | refine k_want rfl ?_ | refine k_mv rfl ?_ | refine k_pickF rfl rfl ?_ | refine k_notT rfl ?_ | refine k_lssF rfl rfl (by omega) ?_ | refine k_gtrF rfl rfl (by omega) ?_))
  refine w_loopI (I6 h0 low s xs b) xs.length (R6 h0 low s xs b) ⟨0, Nat.zero_le _, rfl, by simp, rfl, rfl⟩ (round6 h0 low s xs b hx hs1) ?_
  rintro ex E' h1 ⟨eh, ⟨rfl, hall, _, _, rfl⟩ | ⟨rfl, rfl⟩⟩
  case inr =>
    repeat' (first | refine w_seqR ?_ | refine w_blkR ?_)
    exact ⟨.inr rfl, rfl⟩
  rw [← eh] at hx
  have hsm : smallP low xs := ⟨hs1, by omega, by omega, hall⟩
  obtain ⟨a1, a2, a3⟩ := small_ofP hsm
  have k20 := call20 h1 low a2 s xs a1 hx a3
  have kp := ofP_ok low xs
  have kr : ∀ t ∈ (ofP low xs).ts, t.1.natAbs ≤ 120 := fun t ht => by have := ofP_rngO t ht; omega
  have kl : (ofP low xs).ts.length ≤ 20 := Nat.le_trans (can_len kp.can fun t ht => ofP_rngO t ht) hs1
  have k27 := fun H (e : Ext h1 H) => call27 H low s xs hsm.q (IsSl.ext hx e)
  generalize ofP low xs = P at *
  have sP : Sml P := fun t ht => by have := kr t ht; omega
  have kn := nrm_ok kp sP
  have sN : Sml (nrmP P) := nrm_sml (B := 120) kp kr (by decide)
  have ln := nrm_len kp
  have enn := nrm_nrm P
  have engP := nrm_ng kp
  have kng := ngP_ok kp
  have sng : Sml (ngP P) := fun t ht => by
    obtain ⟨u, hu, rfl⟩ := List.mem_map.1 (show t ∈ P.ts.map ngT from ht)
    exact sP u hu
  have lng : (ngP P).ts.length ≤ 20 := by show (P.ts.map ngT).length ≤ 20; simpa using kl
  have emv := nrm_mv kp sP b (by omega)
  have kmv := movP_ok (mvf_add b) kp
  have hmv : Sml (movP (fun e => e + b) true P) ∧ (movP (fun e => e + b) true P).ts.length ≤ 20 := by
    cases hbp : P.big with
    | true =>
      rw [big_eq kp hbp, movP_big]
      exact ⟨fun t ht => by simp [bigP] at ht, by simp [bigP]⟩
    | false =>
      rw [movP_fit hbp fun t ht => by have := kr t ht; simp only [eM]; omega]
      unfold mvL
      rw [if_pos rfl]
      refine ⟨fun t ht => ?_, by simpa using kl⟩
      obtain ⟨u, hu, rfl⟩ := List.mem_map.1 ht
      have := kr u hu
      show (u.1 + b).natAbs ≤ 300
      omega
  obtain ⟨smv, lmv⟩ := hmv
  have k25 := fun H s' (d : IsD H s' (tms P.ts)) => call25 H s' P d kp sP (by omega)
  have k25n := fun H s' (d : IsD H s' (tms (nrmP P).ts)) => call25 H s' (nrmP P) d kn sN (by omega)
  have k25m := fun H s' (d : IsD H s' (tms (movP (fun e => e + b) true P).ts)) => call25 H s' _ d kmv smv (by omega)
  have k25g := fun H s' (d : IsD H s' (tms (ngP P).ts)) => call25 H s' _ d kng sng (by omega)
  rw [enn] at k25n
  rw [emv] at k25m
  rw [engP] at k25g
  have k26 := fun H s' (d : IsD H s' (tms P.ts)) => call26 H s' P d kp sP (by omega)
  have k28 := fun H s' (d : IsD H s' (tms P.ts)) => call28 H s' P d kp b (by omega)
  have k24 := fun H s' (d : IsD H s' (tms P.ts)) => call24 H s' P d kp
  rw [negP_eq kp] at k24
  clear emv kmv smv lmv engP kng sng enn
  generalize movP (fun e => e + b) true P = M at *
  generalize ngP P = G at *
  have k15 := fun H s' (d : IsD H s' (tms (nrmP P).ts)) => call15 H s' [116] (by decide) (nrmP P) d (by omega) kn.cf kn.ex
  have k16 := fun H s' (d : IsD H s' (tms (nrmP P).ts)) => call16 H (nrmP P).big s' [116] (by decide) (nrmP P) rfl d (by omega) kn.cf kn.ex
  have k23 := fun H s' t' (d : IsD H s' (tms (nrmP P).ts)) (d2 : IsD H t' (tms (nrmP P).ts)) => call23 H s' t' (nrmP P) (nrmP P) d d2 (by omega)
  simp only [decide_true] at k23
  generalize nrmP P = N at *
  have hne : (!decide (txtP [116] N = txtP [116] N)) = false := by simp
  repeat' (first | refine w_seq ?_ | refine w_seqN ?_ | refine w_blkX ?_ | refine w_ops ?_ | refine w_opsD ?_ | refine d_one ?_ | ((refine i_nil ?_); first | refine d_same ?_ | refine d_ord ?_ | refine w_end4 rfl rfl rfl rfl ?_ | refine w_end5 rfl rfl rfl rfl rfl ?_) | ((refine i_cons ?_); first | (have z := c8; have n8 := c8.lt; refine k_newC ?_; intro h4 e4 c9; replace c8 := c8.ext e4; replace d8 := d8.ext e4; replace d9 := d9.ext e4; replace x := x.trans e4) | (have z := c9; refine k_stC rfl rfl c9 ?_; intro h5 w5; replace c9 := w5.cel; replace c8 := w5.keep c8 (by omega); replace d8 := d8.wrC w5; replace d9 := d9.wrC w5; replace x := w5.ext x (by omega)) | (have z := c9; refine k_ldC rfl c9 ?_) | (refine k_call rfl k20 ?_; rintro v h2 ⟨e2, s8, rfl, d8⟩; have x := e2) | (have z := x; refine k_newC ?_; intro h3 e3 c8; have l8 := x.len; replace d8 := d8.ext e3; replace x := x.trans e3) | (refine k_stC rfl rfl c8 ?_; intro h4 w4; replace c8 := w4.cel; replace d8 := d8.wrC w4; replace x := w4.ext x l8) | (refine k_ldC rfl c8 ?_) | (refine k_call rfl (k25 _ _ d8) ?_; rintro v h5 ⟨e5, s9, rfl, d9⟩; replace c8 := c8.ext e5; replace d8 := d8.ext e5; replace x := x.trans e5) | (refine k_call rfl (k15 _ _ d9) ?_; rintro v h6 ⟨e6, rfl⟩; replace c8 := c8.ext e6; replace c9 := c9.ext e6; replace d8 := d8.ext e6; replace d9 := d9.ext e6; replace x := x.trans e6) | (refine k_call rfl (k27 _ x) ?_; rintro v h7 ⟨e7, s7, rfl, d7⟩; replace c8 := c8.ext e7; replace c9 := c9.ext e7; replace d8 := d8.ext e7; replace d9 := d9.ext e7; replace x := x.trans e7) | refine k_mv rfl ?_))
  repeat' (first | refine w_seq ?_ | refine w_seqN ?_ | refine w_skip ?_ | refine w_ret ?_ | refine w_opsD ?_ | refine d_one ?_ | refine d_nil ?_ | ((refine i_cond ?_); refine w_condF rfl ?_) | ((refine i_nil ?_); first | refine d_same ?_ | refine d_ord ?_ | refine d_ext (by assumption) ?_ | refine w_end1 rfl ?_ | refine w_end4 rfl rfl rfl rfl ?_) | ((refine i_cons ?_); first | refine k_ldC rfl c8 ?_ | refine k_ldC rfl c9 ?_ | (refine k_call rfl (k26 _ _ d7) ?_; rintro v h8 ⟨e8, s10, rfl, d10⟩; (try replace c8 := c8.ext e8); (try replace c9 := c9.ext e8); (try replace d8 := d8.ext e8); (try replace d9 := d9.ext e8); (try replace d10 := d10.ext e8); (try replace d11 := d11.ext e8); (try replace d12 := d12.ext e8); (try replace d13 := d13.ext e8); (try replace d14 := d14.ext e8); (try replace d15 := d15.ext e8)) | (refine k_call rfl (k16 _ _ d10) ?_; rintro v h9 ⟨e9, rfl⟩; (try replace c8 := c8.ext e9); (try replace c9 := c9.ext e9); (try replace d8 := d8.ext e9); (try replace d9 := d9.ext e9); (try replace d10 := d10.ext e9); (try replace d11 := d11.ext e9); (try replace d12 := d12.ext e9); (try replace d13 := d13.ext e9); (try replace d14 := d14.ext e9); (try replace d15 := d15.ext e9)) | refine k_sneq rfl rfl hne ?_ | (refine k_call rfl (k25n _ _ d9) ?_; rintro v h10 ⟨e10, s11, rfl, d11⟩; (try replace c8 := c8.ext e10); (try replace c9 := c9.ext e10); (try replace d8 := d8.ext e10); (try replace d9 := d9.ext e10); (try replace d10 := d10.ext e10); (try replace d11 := d11.ext e10); (try replace d12 := d12.ext e10); (try replace d13 := d13.ext e10); (try replace d14 := d14.ext e10); (try replace d15 := d15.ext e10)) | (refine k_call rfl (k23 _ _ _ d11 d9) ?_; rintro v h11 ⟨e11, rfl⟩; (try replace c8 := c8.ext e11); (try replace c9 := c9.ext e11); (try replace d8 := d8.ext e11); (try replace d9 := d9.ext e11); (try replace d10 := d10.ext e11); (try replace d11 := d11.ext e11); (try replace d12 := d12.ext e11); (try replace d13 := d13.ext e11); (try replace d14 := d14.ext e11); (try replace d15 := d15.ext e11)) | (refine k_call rfl (k28 _ _ d8) ?_; rintro v h12 ⟨e12, s12, rfl, d12⟩; (try replace c8 := c8.ext e12); (try replace c9 := c9.ext e12); (try replace d8 := d8.ext e12); (try replace d9 := d9.ext e12); (try replace d10 := d10.ext e12); (try replace d11 := d11.ext e12); (try replace d12 := d12.ext e12); (try replace d13 := d13.ext e12); (try replace d14 := d14.ext e12); (try replace d15 := d15.ext e12)) | (refine k_call rfl (k25m _ _ d12) ?_; rintro v h13 ⟨e13, s13, rfl, d13⟩; (try replace c8 := c8.ext e13); (try replace c9 := c9.ext e13); (try replace d8 := d8.ext e13); (try replace d9 := d9.ext e13); (try replace d10 := d10.ext e13); (try replace d11 := d11.ext e13); (try replace d12 := d12.ext e13); (try replace d13 := d13.ext e13); (try replace d14 := d14.ext e13); (try replace d15 := d15.ext e13)) | (refine k_call rfl (k23 _ _ _ d13 d9) ?_; rintro v h14 ⟨e14, rfl⟩; (try replace c8 := c8.ext e14); (try replace c9 := c9.ext e14); (try replace d8 := d8.ext e14); (try replace d9 := d9.ext e14); (try replace d10 := d10.ext e14); (try replace d11 := d11.ext e14); (try replace d12 := d12.ext e14); (try replace d13 := d13.ext e14); (try replace d14 := d14.ext e14); (try replace d15 := d15.ext e14)) | (refine k_call rfl (k24 _ _ d8) ?_; rintro v h15 ⟨e15, s14, rfl, d14⟩; (try replace c8 := c8.ext e15); (try replace c9 := c9.ext e15); (try replace d8 := d8.ext e15); (try replace d9 := d9.ext e15); (try replace d10 := d10.ext e15); (try replace d11 := d11.ext e15); (try replace d12 := d12.ext e15); (try replace d13 := d13.ext e15); (try replace d14 := d14.ext e15); (try replace d15 := d15.ext e15)) | (refine k_call rfl (k25g _ _ d14) ?_; rintro v h16 ⟨e16, s15, rfl, d15⟩; (try replace c8 := c8.ext e16); (try replace c9 := c9.ext e16); (try replace d8 := d8.ext e16); (try replace d9 := d9.ext e16); (try replace d10 := d10.ext e16); (try replace d11 := d11.ext e16); (try replace d12 := d12.ext e16); (try replace d13 := d13.ext e16); (try replace d14 := d14.ext e16); (try replace d15 := d15.ext e16)) | (refine k_call rfl (k23 _ _ _ d15 d9) ?_; rintro v h17 ⟨e17, rfl⟩; (try replace c8 := c8.ext e17); (try replace c9 := c9.ext e17); (try replace d8 := d8.ext e17); (try replace d9 := d9.ext e17); (try replace d10 := d10.ext e17); (try replace d11 := d11.ext e17); (try replace d12 := d12.ext e17); (try replace d13 := d13.ext e17); (try replace d14 := d14.ext e17); (try replace d15 := d15.ext e17)) | refine k_want rfl ?_ | refine k_mv rfl ?_ | refine k_pickT rfl rfl ?_ | refine k_pickF rfl rfl ?_ | refine k_notT rfl ?_ | refine k_conv rfl (by omega) ?_))
  exact ⟨.inr rfl, rfl⟩
end
theorem call6 (h0 : Heap) (low : Int) (hlow : -9223372036854775808 ≤ low ∧ low ≤ 9223372036854775807) (s : SV) (xs : List Int) (hx : IsInts h0 s xs) (b : Int) (hb : -128 ≤ b ∧ b ≤ 127) :
    ∃ v h', Cal FT (@HKt ⟨true⟩) 6 [.sc (.int .i64 low), .sc s, .sc (.int .i8 b)] h0 v h' ∧ v = .sc (.bool true) :=
  @call6w ⟨true⟩ awake_callT h0 low hlow s xs hx b hb
end Go.Proofs.YtofknpknogfijaaGreatDoor
