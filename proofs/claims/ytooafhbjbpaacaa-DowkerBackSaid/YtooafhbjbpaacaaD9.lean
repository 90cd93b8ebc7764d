/- The reference's Of, dowker.Of in all cases, knot: contracts. -/
import Derived.Test.YtooafhbjbpaacaaD8
import Derived.Test.YtooafhbjbpaacaaV8
namespace Go.Proofs.Ytooafhbjbpaacaa
open Go.Ab
set_option linter.unusedVariables false
set_option linter.unusedSimpArgs false
set_option maxRecDepth 20000
set_option maxHeartbeats 4000000
attribute [local irreducible] wOps wA wSeq wBlk wRound wRoundI wOpsD wOpsS
variable {HK : FuncId → Option Hook}

/-! ### dowker.Of, its errors -/
theorem strs_pos {xs ms : List Int} {l : Int} (hF : Front xs ms l) (h1n : 1 ≤ xs.length) : 1 ≤ (strs xs ms).length := by
  have h4 := hF.four
  have hx : xs[0]? = some (xs.getD 0 0) := by simp [List.getD, show 0 < xs.length by omega]
  have hs := hF.sgn _ (List.mem_of_getElem? hx)
  have o : outB xs 2 = true := by
    unfold outB
    rw [show 2 / 4 = 0 by omega, show 2 % 4 = 2 by omega]
    rcases hs with e | e <;> rw [e] <;> rfl
  have hi := psi_inj hF.mates hF.inv
  have hl : ∀ h, h < ms.length → psi ms h < ms.length := fun h hh => hF.mates.psi_lt hh
  obtain ⟨s, j, a, b, c⟩ := orb_least hi hl 2 (by omega)
  obtain ⟨i, hi2⟩ := orb_symm hi hl a c
  have hso : outB xs s = true := by rw [← hi2]; exact pit_out hF (by omega) o i
  have hm : s ∈ starts xs ms ms.length := starts_mem.2 ⟨a, hso, b⟩
  unfold strs
  rw [List.length_map]
  exact List.length_pos_of_mem hm
/-- A knot: valid, with crossings, one strand and no loops. -/
def KnP (xs ms : List Int) (l : Int) : Prop := PV xs ms l ∧ 1 ≤ xs.length ∧ l = 0 ∧ (strs xs ms).length = 1
noncomputable def OfE (xs ms : List Int) (l : Int) : Int := open Classical in if ¬ PV xs ms l then 1 else if xs.length = 0 then 8 else 16
theorem isF_len {h0 h : Heap} {o : SV} {Ls : List (List Nat)} (i : IsStrsF h0 h o Ls) : lenS false o = some (Ls.length : Int) := by
  obtain ⟨fs, h1, h2⟩ := i
  rw [← F2.length h2]; exact Own.len h1
theorem bfalse3 {P : Prop} {b : Bool} (h : b = true ↔ P) (hn : ¬ P) : b = false := by
  cases b with
  | false => rfl
  | true => exact absurd (h.1 rfl) hn
theorem call11e (hk11 : HK 11 = none) (hk28 : HK 28 = none) (hk26 : HK 26 = none) (hk37 : HK 37 = none) (hk38 : HK 38 = none) (hk39 : HK 39 = none) (hk40 : HK 40 = none) (hk41 : HK 41 = none) (hk42 : HK 42 = none) (hk46 : HK 46 = none) (hk47 : HK 47 = none) (hk48 : HK 48 = none) (h0 : Heap) (s m : SV) (l : Int) (xs ms : List Int) (hx : IsInts h0 s xs) (hs : IsInts h0 m ms) (hn : ¬ KnP xs ms l) :
    ∃ v h', Cal FT HK 11 [.agg [s, m, .int .i64 l]] h0 v h' ∧ Ext h0 h' ∧ v = .tup [.sc .nilS, .sc (.int .i64 (OfE xs ms l))] := by
  refine Cal.of (F := a11) hk11 rfl rfl ?_
  have lx := IsSl.len hx
  have k26 := fun H (e : Ext h0 H) => call26 (HK := HK) hk26 hk37 hk38 hk46 hk47 H s m l xs ms (IsSl.ext hx e) (IsSl.ext hs e)
  by_cases hV : PV xs ms l
  · have hF := hV.1
    have h64 := hF.n64
    have hl0 := hF.l0
    have hl64 := hF.l64
    have k28 := fun H (e : Ext h0 H) => call28 (HK := HK) hk28 hk26 hk37 hk38 hk39 hk40 hk41 hk42 hk46 hk47 hk48 H s m l xs ms (IsSl.ext hx e) (IsSl.ext hs e) hV
    by_cases h1 : xs.length = 0
    · have e : OfE xs ms l = 8 := by unfold OfE; rw [if_neg (fun h => h hV), if_pos h1]
      rw [e]
      repeat' (first | refine w_seq ?_ | refine w_seqN ?_ | refine w_seqR ?_ | refine w_skip ?_ | refine w_ret ?_ | refine w_ops ?_ | ((refine i_cond ?_); first | refine w_condT rfl ?_ | refine w_condF rfl ?_) | ((refine i_nil ?_); first | refine w_end1 rfl ?_ | refine w_end2 rfl rfl ?_ | refine w_end3 rfl rfl rfl ?_) | ((refine i_cons ?_); first | (refine k_box rfl rfl ?_; intro h1 e1 l1 b1) | refine k_ldA rfl b1 rfl ?_ | (refine k_call rfl (k26 h1 e1) ?_; rintro v h2 ⟨e2, bb, rfl, hq⟩; obtain rfl := hq.2 hV; have b2 := b1.ext e2) | refine k_fldA rfl ?_ | refine k_ldb rfl b2 rfl ?_ | refine k_len rfl lx ?_ | refine k_mv rfl ?_ | refine k_notT rfl ?_ | refine k_eqlT rfl rfl (by omega) ?_))
      exact ⟨.inr rfl, e1.trans e2, rfl⟩
    · have e : OfE xs ms l = 16 := by unfold OfE; rw [if_neg (fun h => h hV), if_neg h1]
      rw [e]
      have hp := strs_pos hF (by omega)
      have hsl : (strs xs ms).length ≤ 1000 := by
        unfold strs
        rw [List.length_map]
        have := starts_le xs ms ms.length
        have := hF.four
        omega
      have hgt : 1 < (((strs xs ms).length : Nat) : Int) + l := by
        by_cases h2 : l = 0
        · have : (strs xs ms).length ≠ 1 := fun h => hn ⟨hV, by omega, h2, h⟩
          omega
        · omega
      generalize hK : (strs xs ms).length = K at *
      repeat' (first | refine w_seq ?_ | refine w_seqN ?_ | refine w_seqR ?_ | refine w_skip ?_ | refine w_ret ?_ | refine w_ops ?_ | ((refine i_cond ?_); first | refine w_condT rfl ?_ | refine w_condF rfl ?_) | ((refine i_nil ?_); first | refine w_end1 rfl ?_ | refine w_end2 rfl rfl ?_ | refine w_end3 rfl rfl rfl ?_) | ((refine i_cons ?_); first | (refine k_box rfl rfl ?_; intro h1 e1 l1 b1) | refine k_ldA rfl b1 rfl ?_ | (refine k_call rfl (k26 h1 e1) ?_; rintro v h2 ⟨e2, bb, rfl, hq⟩; obtain rfl := hq.2 hV; have b2 := b1.ext e2) | refine k_ldA rfl b2 rfl ?_ | refine k_len rfl lx ?_ | (refine k_call rfl (k28 h2 (e1.trans e2)) ?_; rintro v h3 ⟨e3, o, rfl, ho⟩; have lo := isF_len ho; rw [hK] at lo; have b3 := b2.ext e3) | refine k_len rfl lo ?_ | refine k_fldA rfl ?_ | refine k_ldb rfl b3 rfl ?_ | refine k_ldb rfl b2 rfl ?_ | refine k_mv rfl ?_ | refine k_notT rfl ?_ | refine k_add rfl rfl (by omega) ?_ | refine k_gtrT rfl rfl (by omega) ?_ | refine k_eqlF rfl rfl (by omega) ?_))
      exact ⟨.inr rfl, e1.trans (e2.trans e3), rfl⟩
  · have e : OfE xs ms l = 1 := by unfold OfE; rw [if_pos hV]
    rw [e]
    repeat' (first | refine w_seq ?_ | refine w_seqN ?_ | refine w_seqR ?_ | refine w_ret ?_ | refine w_ops ?_ | ((refine i_cond ?_); refine w_condT rfl ?_) | ((refine i_nil ?_); first | refine w_end1 rfl ?_ | refine w_end2 rfl rfl ?_) | ((refine i_cons ?_); first | (refine k_box rfl rfl ?_; intro h1 e1 l1 b1) | refine k_ldA rfl b1 rfl ?_ | (refine k_call rfl (k26 h1 e1) ?_; rintro v h2 ⟨e2, bb, rfl, hq⟩; obtain rfl := bfalse3 hq hV) | refine k_mv rfl ?_ | refine k_notF rfl ?_))
    exact ⟨.inr rfl, e1.trans e2, rfl⟩
/-! ### knot -/
theorem call13 (hk13 : HK 13 = none) (hk12 : HK 12 = none) (hk32 : HK 32 = none) (hk30 : HK 30 = none) (hk31 : HK 31 = none) (hk43 : HK 43 = none) (hk29 : HK 29 = none) (hk44 : HK 44 = none) (hk49 : HK 49 = none) (h0 : Heap) (s m : SV) (l : Int) (xs ms : List Int) (hx : IsInts h0 s xs) (hs : IsInts h0 m ms) (k : Nat) :
    ∃ v h', Cal FT HK 13 [.agg [s, m, .int .i64 l], .sc (.int .i64 (k : Nat))] h0 v h' ∧ Ext h0 h' ∧ ∃ b, v = .sc (.bool b) ∧ (b = true ↔ KnP xs ms l ∧ xs.length ≤ k) := by
  refine Cal.of (F := a13) hk13 rfl rfl ?_
  have lx := IsSl.len hx
  have no : ∀ {h' : Heap}, Ext h0 h' → ¬ (KnP xs ms l ∧ xs.length ≤ k) → Ext h0 h' ∧ ∃ b, (AV.sc (SV.bool false)) = .sc (.bool b) ∧ (b = true ↔ KnP xs ms l ∧ xs.length ≤ k) := fun he hno => ⟨he, false, rfl, by simpa using hno⟩
  have k12 := fun H (e : Ext h0 H) => call12 (HK := HK) hk12 hk29 hk30 hk31 hk43 hk49 H s m l xs ms (IsSl.ext hx e) (IsSl.ext hs e)
  by_cases c1 : 1 ≤ xs.length
  · by_cases c2 : xs.length ≤ k
    · by_cases hV : PV xs ms l
      · have hF := hV.1
        have k32 := fun H (e : Ext h0 H) => call32 (HK := HK) hk32 hk29 hk44 hk49 H s m l xs ms (IsSl.ext hx e) (IsSl.ext hs e) hF
        by_cases c3 : l = 0
        · generalize hK : (strs xs ms).length = K
          by_cases c4 : K = 1
          · subst c4
            repeat' (first | refine w_seq ?_ | refine w_seqN ?_ | refine w_ret ?_ | refine w_ops ?_ | ((refine i_nil ?_); first | refine w_end1 rfl ?_ | refine w_end2 rfl rfl ?_) | ((refine i_cons ?_); first | (refine k_box rfl rfl ?_; intro h1 e1 l1 b1) | refine k_ldA rfl b1 rfl ?_ | (refine k_call rfl (k12 h1 e1) ?_; rintro v h2 ⟨e2, bb, rfl, hq⟩; obtain rfl := hq.2 hV; have b2 := b1.ext e2) | refine k_ldA rfl b2 rfl ?_ | refine k_len rfl lx ?_ | (refine k_call rfl (k32 h2 (e1.trans e2)) ?_; rintro v h3 ⟨e3, o, rfl, ho⟩; have lo := isF_len ho; rw [hK] at lo) | refine k_len rfl lo ?_ | refine k_fldA rfl ?_ | refine k_ldb rfl b2 rfl ?_ | refine k_ldb rfl b1 rfl ?_ | refine k_want rfl ?_ | refine k_mv rfl ?_ | refine k_pickT rfl rfl ?_ | refine k_leqT rfl rfl (by omega) ?_ | refine k_geqT rfl rfl (by omega) ?_ | refine k_eqlT rfl rfl (by omega) ?_))
            exact ⟨.inr rfl, e1.trans (e2.trans e3), true, rfl, by simpa using ⟨⟨hV, c1, c3, hK⟩, c2⟩⟩
          · repeat' (first | refine w_seq ?_ | refine w_seqN ?_ | refine w_ret ?_ | refine w_ops ?_ | ((refine i_nil ?_); first | refine w_end1 rfl ?_ | refine w_end2 rfl rfl ?_) | ((refine i_cons ?_); first | (refine k_box rfl rfl ?_; intro h1 e1 l1 b1) | refine k_ldA rfl b1 rfl ?_ | (refine k_call rfl (k12 h1 e1) ?_; rintro v h2 ⟨e2, bb, rfl, hq⟩; obtain rfl := hq.2 hV; have b2 := b1.ext e2) | refine k_ldA rfl b2 rfl ?_ | refine k_len rfl lx ?_ | (refine k_call rfl (k32 h2 (e1.trans e2)) ?_; rintro v h3 ⟨e3, o, rfl, ho⟩; have lo := isF_len ho; rw [hK] at lo) | refine k_len rfl lo ?_ | refine k_fldA rfl ?_ | refine k_ldb rfl b2 rfl ?_ | refine k_ldb rfl b1 rfl ?_ | refine k_want rfl ?_ | refine k_mv rfl ?_ | refine k_pickT rfl rfl ?_ | refine k_leqT rfl rfl (by omega) ?_ | refine k_geqT rfl rfl (by omega) ?_ | refine k_eqlT rfl rfl (by omega) ?_ | refine k_eqlF rfl rfl (by omega) ?_))
            exact ⟨.inr rfl, no (e1.trans (e2.trans e3)) fun h => c4 (by rw [← hK]; exact h.1.2.2.2)⟩
        · repeat' (first | refine w_seq ?_ | refine w_seqN ?_ | refine w_ret ?_ | refine w_ops ?_ | ((refine i_nil ?_); first | refine w_end1 rfl ?_ | refine w_end2 rfl rfl ?_) | ((refine i_cons ?_); first | (refine k_box rfl rfl ?_; intro h1 e1 l1 b1) | refine k_ldA rfl b1 rfl ?_ | (refine k_call rfl (k12 h1 e1) ?_; rintro v h2 ⟨e2, bb, rfl, hq⟩; obtain rfl := hq.2 hV; have b2 := b1.ext e2) | refine k_len rfl lx ?_ | refine k_fldA rfl ?_ | refine k_ldb rfl b2 rfl ?_ | refine k_ldb rfl b1 rfl ?_ | refine k_skip rfl ?_ | refine k_want rfl ?_ | refine k_mv rfl ?_ | refine k_pickT rfl rfl ?_ | refine k_pickF rfl rfl ?_ | refine k_leqT rfl rfl (by omega) ?_ | refine k_geqT rfl rfl (by omega) ?_ | refine k_eqlF rfl rfl (by omega) ?_))
          exact ⟨.inr rfl, no (e1.trans e2) fun h => c3 h.1.2.2.1⟩
      · repeat' (first | refine w_seq ?_ | refine w_seqN ?_ | refine w_ret ?_ | refine w_ops ?_ | ((refine i_nil ?_); first | refine w_end1 rfl ?_ | refine w_end2 rfl rfl ?_) | ((refine i_cons ?_); first | (refine k_box rfl rfl ?_; intro h1 e1 l1 b1) | refine k_ldA rfl b1 rfl ?_ | (refine k_call rfl (k12 h1 e1) ?_; rintro v h2 ⟨e2, bb, rfl, hq⟩; obtain rfl := bfalse3 hq hV) | refine k_len rfl lx ?_ | refine k_fldA rfl ?_ | refine k_ldb rfl b1 rfl ?_ | refine k_skip rfl ?_ | refine k_want rfl ?_ | refine k_mv rfl ?_ | refine k_pickT rfl rfl ?_ | refine k_pickF rfl rfl ?_ | refine k_leqT rfl rfl (by omega) ?_ | refine k_geqT rfl rfl (by omega) ?_))
        exact ⟨.inr rfl, no (e1.trans e2) fun h => hV h.1.1⟩
    · repeat' (first | refine w_seq ?_ | refine w_seqN ?_ | refine w_ret ?_ | refine w_ops ?_ | ((refine i_nil ?_); first | refine w_end1 rfl ?_ | refine w_end2 rfl rfl ?_) | ((refine i_cons ?_); first | (refine k_box rfl rfl ?_; intro h1 e1 l1 b1) | refine k_len rfl lx ?_ | refine k_fldA rfl ?_ | refine k_ldb rfl b1 rfl ?_ | refine k_skip rfl ?_ | refine k_want rfl ?_ | refine k_mv rfl ?_ | refine k_pickT rfl rfl ?_ | refine k_pickF rfl rfl ?_ | refine k_leqF rfl rfl (by omega) ?_ | refine k_geqT rfl rfl (by omega) ?_))
      exact ⟨.inr rfl, no e1 fun h => c2 h.2⟩
  · repeat' (first | refine w_seq ?_ | refine w_seqN ?_ | refine w_ret ?_ | refine w_ops ?_ | ((refine i_nil ?_); first | refine w_end1 rfl ?_ | refine w_end2 rfl rfl ?_) | ((refine i_cons ?_); first | (refine k_box rfl rfl ?_; intro h1 e1 l1 b1) | refine k_len rfl lx ?_ | refine k_fldA rfl ?_ | refine k_ldb rfl b1 rfl ?_ | refine k_skip rfl ?_ | refine k_mv rfl ?_ | refine k_pickF rfl rfl ?_ | refine k_geqF rfl rfl (by omega) ?_))
    exact ⟨.inr rfl, no e1 fun h => c1 h.1.2.1⟩
/-- The one strand of a knot. -/
theorem kn_tour {xs ms : List Int} (hk : KnP xs ms 0) : ∃ S, Tour xs ms S ∧ strs xs ms = [(List.range (2 * xs.length)).map S] ∧ Conn xs.length ms := by
  obtain ⟨hV, h1n, _, h1⟩ := hk
  have hl : (starts xs ms ms.length).length = 1 := by
    unfold strs at h1
    rwa [List.length_map] at h1
  match hst : starts xs ms ms.length, hl with
  | [t], _ =>
    obtain ⟨a, b, c⟩ := tour_of hV h1n hst
    exact ⟨_, a, b, c⟩
end Go.Proofs.Ytooafhbjbpaacaa
