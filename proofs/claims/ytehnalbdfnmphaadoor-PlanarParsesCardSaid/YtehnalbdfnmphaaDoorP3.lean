/- planar.lines: its contract. -/
import Derived.Test.YtehnalbdfnmphaaDoorP2
import Derived.Test.YtehnalbdfnmphaaDoorAb29
namespace Go.Proofs.YtehnalbdfnmphaaDoor
open Go.Ab
set_option linter.unusedVariables false
set_option linter.unusedSimpArgs false
set_option maxRecDepth 20000
set_option maxHeartbeats 4000000
attribute [local irreducible] wOps wA wSeq wBlk wRound wRoundI wOpsD

/-! ### Slices of rows of five cells, grown from nothing -/
def Own5 (h0 h : Heap) (s : SV) (n : Nat) (cs : List SV) : Prop :=
  (s = .nilS ∧ n = 0 ∧ cs = []) ∨ ∃ id, s = .slc id 0 n none ∧ h0.length ≤ id ∧ h[id]? = some (.cells cs true 5) ∧ cs.length = n * 5 ∧ 0 < n
theorem Own5.ext {h0 h h' : Heap} {s : SV} {n : Nat} {cs : List SV} (ho : Own5 h0 h s n cs) (he : Ext h h') : Own5 h0 h' s n cs := by
  rcases ho with ho | ⟨id, h1, h2, h3, h4, h5⟩
  · exact .inl ho
  · exact .inr ⟨id, h1, h2, he.get _ _ h3, h4, h5⟩
theorem Own5.len {h0 h : Heap} {s : SV} {n : Nat} {cs : List SV} (ho : Own5 h0 h s n cs) : lenS false s = some (n : Int) := by
  rcases ho with ⟨rfl, rfl, rfl⟩ | ⟨id, rfl, _⟩ <;> rfl
theorem ez5 : (5 : ESz).n = 5 := rfl
theorem push5 {h0 h : Heap} {s : SV} {n : Nat} {cs : List SV} {bytes : Nat} (he : Ext h0 h) (ho : Own5 h0 h s n cs) (hb : (n + 1) * (bytes + 1) ≤ bigN) (a b c d e : SV) :
    ∃ s' h', appS (h ++ [.cells [a, b, c, d, e] true 5]) 5 bytes s 1 [a, b, c, d, e] = some (s', h') ∧ Own5 h0 h' s' (n + 1) (cs ++ [a, b, c, d, e]) ∧ Ext h0 h' := by
  have hl := Ext.len he
  rcases ho with ⟨rfl, rfl, rfl⟩ | ⟨id, rfl, h2, h3, h4, h5⟩
  · refine ⟨.slc (h ++ [Blk.cells [a, b, c, d, e] true 5]).length 0 1 none, (h ++ [.cells [a, b, c, d, e] true 5]) ++ [.cells [a, b, c, d, e] true 5], ?_, .inr ⟨_, rfl, by simp; omega, by simp, rfl, by omega⟩, (he.app _).app _⟩
    simp only [appS]
    rw [if_neg (by omega), if_pos (by omega)]
  · have hid := (List.getElem?_eq_some_iff.1 h3).1
    have h3' : (h ++ [Blk.cells [a, b, c, d, e] true 5])[id]? = some (.cells cs true 5) := by rw [List.getElem?_append_left hid]; exact h3
    have hc : cut cs 0 (n * 5) = some cs := by
      unfold cut
      rw [if_pos (by omega), List.drop_zero, List.take_of_length_le (by omega)]
    refine ⟨.slc (h ++ [Blk.cells [a, b, c, d, e] true 5]).length 0 (n + 1) none, (h ++ [Blk.cells [a, b, c, d, e] true 5]).set id (Blk.dead 5) ++ [Blk.cells (cs ++ [a, b, c, d, e]) true 5], ?_, .inr ⟨_, rfl, by simp; omega, ?_, by simp [h4]; omega, by omega⟩, ?_⟩
    · simp only [appS]
      rw [if_neg (by omega), if_pos (by omega), h3']
      simp only [if_true, ez5, hc]
      rw [if_pos ⟨trivial, .inl rfl⟩]
    · rw [List.getElem?_append_right (by simp)]; simp
    · exact ((he.app _).set h2 _).app _
section
variable {FT : FuncId → Option AFun} {HK : FuncId → Option Hook} {E : Env} {h h0 : Heap} {K : Env → Heap → Prop} {d : Option Nat} {r : List AOp} {xo so : AO}
theorem k_push5 {t n bytes : Nat} {s v1 v2 v3 v4 v5 z1 z2 z3 z4 z5 : SV} {cs zz : List SV} (he : Ext h0 h) (ho : Own5 h0 h s n cs) (hx : ev E xo = some (.agg [v1, v2, v3, v4, v5])) (hs : evS (bindE (some t) (some (.sc (.slc h.length 0 1 (some 1)))) E) so = some s) (hb : (n + 1) * (bytes + 1) ≤ bigN)
    (hw : ∀ s' h', Own5 h0 h' s' (n + 1) (cs ++ [v1, v2, v3, v4, v5]) → Ext h0 h' → wOps FT HK r (bindE d (some (.sc s')) (bindE (some t) (some (.sc (.slc h.length 0 1 (some 1)))) E)) h' K) :
    wOps FT HK (⟨some t, .bsl 5 [z1, z2, z3, z4, z5] 1 [(0, xo)], none⟩ :: ⟨d, .app 5 bytes zz so (.t t), none⟩ :: r) E h K := by
  obtain ⟨s', h', h1, h2, h3⟩ := push5 (bytes := bytes) he ho hb v1 v2 v3 v4 v5
  refine op_ok (v := some (.sc (.slc h.length 0 1 (some 1)))) (h' := h ++ [.cells [v1, v2, v3, v4, v5] true 5]) rfl rfl ?_ ?_
  · simp [step1, evParts, hx, AV.cells, fillA, rep, splice, ez5]
  refine op_ok (v := some (.sc s')) (h' := h') rfl rfl ?_ (hw s' h' h2 h3)
  have e1 : evS (bindE (some t) (some (.sc (.slc h.length 0 1 (some 1)))) E) (.t t) = some (.slc h.length 0 1 (some 1)) := by simp [evS, ev, bindE, Env.get]
  have e2 : srcCells (h ++ [Blk.cells [v1, v2, v3, v4, v5] true 5]) 5 (.slc h.length 0 1 (some 1)) = some (1, [v1, v2, v3, v4, v5]) := by simp [srcCells, readN, cut]
  simp only [step1, hs, e1, Option.bind_some, ez5, e2, h1, Option.map_some]
/-- A new cell of five values, and what is put there. -/
theorem k_newst5 {t : Nat} {x : AO} {a b c e f v1 v2 v3 v4 v5 : SV} (hx : ev (bindE (some t) (some (.sc (.ptr h.length 0))) E) x = some (.agg [v1, v2, v3, v4, v5])) (hw : ∀ h1, Ext h h1 → Blk.At h1 h.length [v1, v2, v3, v4, v5] → wOps FT HK r (bindE (some t) (some (.sc (.ptr h.length 0))) E) h1 K) :
    wOps FT HK (⟨some t, .new [a, b, c, e, f], none⟩ :: ⟨none, .st 5 (.t t) x, none⟩ :: r) E h K := by
  refine op_ok (v := some (.sc (.ptr h.length 0))) (h' := h ++ [.cells [a, b, c, e, f] true 0]) rfl rfl rfl ?_
  refine op_ok (v := none) (h' := h ++ [.cells [v1, v2, v3, v4, v5] true 0]) rfl rfl ?_ (hw _ ⟨_, rfl⟩ (Blk.At.last h _ true 0))
  have h1 : evS (bindE (some t) (some (.sc (.ptr h.length 0))) E) (.t t) = some (.ptr h.length 0) := by simp [evS, ev, bindE, Env.get]
  simp [step1, h1, hx, AV.cells, writeN, splice]
end

/-- The cells of rows. -/
def cells5 (rows : List (Int × List Int)) : List SV := (rows.map fun p => (p.1 :: p.2).map (.int .i64)).flatten
theorem cells5_snoc (rows : List (Int × List Int)) (x a b c d : Int) : cells5 (rows ++ [(x, [a, b, c, d])]) = cells5 rows ++ [.int .i64 x, .int .i64 a, .int .i64 b, .int .i64 c, .int .i64 d] := by simp [cells5]
theorem linL_cons (x y : List UInt8) (r : List (List UInt8)) (acc : List (Int × List Int)) : linL (x :: y :: r) acc = if isLoops x = true then
      match numA (x.drop 6) 0 999 with
      | some v => if y :: r = [[]] then some (acc, v) else none
      | none => none
    else
      match crs x with
      | some p => linL (y :: r) (acc ++ [p])
      | none => none := rfl
theorem spl_empty {r : List UInt8} : spl 10 r = [[]] ↔ r = [] := by
  constructor
  · intro h
    cases r with
    | nil => rfl
    | cons x r =>
      simp only [spl] at h
      split at h
      · simp at h; exact absurd h (spl_ne _ _)
      · simp at h
  · rintro rfl; rfl

def strLen (E : Env) : Nat := match E.get 0 with
  | some (.sc (.str b)) => b.size
  | _ => 0
def I45 (h0 : Heap) (s0 : List UInt8) (E : Env) (h : Heap) : Prop := Ext h0 h ∧ ∃ (s : List UInt8) (u : SV) (acc : List (Int × List Int)), acc.length + s.length ≤ s0.length ∧ linL (spl 10 s0) [] = linL (spl 10 s) acc ∧ Own5 h0 h u acc.length (cells5 acc) ∧
  E = [(0, some (.sc (tb s))), (5, some (.sc u))]
/-- What lines answers. -/
def LinV (s0 : List UInt8) (h0 : Heap) (u : SV) (l : Int) (b : Bool) (h : Heap) : Prop := match linL (spl 10 s0) [] with
  | some (rows, m) => b = true ∧ l = m ∧ Own5 h0 h u rows.length (cells5 rows)
  | none => b = false
def R45 (h0 : Heap) (s0 : List UInt8) (ex : Ex) (E : Env) (h : Heap) : Prop := Ext h0 h ∧ ex = .rt ∧ ∃ u l b, LinV s0 h0 u l b h ∧ E = [(2, some (.sc u)), (3, some (.sc (.int .i64 l))), (4, some (.sc (.bool b)))]
theorem round45 (h0 : Heap) (s0 : List UInt8) (h65 : s0.length ≤ 65536) (E : Env) (h : Heap) (hI : I45 h0 s0 E h) :
    wA FT HKp b45L0 (E.keep [0, 5]) h (wRound (I45 h0 s0) (fun E _ => strLen E) (strLen E) (R45 h0 s0)) := by
  obtain ⟨he, s, u, acc, hl, hlin, ho, rfl⟩ := hI
  have kc := cut_callP (h := h) s [10] (by omega)
  rcases cut_spl 10 s with ⟨a, b, c⟩ | ⟨w, r, a, b, c, d⟩
  · rw [b] at kc
    rw [c] at hlin
    repeat' (first | refine w_seq ?_ | refine w_seqN ?_ | refine w_seqR ?_ | refine w_blk ?_ | refine w_blkR ?_ | refine w_ret ?_ | refine w_ops ?_ | ((refine i_cond ?_); refine w_condT rfl ?_) | ((refine i_nil ?_); first | refine w_end3 rfl rfl rfl ?_ | refine w_end4 rfl rfl rfl rfl ?_) | ((refine i_cons ?_); first | (refine k_call rfl kc ?_; rintro v h3 ⟨rfl, rfl⟩) | refine k_mv rfl ?_ | refine k_notF rfl ?_ | refine k_ok rfl rfl ?_))
    refine w_roundR ⟨he, rfl, _, _, _, ?_, rfl⟩
    unfold LinV
    rw [hlin]; rfl
  rw [c] at kc
  have hlen : s.length = w.length + r.length + 1 := by
    have := congrArg List.length a
    simp at this
    omega
  obtain ⟨y, r2, hy⟩ : ∃ y r2, spl 10 r = y :: r2 := by
    cases hr : spl 10 r with
    | nil => exact absurd hr (spl_ne _ _)
    | cons y r2 => exact ⟨y, r2, rfl⟩
  rw [d, hy] at hlin
  rw [linL_cons] at hlin
  have kp := call65 h w loopsW
  have eL : isLoops w = hasP w loopsW := rfl
  cases hp : hasP w loopsW with
  | true =>
    rw [eL, hp, if_pos rfl] at hlin
    rw [hp] at kp
    have kn := call66 h (w.drop 6) 0 999 (by simp; omega)
    cases hv : numA (w.drop 6) 0 999 with
    | none =>
      rw [hv] at kn hlin
      repeat' (first | refine w_seq ?_ | refine w_seqN ?_ | refine w_seqR ?_ | refine w_blk ?_ | refine w_blkR ?_ | refine w_skip ?_ | refine w_ret ?_ | refine w_ops ?_ | ((refine i_cond ?_); first | refine w_condT rfl ?_ | refine w_condF rfl ?_) | ((refine i_nil ?_); first | refine w_end3 rfl rfl rfl ?_ | refine w_end4 rfl rfl rfl rfl ?_ | refine w_end5 rfl rfl rfl rfl rfl ?_) | ((refine i_cons ?_); first | (refine k_call rfl kc ?_; rintro v h3 ⟨rfl, rfl⟩) | (refine k_call rfl kp ?_; rintro v h3 ⟨rfl, rfl⟩) | (refine k_call rfl kn ?_; rintro v h3 ⟨rfl, rfl⟩) | refine k_skip rfl ?_ | refine k_mv rfl ?_ | refine k_pickF rfl rfl ?_ | refine k_notT rfl ?_ | refine k_ok rfl rfl ?_))
      refine w_roundR ⟨he, rfl, _, _, _, ?_, rfl⟩
      unfold LinV
      rw [hlin]
    | some v =>
      rw [hv] at kn hlin
      by_cases hr : r = []
      · have hyr : y :: r2 = [[]] := by rw [← hy]; exact spl_empty.2 hr
        simp only [] at hlin
        rw [if_pos hyr] at hlin
        repeat' (first | refine w_seq ?_ | refine w_seqN ?_ | refine w_seqR ?_ | refine w_blk ?_ | refine w_blkR ?_ | refine w_skip ?_ | refine w_ret ?_ | refine w_ops ?_ | ((refine i_cond ?_); first | refine w_condT rfl ?_ | refine w_condF rfl ?_) | ((refine i_nil ?_); first | refine w_end3 rfl rfl rfl ?_ | refine w_end4 rfl rfl rfl rfl ?_ | refine w_end5 rfl rfl rfl rfl rfl ?_) | ((refine i_cons ?_); first | (refine k_call rfl kc ?_; rintro v h3 ⟨rfl, rfl⟩) | (refine k_call rfl kp ?_; rintro v h3 ⟨rfl, rfl⟩) | (refine k_call rfl kn ?_; rintro v h3 ⟨rfl, rfl⟩) | refine k_seql rfl (show _ = some (tb []) from rfl) (decide_eq_true hr) ?_ | refine k_want rfl ?_ | refine k_mv rfl ?_ | refine k_pickT rfl rfl ?_ | refine k_notT rfl ?_ | refine k_ok rfl rfl ?_))
        refine w_roundR ⟨he, rfl, _, _, _, ?_, rfl⟩
        unfold LinV
        rw [hlin]
        exact ⟨rfl, rfl, ho⟩
      · have hyr : ¬ y :: r2 = [[]] := by rw [← hy]; exact fun e => hr (spl_empty.1 e)
        simp only [] at hlin
        rw [if_neg hyr] at hlin
        repeat' (first | refine w_seq ?_ | refine w_seqN ?_ | refine w_seqR ?_ | refine w_blk ?_ | refine w_blkR ?_ | refine w_skip ?_ | refine w_ret ?_ | refine w_ops ?_ | ((refine i_cond ?_); first | refine w_condT rfl ?_ | refine w_condF rfl ?_) | ((refine i_nil ?_); first | refine w_end3 rfl rfl rfl ?_ | refine w_end4 rfl rfl rfl rfl ?_ | refine w_end5 rfl rfl rfl rfl rfl ?_) | ((refine i_cons ?_); first | (refine k_call rfl kc ?_; rintro v h3 ⟨rfl, rfl⟩) | (refine k_call rfl kp ?_; rintro v h3 ⟨rfl, rfl⟩) | (refine k_call rfl kn ?_; rintro v h3 ⟨rfl, rfl⟩) | refine k_seql rfl (show _ = some (tb []) from rfl) (decide_eq_false hr) ?_ | refine k_want rfl ?_ | refine k_mv rfl ?_ | refine k_pickT rfl rfl ?_ | refine k_notT rfl ?_ | refine k_ok rfl rfl ?_))
        refine w_roundR ⟨he, rfl, _, _, _, ?_, rfl⟩
        unfold LinV
        rw [hlin]
  | false =>
    rw [eL, hp, if_neg (by decide)] at hlin
    rw [hp] at kp
    have k7 := call67 h w (by omega)
    cases hc : crs w with
    | none =>
      rw [hc] at hlin
      have k7' : ∃ v h', Cal FT HKp 67 [.sc (tb w)] h v h' ∧ Ext h h' ∧ v = .tup [.agg (zer.map (.int .i64)), .sc (.bool false)] := by
        obtain ⟨v, h', e1, e2, e3⟩ := k7
        rw [hc] at e3
        exact ⟨v, h', e1, e2, e3⟩
      repeat' (first | refine w_seq ?_ | refine w_seqN ?_ | refine w_seqR ?_ | refine w_blk ?_ | refine w_blkR ?_ | refine w_skip ?_ | refine w_ret ?_ | refine w_ops ?_ | ((refine i_cond ?_); first | refine w_condT rfl ?_ | refine w_condF rfl ?_) | ((refine i_nil ?_); first | refine w_end3 rfl rfl rfl ?_ | refine w_end4 rfl rfl rfl rfl ?_ | refine w_end5 rfl rfl rfl rfl rfl ?_) | ((refine i_cons ?_); first | (refine k_call rfl kc ?_; rintro v h3 ⟨rfl, rfl⟩) | (refine k_call rfl kp ?_; rintro v h3 ⟨rfl, rfl⟩) | (refine k_call rfl k7' ?_; rintro v h3 ⟨e3, rfl⟩) | (refine k_newst5 rfl ?_; intro h4 e4 b4) | refine k_mv rfl ?_ | refine k_notT rfl ?_ | refine k_notF rfl ?_ | refine k_ok rfl rfl ?_))
      refine w_roundR ⟨(he.trans e3).trans e4, rfl, _, _, _, ?_, rfl⟩
      unfold LinV
      rw [hlin]
    | some p =>
      obtain ⟨x, l⟩ := p
      obtain ⟨hx1, hl4, hlr⟩ := crs_some hc
      rw [hc] at hlin
      obtain ⟨a1, a2, a3, a4, rfl⟩ : ∃ a b c d, l = [a, b, c, d] := by
        match l, hl4 with
        | [a, b, c, d], _ => exact ⟨a, b, c, d, rfl⟩
      have k7' : ∃ v h', Cal FT HKp 67 [.sc (tb w)] h v h' ∧ Ext h h' ∧ v = .tup [.agg [.int .i64 x, .int .i64 a1, .int .i64 a2, .int .i64 a3, .int .i64 a4], .sc (.bool true)] := by
        obtain ⟨v, h', e1, e2, e3⟩ := k7
        rw [hc] at e3
        exact ⟨v, h', e1, e2, e3⟩
      repeat' (first | refine w_seq ?_ | refine w_seqN ?_ | refine w_blk ?_ | refine w_blkN ?_ | refine w_skip ?_ | refine w_ops ?_ | ((refine i_cond ?_); refine w_condF rfl ?_) | ((refine i_nil ?_); first | refine w_end2 rfl rfl ?_ | refine w_end4 rfl rfl rfl rfl ?_ | refine w_end5 rfl rfl rfl rfl rfl ?_) | ((refine i_cons ?_); first | (refine k_call rfl kc ?_; rintro v h3 ⟨rfl, rfl⟩) | (refine k_call rfl kp ?_; rintro v h3 ⟨rfl, rfl⟩) | (refine k_call rfl k7' ?_; rintro v h3 ⟨e3, rfl⟩) | (refine k_newst5 rfl ?_; intro h4 e4 b4) | refine k_ldA rfl b4 rfl ?_ | (refine k_push5 ((he.trans e3).trans e4) ((ho.ext e3).ext e4) rfl rfl (by simp only [bigN]; omega) ?_; intro s' h5 o5 e5) | refine k_mv rfl ?_ | refine k_notT rfl ?_ | refine k_ok rfl rfl ?_))
      refine w_roundN ⟨e5, r, s', acc ++ [(x, [a1, a2, a3, a4])], by simp; omega, ?_, ?_, rfl⟩ ?_
      · rw [hlin, hy]
      · rw [List.length_append, cells5_snoc]; exact o5
      · show strLen _ < strLen _
        have e1 : ∀ (t : List UInt8) (q : SV), strLen [(0, some (.sc (tb t))), (5, some (.sc q))] = t.length := fun t q => rfl
        have e2 : r.length < s.length := by omega
        exact e2
theorem call45 (h0 : Heap) (s0 : List UInt8) (h65 : s0.length ≤ 65536) : ∃ v h', Cal FT HKp 45 [.sc (tb s0)] h0 v h' ∧ Ext h0 h' ∧ ∃ u l b, v = .tup [.sc u, .sc (.int .i64 l), .sc (.bool b)] ∧ LinV s0 h0 u l b h' := by
  refine Cal.of (F := a45) rfl rfl rfl ?_
  repeat' (first | refine w_seq ?_ | refine w_seqN ?_ | refine w_blk ?_ | refine w_ops ?_ | ((refine i_nil ?_); first | refine w_end1 rfl ?_ | refine w_end2 rfl rfl ?_) | ((refine i_cons ?_); refine k_mv rfl ?_))
  refine w_loop (I45 h0 s0) (fun E _ => strLen E) (R45 h0 s0) ⟨Ext.refl _, s0, .nilS, [], by simp, rfl, .inl ⟨rfl, rfl, rfl⟩, rfl⟩ (fun E h hI => round45 h0 s0 h65 E h hI) ?_
  rintro ex E' h' ⟨e, rfl, u, l, b, hv, rfl⟩
  repeat' (refine w_blkR ?_)
  exact ⟨.inr rfl, e, u, l, b, rfl, hv⟩
end Go.Proofs.YtehnalbdfnmphaaDoor
