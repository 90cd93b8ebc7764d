/- gauss.sequence: its contract. -/
import Derived.Test.YtjmapbmdfbdomaaDoorG2
namespace Go.Proofs.YtjmapbmdfbdomaaDoor
open Go.Ab
set_option linter.unusedVariables false
set_option linter.unusedSimpArgs false
set_option maxRecDepth 20000
attribute [local irreducible] wOps wA wSeq wBlk wRound wOpsD

/-! ### Memory: all but one slice's block stays -/
structure Fr (hs h : Heap) (s : SV) : Prop where
  len : hs.length ≤ h.length
  kp : ∀ (j : Nat) (b : Blk), hs[j]? = some b → NotAt s j → h[j]? = some b
theorem Fr.refl (h : Heap) (s : SV) : Fr h h s := ⟨Nat.le_refl _, fun _ _ h _ => h⟩
def Fsh (hs : Heap) (t : SV) : Prop := ∀ j, j < hs.length → NotAt t j
/-- A push onto a slice of pairs: what else lies in memory stays. -/
theorem push2f {h0 h : Heap} {s : SV} {n : Nat} {cs : List SV} {bytes : Nat} (he : Ext h0 h) (ho : Own2 h0 h s n cs) (hb : (n + 1) * (bytes + 1) ≤ bigN) (a b : SV) :
    ∃ s' h', appS (h ++ [.cells [a, b] true 2]) 2 bytes s 1 [a, b] = some (s', h') ∧ Own2 h0 h' s' (n + 1) (cs ++ [a, b]) ∧ Ext h0 h' ∧ Fram h h' s s' ∧ h.length ≤ h'.length ∧ Fsh h s' := by
  have hl := Ext.len he
  rcases ho with ⟨rfl, rfl, rfl⟩ | ⟨id, rfl, h2, h3, h4, h5⟩
  · refine ⟨.slc (h ++ [Blk.cells [a, b] true 2]).length 0 1 none, (h ++ [.cells [a, b] true 2]) ++ [.cells [a, b] true 2], ?_, .inr ⟨_, rfl, by simp; omega, by simp, rfl, by omega⟩, (he.app _).app _, ?_, by simp, ?_⟩
    · simp only [appS]
      rw [if_neg (by omega), if_pos (by omega)]
    · intro j x hj hn
      have hjl := (List.getElem?_eq_some_iff.1 hj).1
      refine ⟨by rw [List.append_assoc, List.getElem?_append_left hjl]; exact hj, fun o n' c e => ?_⟩
      injection e with e1
      rw [List.length_append] at e1
      simp at e1; omega
    · intro j hj o n' c e
      injection e with e1
      rw [List.length_append] at e1
      simp at e1; omega
  · have hid := (List.getElem?_eq_some_iff.1 h3).1
    have h3' : (h ++ [Blk.cells [a, b] true 2])[id]? = some (.cells cs true 2) := by rw [List.getElem?_append_left hid]; exact h3
    have hc : cut cs 0 (n * 2) = some cs := by
      unfold cut
      rw [if_pos (by omega), List.drop_zero, List.take_of_length_le (by omega)]
    refine ⟨.slc (h ++ [Blk.cells [a, b] true 2]).length 0 (n + 1) none, (h ++ [Blk.cells [a, b] true 2]).set id (Blk.dead 2) ++ [Blk.cells (cs ++ [a, b]) true 2], ?_, .inr ⟨_, rfl, by simp; omega, ?_, by simp [h4]; omega, by omega⟩, ?_, ?_, by simp; omega, ?_⟩
    · simp only [appS]
      rw [if_neg (by omega), if_pos (by omega), h3']
      simp only [if_true, ez2, hc]
      rw [if_pos ⟨trivial, .inl rfl⟩]
    · rw [List.getElem?_append_right (by simp)]; simp
    · exact ((he.app _).set h2 _).app _
    · intro j x hj hn
      have hjl := (List.getElem?_eq_some_iff.1 hj).1
      have hne : id ≠ j := fun e => by subst e; exact hn _ _ _ rfl
      refine ⟨by rw [List.getElem?_append_left (by simp; omega), List.getElem?_set_ne hne, List.getElem?_append_left hjl]; exact hj, fun o n' c e => ?_⟩
      injection e with e1
      rw [List.length_append] at e1
      simp at e1; omega
    · intro j hj o n' c e
      injection e with e1
      rw [List.length_append] at e1
      simp at e1; omega
section
variable {FT : FuncId → Option AFun} {HK : FuncId → Option Hook} {E : Env} {h h0 : Heap} {K : Env → Heap → Prop} {d : Option Nat} {r : List AOp} {xo so : AO}
theorem k_push2f {t n bytes : Nat} {s a b z0 z1 : SV} {cs z2 : List SV} (he : Ext h0 h) (ho : Own2 h0 h s n cs) (hx : ev E xo = some (.agg [a, b])) (hs : evS (bindE (some t) (some (.sc (.slc h.length 0 1 (some 1)))) E) so = some s) (hb : (n + 1) * (bytes + 1) ≤ bigN)
    (hw : ∀ s' h', Own2 h0 h' s' (n + 1) (cs ++ [a, b]) → Ext h0 h' → Fram h h' s s' → h.length ≤ h'.length → Fsh h s' → wOps FT HK r (bindE d (some (.sc s')) (bindE (some t) (some (.sc (.slc h.length 0 1 (some 1)))) E)) h' K) :
    wOps FT HK (⟨some t, .bsl 2 [z0, z1] 1 [(0, xo)], none⟩ :: ⟨d, .app 2 bytes z2 so (.t t), none⟩ :: r) E h K := by
  obtain ⟨s', h', h1, h2, h3, h4, h5, h6⟩ := push2f (bytes := bytes) he ho hb a b
  refine op_ok (v := some (.sc (.slc h.length 0 1 (some 1)))) (h' := h ++ [.cells [a, b] true 2]) rfl rfl ?_ ?_
  · simp [step1, evParts, hx, AV.cells, fillA, rep, splice, ez2]
  refine op_ok (v := some (.sc s')) (h' := h') rfl rfl ?_ (hw s' h' h2 h3 h4 h5 h6)
  have e1 : evS (bindE (some t) (some (.sc (.slc h.length 0 1 (some 1)))) E) (.t t) = some (.slc h.length 0 1 (some 1)) := by simp [evS, ev, bindE, Env.get]
  have e2 : srcCells (h ++ [Blk.cells [a, b] true 2]) 2 (.slc h.length 0 1 (some 1)) = some (1, [a, b]) := by simp [srcCells, readN, cut]
  simp only [step1, hs, e1, Option.bind_some, ez2, e2, h1, Option.map_some]
end

/-! ### The model's steps -/
section
variable {f : Nat} {k : UInt8} {r : List UInt8} {A : List Int} {acc : List Vis}
theorem seq_cons : seqL (f + 1) (k :: r) A acc = match Lib.atoiAll (r.takeWhile dig), r.dropWhile dig with
    | .ok n, c :: r' => if (k = 79 ∨ k = 85) ∧ 1 ≤ n ∧ n ≤ A.length ∧ (c = 43 ∨ c = 45) ∧ A.getD (n - 1).toNat 0 ≠ - sg c then seqL f r' (A.set (n - 1).toNat (sg c)) (acc ++ [(n - 1, decide (k = 79))]) else none
    | _, _ => none := rfl
theorem seq_kind (h1 : k ≠ 79) (h2 : k ≠ 85) : seqL (f + 1) (k :: r) A acc = none := by
  rw [seq_cons]
  split
  · rw [if_neg (fun h => h.1.elim h1 h2)]
  · rfl
theorem seq_atoi (h : ∀ n, Lib.atoiAll (r.takeWhile dig) ≠ .ok n) : seqL (f + 1) (k :: r) A acc = none := by
  rw [seq_cons]
  split
  · rename_i n _ _ hn _; exact absurd hn (h n)
  · rfl
theorem seq_num {n : Int} (h : Lib.atoiAll (r.takeWhile dig) = .ok n) (h1 : n < 1 ∨ (A.length : Int) < n) : seqL (f + 1) (k :: r) A acc = none := by
  rw [seq_cons, h]
  cases r.dropWhile dig with
  | nil => rfl
  | cons c r' => exact if_neg (fun h => by omega)
theorem seq_end (h : r.dropWhile dig = []) : seqL (f + 1) (k :: r) A acc = none := by
  rw [seq_cons, h]
  cases Lib.atoiAll (r.takeWhile dig) <;> rfl
theorem seq_sign {c : UInt8} {r' : List UInt8} (h : r.dropWhile dig = c :: r') (h1 : c ≠ 43) (h2 : c ≠ 45) : seqL (f + 1) (k :: r) A acc = none := by
  rw [seq_cons, h]
  cases Lib.atoiAll (r.takeWhile dig) with
  | ok n => exact if_neg (fun h => h.2.2.2.1.elim h1 h2)
  | _ => rfl
theorem seq_conf {n : Int} {c : UInt8} {r' : List UInt8} (h : Lib.atoiAll (r.takeWhile dig) = .ok n) (h0 : r.dropWhile dig = c :: r') (h1 : A.getD (n - 1).toNat 0 = - sg c) : seqL (f + 1) (k :: r) A acc = none := by
  rw [seq_cons, h, h0]
  exact if_neg (fun h => h.2.2.2.2 h1)
theorem seq_go {n : Int} {c : UInt8} {r' : List UInt8} (h : Lib.atoiAll (r.takeWhile dig) = .ok n) (h0 : r.dropWhile dig = c :: r') (hk : k = 79 ∨ k = 85) (h1 : 1 ≤ n) (h2 : n ≤ A.length) (h3 : c = 43 ∨ c = 45) (h4 : A.getD (n - 1).toNat 0 ≠ - sg c) :
    seqL (f + 1) (k :: r) A acc = seqL f r' (A.set (n - 1).toNat (sg c)) (acc ++ [(n - 1, decide (k = 79))]) := by
  rw [seq_cons, h, h0]
  exact if_pos ⟨hk, h1, h2, h3, h4⟩
end
theorem take_tw (p : UInt8 → Bool) : ∀ l : List UInt8, l.take (l.takeWhile p).length = l.takeWhile p
  | [] => rfl
  | c :: r => by
    by_cases h : p c = true
    · rw [List.takeWhile_cons, if_pos h, List.length_cons, List.take_succ_cons, take_tw p r]
    · rw [List.takeWhile_cons, if_neg h]; rfl
theorem drop_tw (p : UInt8 → Bool) : ∀ l : List UInt8, l.drop (l.takeWhile p).length = l.dropWhile p
  | [] => rfl
  | c :: r => by
    by_cases h : p c = true
    · rw [List.takeWhile_cons, if_pos h, List.dropWhile_cons, if_pos h, List.length_cons, List.drop_succ_cons, drop_tw p r]
    · rw [List.takeWhile_cons, if_neg h, List.dropWhile_cons, if_neg h]; rfl
theorem drop_get {s : List UInt8} {i : Nat} {c : UInt8} (hx : s[i]? = some c) : s.drop i = c :: s.drop (i + 1) := by
  obtain ⟨h9, h10⟩ := List.getElem?_eq_some_iff.1 hx
  rw [List.drop_eq_getElem_cons h9, h10]
theorem u8_ne {a b : UInt8} (h : a ≠ b) : a.toNat ≠ b.toNat := fun e => h (UInt8.toNat_inj.1 e)

/-! ### The digits -/
def I25d (h0 : Heap) (s : List UInt8) (sg t kd : SV) (st : Nat) (E : Env) (h : Heap) : Prop := ∃ m : Nat, h = h0 ∧ st + m ≤ s.length ∧ (s.drop st).takeWhile dig = (s.drop st).take m ++ (s.drop (st + m)).takeWhile dig ∧
  E = [(0, some (.sc (tb s))), (1, some (.sc sg)), (6, some (.sc t)), (7, some (.sc (.int .i64 ((st + m : Nat) : Int)))), (8, some (.sc kd)), (9, some (.sc (.int .i64 (st : Int))))]
def R25d (h0 : Heap) (s : List UInt8) (sg t kd : SV) (st : Nat) (ex : Ex) (E : Env) (h : Heap) : Prop := h = h0 ∧ ex = .ex 2 ∧ ∃ a,
  E = [(0, some (.sc (tb s))), (1, some (.sc sg)), (6, some (.sc t)), (7, some (.sc (.int .i64 ((st + ((s.drop st).takeWhile dig).length : Nat) : Int)))), (8, some (.sc kd)), (9, some (.sc (.int .i64 (st : Int)))), (38, a)]
theorem round25d (h0 : Heap) (s : List UInt8) (sg t kd : SV) (st : Nat) (hl : s.length ≤ 1000000) (E : Env) (h : Heap) (hI : I25d h0 s sg t kd st E h) :
    wA FT HKt b25L1 (E.keep [0, 1, 6, 7, 8, 9]) h (wRound (I25d h0 s sg t kd st) (cnt s.length 7) (cnt s.length 7 E h) (R25d h0 s sg t kd st)) := by
  obtain ⟨m, rfl, hm, ht, rfl⟩ := hI
  by_cases hlt : st + m < s.length
  · obtain ⟨c, hx⟩ : ∃ c, s[st + m]? = some c := ⟨_, List.getElem?_eq_getElem hlt⟩
    have hxI : s[(((st + m : Nat) : Int)).toNat]? = some c := by rw [Int.toNat_natCast]; exact hx
    have hcl : c.toNat < 256 := c.toNat_lt
    have hd := drop_get hx
    by_cases hdg : 48 ≤ c.toNat ∧ c.toNat ≤ 57
    · have hdt : dig c = true := decide_eq_true hdg
      have e1 : (s.drop st).take (m + 1) = (s.drop st).take m ++ [c] := by
        rw [List.take_add_one, List.getElem?_drop, hx]; rfl
      have ht' : (s.drop st).takeWhile dig = (s.drop st).take (m + 1) ++ (s.drop (st + (m + 1))).takeWhile dig := by
        rw [ht, hd, List.takeWhile_cons, if_pos hdt, e1, List.append_assoc]; rfl
      repeat' (first | refine w_seq ?_ | refine w_seqN ?_ | refine w_blk ?_ | refine w_blkN ?_ | refine w_skip ?_ | refine w_ops ?_ | ((refine i_cond ?_); refine w_condT rfl ?_) | ((refine i_nil ?_); first | refine w_end6 rfl rfl rfl rfl rfl rfl ?_ | refine w_end7 rfl rfl rfl rfl rfl rfl rfl ?_) | ((refine i_cons ?_); first | refine k_slen rfl ?_ | refine k_sidx rfl rfl (by omega) hxI ?_ | refine k_want rfl ?_ | refine k_mv rfl ?_ | refine k_pickT rfl rfl ?_ | refine k_add rfl rfl (by omega) ?_ | refine k_lssT rfl rfl (by omega) ?_ | refine k_leqT rfl rfl (by omega) ?_ | refine k_geqT rfl rfl (by omega) ?_))
      exact w_roundN ⟨m + 1, rfl, by omega, ht', rfl⟩ (by simp [cnt, Env.get]; omega)
    · have hdf : dig c = false := decide_eq_false hdg
      have hlen : ((s.drop st).takeWhile dig).length = m := by
        rw [ht, hd, List.takeWhile_cons, if_neg (by rw [hdf]; simp), List.append_nil, List.length_take, List.length_drop]; omega
      have hor : c.toNat < 48 ∨ (48 ≤ c.toNat ∧ 57 < c.toNat) := by omega
      rcases hor with h1 | ⟨h1, h2⟩
      · repeat' (first | refine w_seq ?_ | refine w_seqN ?_ | refine w_seqX ?_ | refine w_exit ?_ | refine w_ops ?_ | ((refine i_cond ?_); refine w_condF rfl ?_) | ((refine i_nil ?_); refine w_end7 rfl rfl rfl rfl rfl rfl rfl ?_) | ((refine i_cons ?_); first | refine k_slen rfl ?_ | refine k_sidx rfl rfl (by omega) hxI ?_ | refine k_skip rfl ?_ | refine k_want rfl ?_ | refine k_mv rfl ?_ | refine k_pickT rfl rfl ?_ | refine k_pickF rfl rfl ?_ | refine k_lssT rfl rfl (by omega) ?_ | refine k_geqF rfl rfl (by omega) ?_))
        exact w_roundX ⟨rfl, rfl, _, by rw [hlen]⟩
      · repeat' (first | refine w_seq ?_ | refine w_seqN ?_ | refine w_seqX ?_ | refine w_exit ?_ | refine w_ops ?_ | ((refine i_cond ?_); refine w_condF rfl ?_) | ((refine i_nil ?_); refine w_end7 rfl rfl rfl rfl rfl rfl rfl ?_) | ((refine i_cons ?_); first | refine k_slen rfl ?_ | refine k_sidx rfl rfl (by omega) hxI ?_ | refine k_want rfl ?_ | refine k_mv rfl ?_ | refine k_pickT rfl rfl ?_ | refine k_lssT rfl rfl (by omega) ?_ | refine k_leqF rfl rfl (by omega) ?_ | refine k_geqT rfl rfl (by omega) ?_))
        exact w_roundX ⟨rfl, rfl, _, by rw [hlen]⟩
  · have hd : s.drop (st + m) = [] := List.drop_of_length_le (by omega)
    have hlen : ((s.drop st).takeWhile dig).length = m := by
      rw [ht, hd, List.takeWhile_nil, List.append_nil, List.length_take, List.length_drop]; omega
    repeat' (first | refine w_seq ?_ | refine w_seqN ?_ | refine w_seqX ?_ | refine w_exit ?_ | refine w_ops ?_ | ((refine i_cond ?_); refine w_condF rfl ?_) | ((refine i_nil ?_); refine w_end7 rfl rfl rfl rfl rfl rfl rfl ?_) | ((refine i_cons ?_); first | refine k_slen rfl ?_ | refine k_skip rfl ?_ | refine k_mv rfl ?_ | refine k_pickF rfl rfl ?_ | refine k_lssF rfl rfl (by omega) ?_))
    exact w_roundX ⟨rfl, rfl, _, by rw [hlen]⟩
end Go.Proofs.YtjmapbmdfbdomaaDoor
