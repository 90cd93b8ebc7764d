/- The relation between the abstract heap and the worlds of the model. -/
import Derived.Test.YtadelcikpkhclaaDoorAb1
import Derived.WalkKit
namespace Go.Ab

/-- Two lists, place by place. -/
inductive F2 {α β : Type} (R : α → β → Prop) : List α → List β → Prop
  | nil : F2 R [] []
  | cons {a b l m} : R a b → F2 R l m → F2 R (a :: l) (b :: m)

namespace F2
variable {α β : Type} {R R' : α → β → Prop}

theorem length {l : List α} {m : List β} (h : F2 R l m) : l.length = m.length := by
  induction h with
  | nil => rfl
  | cons _ _ ih => simp [ih]

theorem mono {l : List α} {m : List β} (hr : ∀ a b, R a b → R' a b) (h : F2 R l m) : F2 R' l m := by
  induction h with
  | nil => exact .nil
  | cons a _ ih => exact .cons (hr _ _ a) ih

theorem append {l l' : List α} {m m' : List β} (h : F2 R l m) (h' : F2 R l' m') : F2 R (l ++ l') (m ++ m') := by
  induction h with
  | nil => simpa using h'
  | cons a _ ih => exact .cons a ih

theorem get {l : List α} {m : List β} (h : F2 R l m) : ∀ {i : Nat} {a : α}, l[i]? = some a → ∃ b, m[i]? = some b ∧ R a b := by
  induction h with
  | nil => intro i a h; simp at h
  | cons r _ ih =>
    intro i a h
    cases i with
    | zero => simp at h; subst h; exact ⟨_, rfl, r⟩
    | succ i => simpa using ih (by simpa using h)

theorem get' {l : List α} {m : List β} (h : F2 R l m) : ∀ {i : Nat} {b : β}, m[i]? = some b → ∃ a, l[i]? = some a ∧ R a b := by
  induction h with
  | nil => intro i a h; simp at h
  | cons r _ ih =>
    intro i a h
    cases i with
    | zero => simp at h; subst h; exact ⟨_, rfl, r⟩
    | succ i => simpa using ih (by simpa using h)

theorem of_get : ∀ {l : List α} {m : List β}, l.length = m.length → (∀ (i : Nat) (a : α) (b : β), l[i]? = some a → m[i]? = some b → R a b) → F2 R l m
  | [], [], _, _ => .nil
  | a :: l, b :: m, hl, h => .cons (h 0 a b rfl rfl) (of_get (by simpa using hl) fun i x y hx hy => h (i + 1) x y (by simpa using hx) (by simpa using hy))
  | [], _ :: _, hl, _ => by simp at hl
  | _ :: _, [], hl, _ => by simp at hl

theorem take {l : List α} {m : List β} (h : F2 R l m) (n : Nat) : F2 R (l.take n) (m.take n) := by
  induction h generalizing n with
  | nil => simp; exact .nil
  | cons r _ ih => cases n with
    | zero => simp; exact .nil
    | succ n => simpa using .cons r (ih n)

theorem drop {l : List α} {m : List β} (h : F2 R l m) (n : Nat) : F2 R (l.drop n) (m.drop n) := by
  induction h generalizing n with
  | nil => simp; exact .nil
  | cons r t ih => cases n with
    | zero => simpa using .cons r t
    | succ n => simpa using ih n
end F2

structure Loc where
  b : Nat
  base : Nat
  sz : Nat
  esz : ESz

abbrev Bt := Nat → Option Loc

def Bt.le (β β' : Bt) : Prop := ∀ id L, β id = some L → β' id = some L

def CapR (β : Bt) (p : Nat × Nat) (v : Value) : Prop := ∃ L, β p.1 = some L ∧ v = .pointer (some ⟨L.b, L.base + p.2, none⟩)

inductive SRel (β : Bt) : SV → Value → Prop
  | bool (b) : SRel β (.bool b) (.bool b)
  | int (k n) : SRel β (.int k n) (.int k n)
  | str (s) : SRel β (.str s) (.string s)
  | ptr {id off L} (h : β id = some L) : SRel β (.ptr id off) (.pointer (some ⟨L.b, L.base + off, none⟩))
  | nilP : SRel β .nilP (.pointer none)
  | slc {id off len cap L c} {ad : Addr} (h : β id = some L) (hc : ∀ k, cap = some k → c = k) (hl : len ≤ c)
      (ho : 0 < c → ad = ⟨L.b, L.base + off, none⟩) (hb : 0 < c → 1 ≤ L.esz.n ∧ L.base + off + c * L.esz.n ≤ L.sz) : SRel β (.slc id off len cap) (.slice (some ad) len c)
  | nilS : SRel β .nilS (.slice none 0 0)
  | fn {f caps vs} (h : F2 (CapR β) caps vs) : SRel β (.fn f caps) (.func (.func f) #[] vs.toArray)
  | nilF : SRel β .nilF .nilFunc
  | nilI : SRel β .nilI .nilIface
  | ifc (t v) : SRel β .ifc (.iface t v)

theorem SRel.mono {β β' : Bt} (hb : β.le β') {x : SV} {v : Value} (h : SRel β x v) : SRel β' x v := by
  cases h with
  | bool b => exact .bool b
  | int k n => exact .int k n
  | str s => exact .str s
  | ptr h => exact .ptr (hb _ _ h)
  | nilP => exact .nilP
  | slc h hc hl ho hb' => exact .slc (hb _ _ h) hc hl ho hb'
  | nilS => exact .nilS
  | fn h => exact .fn (h.mono fun p v ⟨L, h1, h2⟩ => ⟨L, hb _ _ h1, h2⟩)
  | nilF => exact .nilF
  | nilI => exact .nilI
  | ifc t v => exact .ifc t v

theorem SRel.one {β : Bt} {x : SV} {v : Value} (h : SRel β x v) : v.oneCell' = true := by cases h <;> rfl
theorem SRel.cells {β : Bt} {x : SV} {v : Value} (h : SRel β x v) : v.cells = #[v] := by cases h <;> rfl

inductive PRel (β : Bt) : PV → Value → Prop
  | sc {x v} (h : SRel β x v) : PRel β (.sc x) v
  | agg {xs vs} (h : F2 (SRel β) xs vs) : PRel β (.agg xs) (.agg vs.toArray)

inductive ARel (β : Bt) : AV → Value → Prop
  | sc {x v} (h : SRel β x v) : ARel β (.sc x) v
  | agg {xs vs} (h : F2 (SRel β) xs vs) : ARel β (.agg xs) (.agg vs.toArray)
  | tup {xs vs} (h : F2 (PRel β) xs vs) : ARel β (.tup xs) (.tuple vs.toArray)

theorem PRel.mono {β β' : Bt} (hb : β.le β') {x : PV} {v : Value} (h : PRel β x v) : PRel β' x v := by
  cases h with
  | sc h => exact .sc (h.mono hb)
  | agg h => exact .agg (h.mono fun _ _ => SRel.mono hb)

theorem ARel.mono {β β' : Bt} (hb : β.le β') {x : AV} {v : Value} (h : ARel β x v) : ARel β' x v := by
  cases h with
  | sc h => exact .sc (h.mono hb)
  | agg h => exact .agg (h.mono fun _ _ => SRel.mono hb)
  | tup h => exact .tup (h.mono fun _ _ => PRel.mono hb)

theorem PRel.av {β : Bt} {x : PV} {v : Value} (h : PRel β x v) : ARel β x.av v := by
  cases h with
  | sc h => exact .sc h
  | agg h => exact .agg h

theorem ARel.pv {β : Bt} {x : AV} {p : PV} {v : Value} (h : ARel β x v) (hp : x.pv = some p) : PRel β p v := by
  cases h with
  | sc h => simp [AV.pv] at hp; subst hp; exact .sc h
  | agg h => simp [AV.pv] at hp; subst hp; exact .agg h
  | tup h => simp [AV.pv] at hp

theorem ARel.cells {β : Bt} {x : AV} {v : Value} {cs : List SV} (h : ARel β x v) (hc : x.cells = some cs) : ∃ vs, v.cells = vs.toArray ∧ F2 (SRel β) cs vs := by
  cases h with
  | sc h => simp [AV.cells] at hc; subst hc; exact ⟨[v], by rw [h.cells], .cons h .nil⟩
  | agg h => simp [AV.cells] at hc; subst hc; exact ⟨_, rfl, h⟩
  | tup h => simp [AV.cells] at hc

/-- The frame. -/
def ERel (β : Bt) (E : Env) (tmps : Array Value) : Prop := ∀ t v, E.get t = some v → ∃ c, tmps[t]? = some c ∧ ARel β v c

theorem ERel.mono {β β' : Bt} (hb : β.le β') {E : Env} {tmps : Array Value} (h : ERel β E tmps) : ERel β' E tmps :=
  fun t v ht => let ⟨c, h1, h2⟩ := h t v ht; ⟨c, h1, h2.mono hb⟩

theorem Env.get_keep (E : Env) (t : Nat) (v : AV) : ∀ ks : List Nat, Env.get (E.keep ks) t = some v → E.get t = some v
  | [], h => by simp [Env.keep, Env.get] at h
  | k :: ks, h => by
    simp only [Env.keep, List.map_cons, Env.get] at h
    split at h
    · rename_i hk; subst hk; exact h
    · exact Env.get_keep E t v ks h

theorem ERel.keep {β : Bt} {E : Env} {tmps : Array Value} (h : ERel β E tmps) (ks : List Nat) : ERel β (E.keep ks) tmps :=
  fun t v ht => h t v (Env.get_keep E t v ks ht)

theorem ERel.bind {β : Bt} {E : Env} {tmps : Array Value} (h : ERel β E tmps) (d : Option Nat) (v : Option AV) (c : Value) (hd : ∀ t, d = some t → t < tmps.size)
    (hv : ∀ u, v = some u → ARel β u c) (a : List Deferred) : ERel β (bindE d v E) (Act.put ⟨tmps, a⟩ d c).tmps := by
  cases d with
  | none => exact h
  | some t =>
    intro s u hs
    simp only [bindE, Env.get] at hs
    simp only [Act.put, Array.getElem?_setIfInBounds]
    split at hs
    · rename_i hts
      subst hts
      rw [if_pos rfl, if_pos (hd _ rfl)]
      exact ⟨_, rfl, hv _ hs⟩
    · rename_i hts
      rw [if_neg hts]
      exact h s u hs

/-- The type that is told is the block's. -/
def TyOk (esz : ESz) (e : TypeId) : Prop := ∀ t, esz.ty = some t → e = t
/-- Where a type is told the block is known from its begin on, an object wholly. -/
def TyFull (esz : ESz) (L : Loc) (cs : List SV) : Prop := ∀ t, esz.ty = some t → L.base = 0 ∧ (esz.n = 0 → cs.length = L.sz)
/-- A block. -/
def BRel (β : Bt) (w : World) (L : Loc) (cs : List SV) (rw : Bool) (esz : ESz) : Prop :=
  L.esz = esz ∧ ∃ ccs e fz, w.heap[L.b]? = some (.cells ccs e fz) ∧ ccs.size = L.sz ∧ L.base + cs.length ≤ L.sz ∧
    (∀ i v, cs[i]? = some v → ∃ c, ccs[L.base + i]? = some c ∧ SRel β v c) ∧ (rw = true → fz = (0, 0)) ∧ TyOk esz e ∧ TyFull esz L cs

structure Rep (β : Bt) (h : Heap) (w : World) : Prop where
  sz : ∀ id b L, h[id]? = some b → β id = some L → L.esz = b.esz
  blk : ∀ id L cs rw esz, h[id]? = some (.cells cs rw esz) → β id = some L → BRel β w L cs rw esz
  exc : ∀ i j L M cs esz cs' rw' esz', h[i]? = some (.cells cs true esz) → h[j]? = some (.cells cs' rw' esz') → i ≠ j → β i = some L → β j = some M → L.b ≠ M.b

def owned (β : Bt) (h : Heap) (b : Nat) : Prop := ∃ id L cs esz, h[id]? = some (.cells cs true esz) ∧ β id = some L ∧ L.b = b

structure Stp (β : Bt) (h : Heap) (w : World) (β' : Bt) (h' : Heap) (w' : World) : Prop where
  ext : β.le β'
  dom : ∀ id L, β' id = some L → β id = some L ∨ (h.length ≤ id ∧ id < h'.length)
  full : ∀ id, h.length ≤ id → id < h'.length → ∃ L, β' id = some L
  len : h.length ≤ h'.length
  own : ∀ b, owned β' h' b → w.heap.size ≤ b ∨ owned β h b
  new : ∀ id L, β' id = some L → β id = none → w.heap.size ≤ L.b ∨ owned β h L.b
  frame : ∀ b, b < w.heap.size → ¬ owned β h b → w'.heap[b]? = w.heap[b]?
  size : w.heap.size ≤ w'.heap.size
  os : w'.os = w.os
  tape : w'.tape = w.tape
  output : w'.output = w.output

theorem Stp.refl (β : Bt) (h : Heap) (w : World) : Stp β h w β h w :=
  ⟨fun _ _ h => h, fun _ _ h => .inl h, fun id h1 h2 => by omega, Nat.le_refl _, fun _ h => .inr h, fun id L h1 h2 => by rw [h1] at h2; simp at h2, fun _ _ _ => rfl, Nat.le_refl _, rfl, rfl, rfl⟩

theorem Stp.trans {β h w β1 h1 w1 β2 h2 w2} (a : Stp β h w β1 h1 w1) (b : Stp β1 h1 w1 β2 h2 w2) : Stp β h w β2 h2 w2 where
  ext := fun id L hl => b.ext _ _ (a.ext _ _ hl)
  dom := fun id L hl => by
    rcases b.dom id L hl with h' | h'
    · rcases a.dom id L h' with h'' | h''
      · exact .inl h''
      · have := b.len; exact .inr ⟨h''.1, by omega⟩
    · have := a.len; exact .inr ⟨by omega, h'.2⟩
  full := fun id h1' h2' => by
    by_cases hlt : id < h1.length
    · obtain ⟨L, hL⟩ := a.full id h1' hlt
      exact ⟨L, b.ext _ _ hL⟩
    · exact b.full id (by omega) h2'
  len := Nat.le_trans a.len b.len
  own := fun x hx => by
    rcases b.own x hx with h' | h'
    · exact .inl (Nat.le_trans a.size h')
    · exact a.own x h'
  new := fun id L h1' h2' => by
    cases hb : β1 id with
    | none =>
      rcases b.new id L h1' hb with h' | h'
      · exact .inl (Nat.le_trans a.size h')
      · exact a.own _ h'
    | some M =>
      have := b.ext _ _ hb
      rw [h1'] at this
      simp at this
      subst this
      exact a.new id L hb h2'
  frame := fun x hx hn => by
    rw [b.frame x (Nat.lt_of_lt_of_le hx a.size) (fun ho => by
      rcases a.own x ho with h' | h'
      · omega
      · exact hn h'), a.frame x hx hn]
  size := Nat.le_trans a.size b.size
  os := b.os.trans a.os
  tape := b.tape.trans a.tape
  output := b.output.trans a.output

theorem Stp.drawn {β h w β1 h1 w1} (a : Stp β h w β1 h1 w1) (n : Nat) : Stp β h { w with drawn := n } β1 h1 w1 :=
  ⟨a.ext, a.dom, a.full, a.len, a.own, a.new, a.frame, a.size, a.os, a.tape, a.output⟩

theorem Rep.drawn {β h w} (a : Rep β h w) (n : Nat) : Rep β h { w with drawn := n } := ⟨a.sz, a.blk, a.exc⟩

theorem BRel.lt {β w L cs rw esz} (h : BRel β w L cs rw esz) : L.b < w.heap.size := by
  obtain ⟨_, _, _, _, h, _⟩ := h
  exact (Array.getElem?_eq_some_iff.1 h).1

end Go.Ab
