import Derived.Calls
import Derived.WalkKit
/- An abstract interpreter for the translated Go code: values, heap, annotated code, evaluation. -/
namespace Go.Ab

/-- A value of one cell. -/
inductive SV where
  | bool (b : Bool)
  | int (k : IntKind) (n : Int)
  | str (s : ByteArray)
  | ptr (id off : Nat)
  | nilP
  | nilM
  | slc (id off len : Nat) (cap : Option Nat)
  | nilS
  | fn (f : FuncId) (caps : List (Nat × Nat))
  | nilF
  | nilI
  | ifc
  | mapv (id : Nat)
  | itv (id : Nat)
  deriving DecidableEq, Inhabited

/-- A value of one cell, or of several. -/
inductive PV where
  | sc (x : SV)
  | agg (xs : List SV)
  deriving DecidableEq, Inhabited

inductive AV where
  | sc (x : SV)
  | agg (xs : List SV)
  | tup (xs : List PV)
  deriving Inhabited

def PV.av : PV → AV
  | .sc x => .sc x
  | .agg xs => .agg xs

def AV.pv : AV → Option PV
  | .sc x => some (.sc x)
  | .agg xs => some (.agg xs)
  | .tup _ => none

def AV.cells : AV → Option (List SV)
  | .sc x => some [x]
  | .agg xs => some xs
  | .tup _ => none

/-- How many cells an element has; and of which type it is, where that is told. -/
structure ESz where
  n : Nat
  ty : Option Nat
  deriving DecidableEq, Inhabited

instance instESz (k : Nat) : OfNat ESz k := ⟨⟨k, none⟩⟩
theorem ESz.lit_n (k : Nat) : (instESz k).ofNat.n = k := rfl
@[simp] theorem ESz.one_n : (1 : ESz).n = 1 := rfl
@[simp] theorem ESz.one_ty : (1 : ESz).ty = none := rfl

inductive Blk where
  | cells (cs : List SV) (rw : Bool) (esz : ESz)
  | dead (esz : ESz)
  deriving DecidableEq, Inhabited

def Blk.esz : Blk → ESz
  | .cells _ _ e => e
  | .dead e => e

abbrev Heap := List Blk
abbrev Env := List (Nat × Option AV)

def Env.get : Env → Nat → Option AV
  | [], _ => none
  | (k, v) :: r, t => if k = t then v else Env.get r t

def Env.keep (E : Env) (ks : List Nat) : Env := ks.map fun t => (t, E.get t)

inductive AO where
  | t (n : Nat)
  | k (v : AV)

def ev (E : Env) : AO → Option AV
  | .t n => E.get n
  | .k v => some v

def evs (E : Env) : List AO → Option (List AV)
  | [] => some []
  | x :: r => (ev E x).bind fun v => (evs E r).map (v :: ·)

def evS (E : Env) (x : AO) : Option SV :=
  match ev E x with
  | some (.sc v) => some v
  | _ => none

def evSs (E : Env) : List AO → Option (List SV)
  | [] => some []
  | x :: r => (evS E x).bind fun v => (evSs E r).map (v :: ·)

/-- The kinds of operations. -/
inductive AK where
  | mv (x : AO)
  | pick (c a b : AO)
  | bin (op : BinOp) (x y : AO)
  | beq (neg : Bool) (x y : AO)
  | isnil (kd : Nat) (neg : Bool) (x : AO)
  | un (op : UnOp) (x : AO)
  | conv (k : IntKind) (x : AO)
  | len (str : Bool) (x : AO)
  | mm (mx : Bool) (x : AO) (ys : List AO)
  | idxA (esz : Nat) (x i : AO)
  | idxP (n esz : Nat) (x i : AO)
  | idxS (x i : AO)
  | idxG (n esz : Nat) (agg : Bool) (x i : AO)
  | fldA (off : Nat) (x : AO)
  | fld (off size : Nat) (agg : Bool) (x : AO)
  | ld (n : Nat) (agg : Bool) (x : AO)
  | st (n : Nat) (a x : AO)
  | new (zero : List SV)
  | box (x : AO)
  | bld (zero : List SV) (parts : List (Nat × Nat × AO))
  | bsl (esz : ESz) (zero : List SV) (len : Nat) (parts : List (Nat × AO))
  | mk (esz : ESz) (bytes : Nat) (zero : List SV) (l c : AO)
  | sl (esz : ESz) (x : AO) (lo hi : Option AO)
  | slS (x : AO) (lo hi : Option AO)
  | app (esz : ESz) (bytes : Nat) (zero : List SV) (x y : AO)
  | call (f : FuncId) (args : List AO)
  | callv (x : AO) (args : List AO)
  | ext (x : AO) (i : Nat)
  | mkf (f : FuncId) (caps : List AO)
  | nilc (x : AO)
  | newT (t : Nat) (zero : List SV)
  | aeq (neg : Bool) (n : Nat) (x y : AO)
  | peq (neg : Bool) (x y : AO)
  | sl1 (x : AO) (lo hi : Option AO)
  | usd (x : AO)
  | ustr (t : Nat) (x n : AO)
  | cvb (x : AO)
  | cbs (x : AO)
  | veq (neg : Bool) (x y : AO)
  | seq2 (neg : Bool) (x y : AO)
  | car (sb : Bool) (x y c : AO)
  | cpy (esz : Nat) (x y : AO)
  | mpM (z : ESz)
  | mpL (z : ESz) (zero : List SV) (ok : Bool) (x k : AO)
  | mpU (z : ESz) (x k v : AO)
  | mpR (x : AO)
  | mpT (x : AO)
  | mpN (x : AO)
  | mpX (x : AO)
  | mpE (z : ESz) (zero : List SV) (x k : AO)
  | mpS (z : ESz) (x s v : AO)
  | bad

structure AOp where
  dst : Option Nat
  k : AK
  guard : Option (Nat × Bool)

def wrapI (k : IntKind) (n : Int) : SV := .int k (k.wrap n)

def binI (op : BinOp) (k : IntKind) (a b : Int) : Option SV :=
  match op with
  | .add => some (wrapI k (a + b))
  | .sub => some (wrapI k (a - b))
  | .mul => some (wrapI k (a * b))
  | .quo => if b = 0 then none else some (wrapI k (a.tdiv b))
  | .rem => if b = 0 then none else some (.int k (a.tmod b))
  | .and => some (wrapI k (BitVec.ofInt k.bits a &&& BitVec.ofInt k.bits b).toNat)
  | .or => some (wrapI k (BitVec.ofInt k.bits a ||| BitVec.ofInt k.bits b).toNat)
  | .xor => some (wrapI k (BitVec.ofInt k.bits a ^^^ BitVec.ofInt k.bits b).toNat)
  | .andNot => some (wrapI k (BitVec.ofInt k.bits a &&& ~~~(BitVec.ofInt k.bits b)).toNat)
  | .eql => some (.bool (a == b))
  | .neq => some (.bool (a != b))
  | .lss => some (.bool (decide (a < b)))
  | .leq => some (.bool (decide (a ≤ b)))
  | .gtr => some (.bool (decide (b < a)))
  | .geq => some (.bool (decide (b ≤ a)))
  | .shl | .shr => none

def shI (op : BinOp) (k : IntKind) (a b : Int) : Option SV :=
  if b < 0 then none else
  match op with
  | .shl => some (wrapI k (a * 2 ^ (min b.toNat k.bits)))
  | .shr => some (.int k (a.fdiv (2 ^ (min b.toNat k.bits))))
  | _ => none

def binT (op : BinOp) (a b : ByteArray) : Option SV :=
  match op with
  | .add => if a.size + b.size ≤ 1099511627776 then some (.str (a ++ b)) else none
  | .eql => some (.bool (a.toList == b.toList))
  | .neq => some (.bool (!(a.toList == b.toList)))
  | .lss => some (.bool (Op.bytesLess a.toList b.toList))
  | .leq => some (.bool (Op.bytesLess a.toList b.toList || a.toList == b.toList))
  | .gtr => some (.bool (!(Op.bytesLess a.toList b.toList || a.toList == b.toList)))
  | .geq => some (.bool (!(Op.bytesLess a.toList b.toList)))
  | _ => none

def isShift : BinOp → Bool
  | .shl | .shr => true
  | _ => false

def binS (op : BinOp) : SV → SV → Option SV
  | .int k a, .int k' b => if isShift op then shI op k a b else if k = k' then binI op k a b else none
  | .str a, .str b => binT op a b
  | _, _ => none

def unS (op : UnOp) : SV → Option SV
  | .int k a => match op with
    | .neg => some (wrapI k (0 - a))
    | .xor => some (wrapI k (BitVec.ofInt k.bits (if k.signed then -1 else k.max) ^^^ BitVec.ofInt k.bits a).toNat)
    | _ => none
  | .bool b => match op with
    | .not => some (.bool (!b))
    | _ => none
  | _ => none

/-- Is it nil? The kinds: 0 a pointer, 1 a slice, 2 a function, 3 an interface value. -/
def nilS (kd : Nat) : SV → Option Bool
  | .nilP => if kd = 0 then some true else none
  | .nilS => if kd = 1 then some true else none
  | .nilF => if kd = 2 then some true else none
  | .nilI => if kd = 3 then some true else none
  | .ptr _ _ => if kd = 0 then some false else none
  | .slc _ _ _ _ => if kd = 1 then some false else none
  | .fn _ _ => if kd = 2 then some false else none
  | .ifc => if kd = 3 then some false else none
  | _ => none

def lenS (str : Bool) : SV → Option Int
  | .slc _ _ n _ => if str then none else some n
  | .nilS => if str then none else some 0
  | .str s => if str then some s.size else none
  | _ => none

def mm2 (mx : Bool) : SV → SV → Option SV
  | .int k x, .int k' y => if k = k' then some (.int k (if mx then (if y > x then y else x) else (if y < x then y else x))) else none
  | _, _ => none

def mmL (mx : Bool) (x : SV) : List SV → Option SV
  | [] => some x
  | y :: r => (mm2 mx x y).bind fun z => mmL mx z r

/-- n cells from an offset on. -/
def cut (cs : List SV) (off n : Nat) : Option (List SV) :=
  if off + n ≤ cs.length then some ((cs.drop off).take n) else none

def readN (h : Heap) (id off n : Nat) : Option (List SV) :=
  match h[id]? with
  | some (.cells cs _ _) => cut cs off n
  | _ => none

def splice (cs : List SV) (off : Nat) (vs : List SV) : List SV := cs.take off ++ vs ++ cs.drop (off + vs.length)

def writeN (h : Heap) (id off : Nat) (vs : List SV) : Option Heap :=
  match h[id]? with
  | some (.cells cs true esz) => if off + vs.length ≤ cs.length then some (h.set id (.cells (splice cs off vs) true esz)) else none
  | _ => none

def cellsAV (agg : Bool) (cs : List SV) : Option AV :=
  if agg then some (.agg cs) else match cs with
  | [x] => some (.sc x)
  | _ => none

def rep (zero : List SV) : Nat → List SV
  | 0 => []
  | n + 1 => zero ++ rep zero n

def fillA (cells : List SV) : List (Nat × Nat × List SV) → Option (List SV)
  | [] => some cells
  | (off, size, vs) :: r => if vs.length = size ∧ off + size ≤ cells.length then fillA (splice cells off vs) r else none

def evParts (E : Env) : List (Nat × Nat × AO) → Option (List (Nat × Nat × List SV))
  | [] => some []
  | (o, s, x) :: r => (ev E x).bind fun v => v.cells.bind fun cs => (evParts E r).map ((o, s, cs) :: ·)

def bigN : Nat := 1099511627776

/-- A bound of a slice expression. -/
def bnd (E : Env) (d : Nat) : Option AO → Option Nat
  | none => some d
  | some x => match evS E x with
    | some (.int _ n) => if 0 ≤ n then some n.toNat else none
    | _ => none

/-- append: the cells of what is appended, and how many elements. -/
def srcCells (h : Heap) (esz : Nat) : SV → Option (Nat × List SV)
  | .nilS => some (0, [])
  | .slc id off n _ => if n = 0 then some (0, []) else (readN h id off (n * esz)).map (n, ·)
  | .str s => if esz = 1 then some (s.size, s.data.toList.map fun b => .int .u8 b.toNat) else none
  | _ => none

def appS (h : Heap) (esz : ESz) (bytes : Nat) (s : SV) (m : Nat) (vs : List SV) : Option (SV × Heap) :=
  match s with
  | .nilS => if m = 0 then some (.nilS, h) else if m * (bytes + 1) ≤ bigN then some (.slc h.length 0 m none, h ++ [.cells vs true esz]) else none
  | .slc id off n cap =>
    if m = 0 then some (.slc id off n cap, h) else
    if (n + m) * (bytes + 1) ≤ bigN then
      match h[id]? with
      | some (.cells cs rw e) =>
        if e = esz then
          match cut cs off (n * esz.n) with
          | some old =>
            match cap with
            | some c =>
              if c < n + m then some (.slc h.length 0 (n + m) none, h ++ [.cells (old ++ vs) true esz])
              else (writeN h id (off + n * esz.n) vs).map fun h' => (.slc id off (n + m) (some c), h')
            | none => if rw = true ∧ (esz.ty = none ∨ off = 0) then some (.slc h.length 0 (n + m) none, h.set id (.dead esz) ++ [.cells (old ++ vs) true esz]) else none
          | none => none
        else none
      | _ => none
    else none
  | _ => none

def sliceS (h : Heap) (esz : ESz) (lo hi : Nat) : SV → Option SV
  | .nilS => if lo = 0 ∧ hi = 0 then some .nilS else none
  | .slc id off n cap => match h[id]? with
    | some b => if b.esz = esz ∧ lo ≤ hi ∧ hi ≤ n then some (.slc id (off + lo * esz.n) (hi - lo) (cap.map (· - lo))) else none
    | _ => none
  | _ => none

/-- A part of a slice whose elements take one cell. -/
def slice1 (lo hi : Nat) : SV → Option SV
  | .nilS => if lo = 0 ∧ hi = 0 then some .nilS else none
  | .slc id off n cap => if lo ≤ hi ∧ hi ≤ n then some (.slc id (off + lo) (hi - lo) (cap.map (· - lo))) else none
  | _ => none
/-- Cells that hold bytes. -/
def bytesOf : List SV → Option (List UInt8)
  | [] => some []
  | .int .u8 v :: r => if v = ((UInt8.ofNat v.toNat).toNat : Int) then (bytesOf r).map (UInt8.ofNat v.toNat :: ·) else none
  | _ => none
/-- Two rows of integers, cell by cell. -/
def eqInts : List SV → List SV → Option Bool
  | [], [] => some true
  | .int k a :: xs, .int j b :: ys => if k = j then (eqInts xs ys).map fun r => decide (a = b) && r else none
  | _, _ => none

/-! Maps: a block of entries, whose kind tells the widths of keys and values. -/
def ESz.kw (z : ESz) : Nat := (z.n - 1000000) / 1000
def ESz.vw (z : ESz) : Nat := (z.n - 1000000) % 1000
/-- The cells of the i-th entry: its key, and its value. -/
def entK (z : ESz) (cs : List SV) (i : Nat) : List SV := (cs.drop (i * (z.kw + z.vw))).take z.kw
def entV (z : ESz) (cs : List SV) (i : Nat) : List SV := (cs.drop (i * (z.kw + z.vw) + z.kw)).take z.vw
def intsOf : List SV → Option (List Int)
  | [] => some []
  | .int .i64 n :: r => (intsOf r).map (n :: ·)
  | _ => none
def keysI (z : ESz) (cs : List SV) : List (List Int) := (List.range (cs.length / (z.kw + z.vw))).map fun i => (intsOf (entK z cs i)).getD []
def findI (z : ESz) (cs : List SV) (ns : List Int) : Option Nat := (keysI z cs).findIdx? (· == ns)
/-- One value: one cell, or several. -/
def mpAV : List SV → AV
  | [x] => .sc x
  | xs => .agg xs
def mpPV : List SV → PV
  | [x] => .sc x
  | xs => .agg xs
def mpOK : AV → Option (List SV)
  | .sc x => some [x]
  | .agg xs => if xs.length = 1 then none else some xs
  | .tup _ => none

def step1 (E : Env) (h : Heap) : AK → Option (Option AV × Heap)
  | .mv x => (ev E x).map fun v => (some v, h)
  | .pick c a b => match evS E c with
    | some (.bool t) => if t = true then (ev E a).map fun v => (some v, h) else (ev E b).map fun v => (some v, h)
    | _ => none
  | .bin op x y => (evS E x).bind fun a => (evS E y).bind fun b => (binS op a b).map fun v => (some (.sc v), h)
  | .beq neg x y => match evS E x, evS E y with
    | some (.bool a), some (.bool b) => some (some (.sc (.bool (if neg then !(a == b) else a == b))), h)
    | _, _ => none
  | .isnil kd neg x => (evS E x).bind fun v => (nilS kd v).map fun b => (some (.sc (.bool (if neg then !b else b))), h)
  | .un op x => (evS E x).bind fun a => (unS op a).map fun v => (some (.sc v), h)
  | .conv k x => match evS E x with
    | some (.int _ n) => some (some (.sc (wrapI k n)), h)
    | _ => none
  | .len str x => (evS E x).bind fun a => (lenS str a).map fun n => (some (.sc (.int .i64 n)), h)
  | .mm mx x ys => (evS E x).bind fun a => (evSs E ys).bind fun bs => (mmL mx a bs).map fun v => (some (.sc v), h)
  | .idxA esz x i => match evS E x, evS E i with
    | some (.slc id off n _), some (.int _ j) => if 0 ≤ j ∧ j < n then some (some (.sc (.ptr id (off + j.toNat * esz))), h) else none
    | _, _ => none
  | .idxP n esz x i => match evS E x, evS E i with
    | some (.ptr id off), some (.int _ j) => if 0 ≤ j ∧ j < n then some (some (.sc (.ptr id (off + j.toNat * esz))), h) else none
    | _, _ => none
  | .idxS x i => match evS E x, evS E i with
    | some (.str s), some (.int _ j) => if 0 ≤ j then (s[j.toNat]?).map fun b => (some (.sc (.int .u8 b.toNat)), h) else none
    | _, _ => none
  | .idxG n esz agg x i => match ev E x, evS E i with
    | some (.agg cs), some (.int _ j) => if 0 ≤ j ∧ j < n then (cut cs (j.toNat * esz) esz).bind fun vs => (cellsAV agg vs).map fun v => (some v, h) else none
    | _, _ => none
  | .fldA off x => match evS E x with
    | some (.ptr id o) => some (some (.sc (.ptr id (o + off))), h)
    | _ => none
  | .fld off size agg x => match ev E x with
    | some (.agg cs) => (cut cs off size).bind fun vs => (cellsAV agg vs).map fun v => (some v, h)
    | _ => none
  | .ld n agg x => match evS E x with
    | some (.ptr id off) => (readN h id off n).bind fun vs => (cellsAV agg vs).map fun v => (some v, h)
    | _ => none
  | .st n a x => match evS E a with
    | some (.ptr id off) => (ev E x).bind fun v => v.cells.bind fun vs => if vs.length = n then (writeN h id off vs).map fun h' => (none, h') else none
    | _ => none
  | .new zero => some (some (.sc (.ptr h.length 0)), h ++ [.cells zero true 0])
  | .box x => (ev E x).bind fun v => v.cells.map fun vs => (some (.sc (.ptr h.length 0)), h ++ [.cells vs true 0])
  | .bld zero parts => (evParts E parts).bind fun ps => (fillA zero ps).map fun cs => (some (.agg cs), h)
  | .bsl esz zero len parts => if len * esz.n ≤ 16777216 then
      (evParts E (parts.map fun p => (p.1 * esz.n, esz.n, p.2))).bind fun ps => (fillA (rep zero len) ps).map fun cs => (some (.sc (.slc h.length 0 len (some len))), h ++ [.cells cs true esz])
    else none
  | .mk esz bytes zero l c => match evS E l, evS E c with
    | some (.int _ n), some (.int _ m) => if 0 ≤ n ∧ n ≤ m ∧ m * (bytes + 1 : Nat) ≤ bigN then
        some (some (.sc (.slc h.length 0 n.toNat (some m.toNat))), h ++ [.cells (rep zero m.toNat) true esz]) else none
    | _, _ => none
  | .sl esz x lo hi => (evS E x).bind fun v => (lenS false v).bind fun n => (bnd E 0 lo).bind fun l => (bnd E n.toNat hi).bind fun u => (sliceS h esz l u v).map fun s => (some (.sc s), h)
  | .slS x lo hi => match evS E x with
    | some (.str s) => (bnd E 0 lo).bind fun l => (bnd E s.size hi).bind fun u => if l ≤ u ∧ u ≤ s.size then some (some (.sc (.str (s.extract l u))), h) else none
    | _ => none
  | .app esz bytes _ x y => (evS E x).bind fun s => (evS E y).bind fun t => (srcCells h esz.n t).bind fun p => (appS h esz bytes s p.1 p.2).map fun r => (some (.sc r.1), r.2)
  | .ext x i => match ev E x with
    | some (.tup xs) => (xs[i]?).map fun p => (some p.av, h)
    | _ => none
  | .mkf f caps => (evSs E caps).bind fun cs => (cs.mapM fun | SV.ptr i o => some (i, o) | _ => none).map fun ps => (some (.sc (.fn f ps)), h)
  | .nilc x => match evS E x with
    | some (.ptr i o) => some (some (.sc (.ptr i o)), h)
    | some (.fn f cs) => some (some (.sc (.fn f cs)), h)
    | _ => none
  | .newT t zero => some (some (.sc (.ptr h.length 0)), h ++ [.cells zero true ⟨0, some t⟩])
  | .aeq neg n x y => match ev E x, ev E y with
    | some (.agg a), some (.agg b) => if a.length = n then (eqInts a b).map fun r => (some (.sc (.bool (if neg then !r else r))), h) else none
    | _, _ => none
  | .peq neg x y => match evS E x, evS E y with
    | some (.ptr i a), some (.ptr j b) => if i = j ∧ a = b then some (some (.sc (.bool (!neg))), h) else none
    | _, _ => none
  | .sl1 x lo hi => (evS E x).bind fun v => (lenS false v).bind fun n => (bnd E 0 lo).bind fun l => (bnd E n.toNat hi).bind fun u => (slice1 l u v).map fun s => (some (.sc s), h)
  | .usd x => match evS E x with
    | some (.slc id off n _) => if 0 < n then some (some (.sc (.ptr id off)), h) else none
    | some .nilS => some (some (.sc .nilP), h)
    | _ => none
  | .ustr t x n => match evS E x, evS E n with
    | some (.ptr id 0), some (.int .i64 m) => match h[id]? with
      | some (.cells cs true z) => if 0 < m ∧ m ≤ 9223372036854775807 ∧ z = ⟨1, some t⟩ then (cut cs 0 m.toNat).bind fun vs => (bytesOf vs).map fun l => (some (.sc (.str ⟨l.toArray⟩)), h.set id (.cells cs false z)) else none
      | _ => none
    | some .nilP, some (.int .i64 m) => if m = 0 then some (some (.sc (.str .empty)), h) else none
    | _, _ => none
  | .cvb x => match evS E x with
    | some (.str s) => some (some (.sc (.slc h.length 0 s.size none)), h ++ [.cells (s.data.toList.map fun b => .int .u8 b.toNat) false 1])
    | _ => none
  | .cbs x => match evS E x with
    | some (.slc id off n _) => if 0 < n then (readN h id off n).bind fun vs => (bytesOf vs).map fun l => (some (.sc (.str ⟨l.toArray⟩)), h) else none
    | _ => none
  | .veq neg x y => match ev E x, ev E y with
    | some (.agg [.int k a, .bool p]), some (.agg [.int j b, .bool q]) => if k = j then some (some (.sc (.bool (if neg then !(a == b && p == q) else (a == b && p == q)))), h) else none
    | _, _ => none
  | .seq2 neg x y => match ev E x, ev E y with
    | some (.agg [.int k a, .int k' p]), some (.agg [.int j b, .int j' q]) => if k = j ∧ k' = j' then some (some (.sc (.bool (if neg then !(a == b && p == q) else (a == b && p == q)))), h) else none
    | _, _ => none
  | .car sb x y c => match evS E x, evS E y, evS E c with
    | some (.int .u64 a), some (.int .u64 b), some (.int .u64 d) => if 0 ≤ a ∧ 0 ≤ b ∧ b < 18446744073709551616 ∧ 0 ≤ d ∧ d ≤ 1 then
        some (some (if sb then .tup [.sc (.int .u64 ((a + 18446744073709551616 - b - d) % 18446744073709551616)), .sc (.int .u64 (if a < b + d then 1 else 0))]
          else .tup [.sc (.int .u64 ((a + b + d) % 18446744073709551616)), .sc (.int .u64 ((a + b + d) / 18446744073709551616))]), h) else none
    | _, _, _ => none
  | .cpy esz x y => match evS E x, evS E y with
    | some (.slc id off d _), some (.slc id2 off2 m _) => if 0 < min m d then (readN h id2 off2 (min m d * esz)).bind fun vs => (writeN h id off vs).map fun h' => (some (.sc (.int .i64 (min m d : Nat))), h') else none
    | _, _ => none
  | .mpM z => if 1000000 ≤ z.n ∧ z.n < 2000000 ∧ z.kw ≠ 0 then some (some (.sc (.mapv h.length)), h ++ [.cells [] true z]) else none
  | .mpL z zero ok x k => match evS E x with
    | some (.mapv id) => match h[id]? with
      | some (.cells cs true e) => if e = z then (ev E k).bind fun kv => (mpOK kv).bind fun ks => (intsOf ks).bind fun ns => if ns.length = z.kw then
          some (some (match findI z cs ns with
            | some j => if ok then .tup [mpPV (entV z cs j), .sc (.bool true)] else mpAV (entV z cs j)
            | none => if ok then .tup [mpPV zero, .sc (.bool false)] else mpAV zero), h) else none
        else none
      | _ => none
    | _ => none
  | .mpU z x k v => match evS E x with
    | some (.mapv id) => match h[id]? with
      | some (.cells cs true e) => if e = z then (ev E k).bind fun kv => (mpOK kv).bind fun ks => (intsOf ks).bind fun ns => (ev E v).bind fun vv => (mpOK vv).bind fun vs => if ns.length = z.kw ∧ vs.length = z.vw then
          some (none, h.set id (.cells (match findI z cs ns with
            | some j => splice cs (j * (z.kw + z.vw) + z.kw) vs
            | none => cs ++ ks ++ vs) true z)) else none
        else none
      | _ => none
    | _ => none
  | .mpR x => match evS E x with
    | some (.mapv id) => match h[id]? with
      | some (.cells cs true z) => some (some (.sc (.itv h.length)), h ++ [.cells [.mapv id, .int .i64 (cs.length / (z.kw + z.vw) : Nat)] true ⟨2000000, none⟩])
      | _ => none
    | _ => none
  | .mpT x => match evS E x with
    | some (.itv it) => match h[it]? with
      | some (.cells (.mapv m :: .int .i64 n :: seen) _ _) => match seen.getLast? with
        | some (.int .i64 i) => match h[m]? with
          | some (.cells cs _ z) => if n = ((cs.length / (z.kw + z.vw) : Nat) : Int) ∧ 0 ≤ i ∧ i.toNat < cs.length / (z.kw + z.vw) then some (some (.tup [mpPV (entK z cs i.toNat), mpPV (entV z cs i.toNat)]), h) else none
          | _ => none
        | _ => none
      | _ => none
    | _ => none
  | .mpN x => match evS E x with
    | some (.mapv id) => match h[id]? with
      | some (.cells cs _ z) => some (some (.sc (.int .i64 (cs.length / (z.kw + z.vw) : Nat))), h)
      | _ => none
    | _ => none
  | .mpX _ => none
  | .mpE z zero x k => match evS E x with
    | some (.mapv id) => match h[id]? with
      | some (.cells cs true e) => if e = z then (ev E k).bind fun kv => (mpOK kv).bind fun ks => (intsOf ks).bind fun ns => if ns.length = z.kw ∧ zero.length = z.vw ∧ cs.length % (z.kw + z.vw) = 0 ∧ 0 < z.kw then
          some (match findI z cs ns with
            | some j => (some (.tup [mpPV (entV z cs j), .sc (.int .i64 (j : Nat))]), h)
            | none => (some (.tup [mpPV zero, .sc (.int .i64 (cs.length / (z.kw + z.vw) : Nat))]), h.set id (.cells (cs ++ ks ++ zero) true z)))
        else none
        else none
      | _ => none
    | _ => none
  | .mpS z x s v => match evS E x, evS E s with
    | some (.mapv id), some (.int .i64 j) => match h[id]? with
      | some (.cells cs true e) => if e = z ∧ 0 ≤ j ∧ j.toNat < cs.length / (z.kw + z.vw) then (ev E v).bind fun vv => (mpOK vv).bind fun vs => if vs.length = z.vw then
          some (none, h.set id (.cells (splice cs (j.toNat * (z.kw + z.vw) + z.kw) vs) true z))
        else none
        else none
      | _ => none
    | _, _ => none
  | .bad => none
  | .call _ _ | .callv _ _ => none

abbrev CF := FuncId → List AV → Heap → Option (AV × Heap)

def opRun (cf : CF) (E : Env) (h : Heap) : AK → Option (Option AV × Heap)
  | .call f args => (evs E args).bind fun vs => (cf f vs h).map fun r => (some r.1, r.2)
  | .callv x args => match evS E x with
    | some (.fn f caps) => (evs E args).bind fun vs => (cf f (vs ++ caps.map fun p => AV.sc (.ptr p.1 p.2)) h).map fun r => (some r.1, r.2)
    | _ => none
  | k => step1 E h k

def bindE (d : Option Nat) (v : Option AV) (E : Env) : Env :=
  match d with
  | some t => (t, v) :: E
  | none => E

/-- Is the operation wanted? -/
def wants (E : Env) : Option (Nat × Bool) → Option Bool
  | none => some true
  | some (t, b) => match E.get t with
    | some (.sc (.bool c)) => some (c == b)
    | some (.tup []) => some false
    | _ => none

def runOp (cf : CF) (o : AOp) (E : Env) (h : Heap) : Option (Env × Heap) :=
  match wants E o.guard with
  | some true => (opRun cf E h o.k).map fun r => (bindE o.dst r.1 E, r.2)
  | some false => some (bindE o.dst (some (.tup [])) E, h)
  | none => none

def runOps (cf : CF) : List AOp → Env → Heap → Option (Env × Heap)
  | [], E, h => some (E, h)
  | o :: r, E, h => match runOp cf o E h with
    | some (E', h') => runOps cf r E' h'
    | none => none

/-- In a region whose order is open: an operation that changes what was there must be ordered against all others that touch memory. -/
def runOpsD (cf : CF) : List (AOp × Bool) → Env → Heap → Option (Env × Heap)
  | [], E, h => some (E, h)
  | (o, ord) :: r, E, h => match runOp cf o E h with
    | some (E', h') => if ord || h'.take h.length == h then runOpsD cf r E' h' else none
    | none => none

/-- The block that an operation loads from. -/
def ldAt (E : Env) : AK → Option Nat
  | .ld _ _ x => match evS E x with
    | some (.ptr id _) => some id
    | _ => none
  | .sl _ x _ _ => match evS E x with
    | some (.slc id _ _ _) => some id
    | _ => none
  | _ => none
/-- .. unless its mark says that it is ordered against all changes. -/
def ldX (E : Env) (ord : Bool) (k : AK) : Option Nat := if ord then none else ldAt E k
def ldOk (S : List Nat) : Option Nat → Bool
  | some id => S.contains id
  | none => true
def ldL : Option Nat → List Nat
  | some id => [id]
  | none => []
def ldIds (cf : CF) : List (AOp × Nat × Bool) → Env → Heap → List Nat
  | [], _, _ => []
  | (o, _, ord) :: r, E, h => match runOp cf o E h with
    | some (E', h') => ldL (ldX E ord o.k) ++ ldIds cf r E' h'
    | none => []
/-- The blocks that are laid by operations that changes may come before (1000 + i in fr says so of the operation i). -/
def alIds (cf : CF) (fr : List Nat) : List (AOp × Nat × Bool) → Env → Heap → List Nat
  | [], _, _ => []
  | (o, i, _) :: r, E, h => match runOp cf o E h with
    | some (E', h') => (if fr.contains (1000 + i) then List.range' h.length (h'.length - h.length) else []) ++ alIds cf fr r E' h'
    | none => []
/-- .. in a region whose loads all read blocks that stay as they are (but for the operations fr, which come after all loads). -/
def runOpsS (cf : CF) (S A fr : List Nat) : List (AOp × Nat × Bool) → Env → Heap → Option (Env × Heap)
  | [], E, h => some (E, h)
  | (o, i, ord) :: r, E, h => match runOp cf o E h with
    | some (E', h') => if (ord || h'.take h.length == h) && ((fr.contains i || (S.all (fun id => h'[id]? == h[id]?) && A.all (fun id => decide (h.length ≤ id) || h'[id]? == h[id]?))) && ldOk S (ldX E ord o.k)) then runOpsS cf S A fr r E' h' else none
    | none => none

inductive Ex where
  | nm
  | ex (id : Nat)
  | rt
  deriving DecidableEq

inductive AC where
  | skip
  | ret
  | exit (id : Nat)
  | reg (ops : List AOp) (keep : List Nat)
  | regd (ops : List (AOp × Nat × Bool)) (keep : List Nat)
  | regs (ops : List (AOp × Nat × Bool)) (fr keep : List Nat)
  | seq (a b : AC)
  | cond (c : AO) (a b : AC)
  | block (id : Nat) (a : AC)
  | loop (keep : List Nat) (a : AC)
  | scope (a : AC)

abbrev Out := Option (Ex × Env × Heap)

def iter (keep : List Nat) (step : Env → Heap → Out) : Nat → Env → Heap → Out
  | 0, _, _ => none
  | n + 1, E, h => match step (E.keep keep) h with
    | some (.nm, E', h') => iter keep step n E' h'
    | r => r

def exec (cf : CF) (n : Nat) : AC → Env → Heap → Out
  | .skip, E, h => some (.nm, E, h)
  | .ret, E, h => some (.rt, E, h)
  | .exit id, E, h => some (.ex id, E, h)
  | .reg ops keep, E, h => (runOps cf ops E h).map fun r => (.nm, r.1.keep keep, r.2)
  | .regd ops keep, E, h => (runOpsD cf (ops.map fun p => (p.1, p.2.2)) E h).map fun r => (.nm, r.1.keep keep, r.2)
  | .regs ops fr keep, E, h => (runOpsS cf (ldIds cf ops E h) (alIds cf fr ops E h) fr ops E h).map fun r => (.nm, r.1.keep keep, r.2)
  | .seq a b, E, h => match exec cf n a E h with
    | some (.nm, E', h') => exec cf n b E' h'
    | r => r
  | .cond c a b, E, h => match evS E c with
    | some (.bool t) => if t = true then exec cf n a E h else exec cf n b E h
    | _ => none
  | .block id a, E, h => match exec cf n a E h with
    | some (.ex i, E', h') => if i = id then some (.nm, E', h') else some (.ex i, E', h')
    | r => r
  | .loop keep a, E, h => iter keep (exec cf n a) n E h
  | .scope a, E, h => exec cf n a E h

inductive ARes where
  | t (n : Nat)
  | cell (a n : Nat) (agg : Bool)

def resOne (E : Env) (h : Heap) : ARes → Option PV
  | .t n => (E.get n).bind AV.pv
  | .cell a n agg => match E.get a with
    | some (.sc (.ptr id off)) => (readN h id off n).bind fun vs => (cellsAV agg vs).bind AV.pv
    | _ => none

def resAll (E : Env) (h : Heap) : List ARes → Option (List PV)
  | [] => some []
  | r :: rs => (resOne E h r).bind fun v => (resAll E h rs).map (v :: ·)

def resultsA (rs : List ARes) (E : Env) (h : Heap) : Option AV :=
  match rs with
  | [r] => (resOne E h r).map PV.av
  | rs => (resAll E h rs).map AV.tup

def params (n : Nat) : List AV → Env
  | [] => []
  | v :: r => (n, some v) :: params (n + 1) r

structure AFun where
  np : Nat
  body : AC
  res : List ARes

/-- A function that is not reckoned from its code, but known by a contract. -/
abbrev Hook := List AV → Heap → Option (AV × Heap)

def finish (F : AFun) : Out → Option (AV × Heap)
  | some (.nm, E, h') => (resultsA F.res E h').map fun v => (v, h')
  | some (.rt, E, h') => (resultsA F.res E h').map fun v => (v, h')
  | _ => none

def callA (FT : FuncId → Option AFun) (HK : FuncId → Option Hook) : Nat → CF
  | 0 => fun _ _ _ => none
  | n + 1 => fun f args h =>
    match HK f with
    | some g => g args h
    | none =>
      match FT f with
      | none => none
      | some F => if args.length = F.np then finish F (exec (callA FT HK n) n F.body (params 0 args) h) else none

end Go.Ab


/- The relation between the abstract heap and the worlds of the model. -/
namespace Go.Ab

/-- Two lists, place by place. -/
inductive F2 {α β : Type} (R : α → β → Prop) : List α → List β → Prop
  | nil : F2 R [] []
  | cons {a b l m} : R a b → F2 R l m → F2 R (a :: l) (b :: m)

namespace F2
variable {α β : Type} {R R' : α → β → Prop}

theorem length {l : List α} {m : List β} (h : F2 R l m) : l.length = m.length := by
  induction h with
  | nil => rfl
  | cons _ _ ih => simp [ih]

theorem mono {l : List α} {m : List β} (hr : ∀ a b, R a b → R' a b) (h : F2 R l m) : F2 R' l m := by
  induction h with
  | nil => exact .nil
  | cons a _ ih => exact .cons (hr _ _ a) ih

theorem append {l l' : List α} {m m' : List β} (h : F2 R l m) (h' : F2 R l' m') : F2 R (l ++ l') (m ++ m') := by
  induction h with
  | nil => simpa using h'
  | cons a _ ih => exact .cons a ih

theorem get {l : List α} {m : List β} (h : F2 R l m) : ∀ {i : Nat} {a : α}, l[i]? = some a → ∃ b, m[i]? = some b ∧ R a b := by
  induction h with
  | nil => intro i a h; simp at h
  | cons r _ ih =>
    intro i a h
    cases i with
    | zero => simp at h; subst h; exact ⟨_, rfl, r⟩
    | succ i => simpa using ih (by simpa using h)

theorem get' {l : List α} {m : List β} (h : F2 R l m) : ∀ {i : Nat} {b : β}, m[i]? = some b → ∃ a, l[i]? = some a ∧ R a b := by
  induction h with
  | nil => intro i a h; simp at h
  | cons r _ ih =>
    intro i a h
    cases i with
    | zero => simp at h; subst h; exact ⟨_, rfl, r⟩
    | succ i => simpa using ih (by simpa using h)

theorem of_get : ∀ {l : List α} {m : List β}, l.length = m.length → (∀ (i : Nat) (a : α) (b : β), l[i]? = some a → m[i]? = some b → R a b) → F2 R l m
  | [], [], _, _ => .nil
  | a :: l, b :: m, hl, h => .cons (h 0 a b rfl rfl) (of_get (by simpa using hl) fun i x y hx hy => h (i + 1) x y (by simpa using hx) (by simpa using hy))
  | [], _ :: _, hl, _ => by simp at hl
  | _ :: _, [], hl, _ => by simp at hl

theorem take {l : List α} {m : List β} (h : F2 R l m) (n : Nat) : F2 R (l.take n) (m.take n) := by
  induction h generalizing n with
  | nil => simp; exact .nil
  | cons r _ ih => cases n with
    | zero => simp; exact .nil
    | succ n => simpa using .cons r (ih n)

theorem drop {l : List α} {m : List β} (h : F2 R l m) (n : Nat) : F2 R (l.drop n) (m.drop n) := by
  induction h generalizing n with
  | nil => simp; exact .nil
  | cons r t ih => cases n with
    | zero => simpa using .cons r t
    | succ n => simpa using ih n
end F2

structure Loc where
  b : Nat
  base : Nat
  sz : Nat
  esz : ESz

abbrev Bt := Nat → Option Loc

def Bt.le (β β' : Bt) : Prop := ∀ id L, β id = some L → β' id = some L

def CapR (β : Bt) (p : Nat × Nat) (v : Value) : Prop := ∃ L, β p.1 = some L ∧ L.esz.n < 1000000 ∧ v = .pointer (some ⟨L.b, L.base + p.2, none⟩)

inductive SRel (β : Bt) : SV → Value → Prop
  | bool (b) : SRel β (.bool b) (.bool b)
  | int (k n) : SRel β (.int k n) (.int k n)
  | str (s) : SRel β (.str s) (.string s)
  | ptr {id off L} (h : β id = some L) (hn : L.esz.n < 1000000) : SRel β (.ptr id off) (.pointer (some ⟨L.b, L.base + off, none⟩))
  | nilP : SRel β .nilP (.pointer none)
  | nilM : SRel β .nilM (.map none)
  | slc {id off len cap L c} {ad : Addr} (h : β id = some L) (hc : ∀ k, cap = some k → c = k) (hl : len ≤ c)
      (ho : 0 < c → ad = ⟨L.b, L.base + off, none⟩) (hb : 0 < c → 1 ≤ L.esz.n ∧ L.base + off + c * L.esz.n ≤ L.sz) (hn : L.esz.n < 1000000) : SRel β (.slc id off len cap) (.slice (some ad) len c)
  | nilS : SRel β .nilS (.slice none 0 0)
  | fn {f caps vs} (h : F2 (CapR β) caps vs) : SRel β (.fn f caps) (.func (.func f) #[] vs.toArray)
  | nilF : SRel β .nilF .nilFunc
  | nilI : SRel β .nilI .nilIface
  | ifc (t v) : SRel β .ifc (.iface t v)
  | mapv {id L} (h : β id = some L) (hn : 1000000 ≤ L.esz.n ∧ L.esz.n < 2000000) : SRel β (.mapv id) (.map (some L.b))
  | itv {id L} (h : β id = some L) (hn : 2000000 ≤ L.esz.n) : SRel β (.itv id) (.pointer (some ⟨L.b, 0, none⟩))

theorem SRel.mono {β β' : Bt} (hb : β.le β') {x : SV} {v : Value} (h : SRel β x v) : SRel β' x v := by
  cases h with
  | bool b => exact .bool b
  | int k n => exact .int k n
  | str s => exact .str s
  | ptr h hn => exact .ptr (hb _ _ h) hn
  | mapv h hn => exact .mapv (hb _ _ h) hn
  | itv h hn => exact .itv (hb _ _ h) hn
  | nilP => exact .nilP
  | nilM => exact .nilM
  | slc h hc hl ho hb' hn => exact .slc (hb _ _ h) hc hl ho hb' hn
  | nilS => exact .nilS
  | fn h => exact .fn (h.mono fun p v ⟨L, h1, h2⟩ => ⟨L, hb _ _ h1, h2⟩)
  | nilF => exact .nilF
  | nilI => exact .nilI
  | ifc t v => exact .ifc t v

theorem SRel.one {β : Bt} {x : SV} {v : Value} (h : SRel β x v) : v.oneCell' = true := by cases h <;> rfl
theorem SRel.cells {β : Bt} {x : SV} {v : Value} (h : SRel β x v) : v.cells = #[v] := by cases h <;> rfl

inductive PRel (β : Bt) : PV → Value → Prop
  | sc {x v} (h : SRel β x v) : PRel β (.sc x) v
  | agg {xs vs} (h : F2 (SRel β) xs vs) : PRel β (.agg xs) (.agg vs.toArray)

inductive ARel (β : Bt) : AV → Value → Prop
  | sc {x v} (h : SRel β x v) : ARel β (.sc x) v
  | agg {xs vs} (h : F2 (SRel β) xs vs) : ARel β (.agg xs) (.agg vs.toArray)
  | tup {xs vs} (h : F2 (PRel β) xs vs) : ARel β (.tup xs) (.tuple vs.toArray)

theorem PRel.mono {β β' : Bt} (hb : β.le β') {x : PV} {v : Value} (h : PRel β x v) : PRel β' x v := by
  cases h with
  | sc h => exact .sc (h.mono hb)
  | agg h => exact .agg (h.mono fun _ _ => SRel.mono hb)

theorem ARel.mono {β β' : Bt} (hb : β.le β') {x : AV} {v : Value} (h : ARel β x v) : ARel β' x v := by
  cases h with
  | sc h => exact .sc (h.mono hb)
  | agg h => exact .agg (h.mono fun _ _ => SRel.mono hb)
  | tup h => exact .tup (h.mono fun _ _ => PRel.mono hb)

theorem PRel.av {β : Bt} {x : PV} {v : Value} (h : PRel β x v) : ARel β x.av v := by
  cases h with
  | sc h => exact .sc h
  | agg h => exact .agg h

theorem ARel.pv {β : Bt} {x : AV} {p : PV} {v : Value} (h : ARel β x v) (hp : x.pv = some p) : PRel β p v := by
  cases h with
  | sc h => simp [AV.pv] at hp; subst hp; exact .sc h
  | agg h => simp [AV.pv] at hp; subst hp; exact .agg h
  | tup h => simp [AV.pv] at hp

theorem ARel.cells {β : Bt} {x : AV} {v : Value} {cs : List SV} (h : ARel β x v) (hc : x.cells = some cs) : ∃ vs, v.cells = vs.toArray ∧ F2 (SRel β) cs vs := by
  cases h with
  | sc h => simp [AV.cells] at hc; subst hc; exact ⟨[v], by rw [h.cells], .cons h .nil⟩
  | agg h => simp [AV.cells] at hc; subst hc; exact ⟨_, rfl, h⟩
  | tup h => simp [AV.cells] at hc

/-- The frame. -/
def ERel (β : Bt) (E : Env) (tmps : Array Value) : Prop := ∀ t v, E.get t = some v → ∃ c, tmps[t]? = some c ∧ ARel β v c

theorem ERel.mono {β β' : Bt} (hb : β.le β') {E : Env} {tmps : Array Value} (h : ERel β E tmps) : ERel β' E tmps :=
  fun t v ht => let ⟨c, h1, h2⟩ := h t v ht; ⟨c, h1, h2.mono hb⟩

theorem Env.get_keep (E : Env) (t : Nat) (v : AV) : ∀ ks : List Nat, Env.get (E.keep ks) t = some v → E.get t = some v
  | [], h => by simp [Env.keep, Env.get] at h
  | k :: ks, h => by
    simp only [Env.keep, List.map_cons, Env.get] at h
    split at h
    · rename_i hk; subst hk; exact h
    · exact Env.get_keep E t v ks h

theorem ERel.keep {β : Bt} {E : Env} {tmps : Array Value} (h : ERel β E tmps) (ks : List Nat) : ERel β (E.keep ks) tmps :=
  fun t v ht => h t v (Env.get_keep E t v ks ht)

theorem ERel.bind {β : Bt} {E : Env} {tmps : Array Value} (h : ERel β E tmps) (d : Option Nat) (v : Option AV) (c : Value) (hd : ∀ t, d = some t → t < tmps.size)
    (hv : ∀ u, v = some u → ARel β u c) (a : List Deferred) : ERel β (bindE d v E) (Act.put ⟨tmps, a⟩ d c).tmps := by
  cases d with
  | none => exact h
  | some t =>
    intro s u hs
    simp only [bindE, Env.get] at hs
    simp only [Act.put, Array.getElem?_setIfInBounds]
    split at hs
    · rename_i hts
      subst hts
      rw [if_pos rfl, if_pos (hd _ rfl)]
      exact ⟨_, rfl, hv _ hs⟩
    · rename_i hts
      rw [if_neg hts]
      exact h s u hs

/-- The type that is told is the block's. -/
def TyOk (esz : ESz) (e : TypeId) : Prop := ∀ t, esz.ty = some t → e = t
/-- Where a type is told the block is known from its begin on, an object wholly. -/
def TyFull (esz : ESz) (L : Loc) (cs : List SV) : Prop := ∀ t, esz.ty = some t → L.base = 0 ∧ (esz.n = 0 → cs.length = L.sz)
/-- A world from which all came: what lay below B then lies there still. -/
class Base where
  B : Nat
  W : World
/-- Cells that are one value: one cell, or several. -/
def VRel (β : Bt) (xs : List SV) (v : Value) : Prop := (∃ x, xs = [x] ∧ SRel β x v) ∨ (xs.length ≠ 1 ∧ ∃ vs, v = .agg vs.toArray ∧ F2 (SRel β) xs vs)
theorem VRel.mono {β β' : Bt} (hb : β.le β') {xs : List SV} {v : Value} (h : VRel β xs v) : VRel β' xs v := by
  rcases h with ⟨x, h1, h2⟩ | ⟨h0, vs, h1, h2⟩
  · exact .inl ⟨x, h1, h2.mono hb⟩
  · exact .inr ⟨h0, vs, h1, h2.mono fun _ _ => SRel.mono hb⟩
/-- A map. -/
def BMap (β : Bt) (w : World) (L : Loc) (cs : List SV) (z : ESz) : Prop :=
  ∃ es : Array MapEntry, w.heap[L.b]? = some (.map es es.size) ∧ cs.length = es.size * (z.kw + z.vw) ∧ z.kw ≠ 0 ∧ (∀ (i : Nat) (e : MapEntry), es[i]? = some e → e.born = i ∧ VRel β (entK z cs i) e.key ∧ VRel β (entV z cs i) e.val) ∧
    ∀ i, i < es.size → ∃ ns : List Int, entK z cs i = ns.map (.int .i64)
/-- Places, as values. -/
def seenV (l : List Nat) : List SV := l.map fun i => .int .i64 (i : Nat)
/-- An iterator: its map, how many entries that one had, which were seen. -/
def BIter (β : Bt) (w : World) (L : Loc) (cs : List SV) : Prop :=
  ∃ (m : Nat) (M : Loc) (n last : Nat) (seen : List Nat), cs = .mapv m :: .int .i64 (n : Nat) :: seenV seen ∧ (1000000 ≤ M.esz.n ∧ M.esz.n < 2000000) ∧ β m = some M ∧ w.heap[L.b]? = some (.mapIter (some M.b) n seen.toArray last) ∧ last = n
theorem BMap.mono {β β' : Bt} {w w' : World} {L : Loc} {cs : List SV} {z : ESz} (hb : β.le β') (hw : w'.heap[L.b]? = w.heap[L.b]?) (h : BMap β w L cs z) : BMap β' w' L cs z := by
  obtain ⟨es, k1, k2, k3, k4, k5⟩ := h
  exact ⟨es, hw.trans k1, k2, k3, fun i e he => ⟨(k4 i e he).1, (k4 i e he).2.1.mono hb, (k4 i e he).2.2.mono hb⟩, k5⟩
/-- A block that is no row of cells. -/
def BOdd [Base] (β : Bt) (w : World) (L : Loc) (cs : List SV) (rw : Bool) (esz : ESz) : Prop :=
  L.esz = esz ∧ ((esz.n < 2000000 ∧ BMap β w L cs esz) ∨ (2000000 ≤ esz.n ∧ BIter β w L cs)) ∧ (rw = true → Base.B ≤ L.b)
/-- A row of cells. -/
def BCell [Base] (β : Bt) (w : World) (L : Loc) (cs : List SV) (rw : Bool) (esz : ESz) : Prop :=
  L.esz = esz ∧ ∃ ccs e fz, w.heap[L.b]? = some (.cells ccs e fz) ∧ ccs.size = L.sz ∧ L.base + cs.length ≤ L.sz ∧
    (∀ i v, cs[i]? = some v → ∃ c, ccs[L.base + i]? = some c ∧ SRel β v c) ∧ (rw = true → fz = (0, 0)) ∧ TyOk esz e ∧ TyFull esz L cs ∧ (rw = true → Base.B ≤ L.b)

/-- A block. -/
def BRel [Base] (β : Bt) (w : World) (L : Loc) (cs : List SV) (rw : Bool) (esz : ESz) : Prop :=
  (esz.n < 1000000 ∧ BCell β w L cs rw esz) ∨ (1000000 ≤ esz.n ∧ BOdd β w L cs rw esz)
theorem BRel.cell [Base] {β : Bt} {w : World} {L : Loc} {cs : List SV} {rw : Bool} {esz : ESz} (h : BRel β w L cs rw esz) (hn : L.esz.n < 1000000) : BCell β w L cs rw esz := by
  rcases h with h | h
  · exact h.2
  · have := h.2.1
    rw [← this] at h
    omega

structure Rep [Base] (β : Bt) (h : Heap) (w : World) : Prop where
  sz : ∀ id b L, h[id]? = some b → β id = some L → L.esz = b.esz
  blk : ∀ id L cs rw esz, h[id]? = some (.cells cs rw esz) → β id = some L → BRel β w L cs rw esz
  exc : ∀ i j L M cs esz cs' rw' esz', h[i]? = some (.cells cs true esz) → h[j]? = some (.cells cs' rw' esz') → i ≠ j → β i = some L → β j = some M → L.b ≠ M.b
  keep : Base.B ≤ w.heap.size ∧ ∀ b, b < Base.B → w.heap[b]? = Base.W.heap[b]?

def owned (β : Bt) (h : Heap) (b : Nat) : Prop := ∃ id L cs esz, h[id]? = some (.cells cs true esz) ∧ β id = some L ∧ L.b = b

structure Stp (β : Bt) (h : Heap) (w : World) (β' : Bt) (h' : Heap) (w' : World) : Prop where
  ext : β.le β'
  dom : ∀ id L, β' id = some L → β id = some L ∨ (h.length ≤ id ∧ id < h'.length)
  full : ∀ id, h.length ≤ id → id < h'.length → ∃ L, β' id = some L
  len : h.length ≤ h'.length
  own : ∀ b, owned β' h' b → w.heap.size ≤ b ∨ owned β h b
  new : ∀ id L, β' id = some L → β id = none → w.heap.size ≤ L.b ∨ owned β h L.b
  frame : ∀ b, b < w.heap.size → ¬ owned β h b → w'.heap[b]? = w.heap[b]?
  size : w.heap.size ≤ w'.heap.size
  os : w'.os = w.os
  tape : w'.tape = w.tape
  output : w'.output = w.output

theorem Stp.refl (β : Bt) (h : Heap) (w : World) : Stp β h w β h w :=
  ⟨fun _ _ h => h, fun _ _ h => .inl h, fun id h1 h2 => by omega, Nat.le_refl _, fun _ h => .inr h, fun id L h1 h2 => by rw [h1] at h2; simp at h2, fun _ _ _ => rfl, Nat.le_refl _, rfl, rfl, rfl⟩

theorem Stp.trans {β h w β1 h1 w1 β2 h2 w2} (a : Stp β h w β1 h1 w1) (b : Stp β1 h1 w1 β2 h2 w2) : Stp β h w β2 h2 w2 where
  ext := fun id L hl => b.ext _ _ (a.ext _ _ hl)
  dom := fun id L hl => by
    rcases b.dom id L hl with h' | h'
    · rcases a.dom id L h' with h'' | h''
      · exact .inl h''
      · have := b.len; exact .inr ⟨h''.1, by omega⟩
    · have := a.len; exact .inr ⟨by omega, h'.2⟩
  full := fun id h1' h2' => by
    by_cases hlt : id < h1.length
    · obtain ⟨L, hL⟩ := a.full id h1' hlt
      exact ⟨L, b.ext _ _ hL⟩
    · exact b.full id (by omega) h2'
  len := Nat.le_trans a.len b.len
  own := fun x hx => by
    rcases b.own x hx with h' | h'
    · exact .inl (Nat.le_trans a.size h')
    · exact a.own x h'
  new := fun id L h1' h2' => by
    cases hb : β1 id with
    | none =>
      rcases b.new id L h1' hb with h' | h'
      · exact .inl (Nat.le_trans a.size h')
      · exact a.own _ h'
    | some M =>
      have := b.ext _ _ hb
      rw [h1'] at this
      simp at this
      subst this
      exact a.new id L hb h2'
  frame := fun x hx hn => by
    rw [b.frame x (Nat.lt_of_lt_of_le hx a.size) (fun ho => by
      rcases a.own x ho with h' | h'
      · omega
      · exact hn h'), a.frame x hx hn]
  size := Nat.le_trans a.size b.size
  os := b.os.trans a.os
  tape := b.tape.trans a.tape
  output := b.output.trans a.output

theorem Stp.drawn {β h w β1 h1 w1} (a : Stp β h w β1 h1 w1) (n : Nat) : Stp β h { w with drawn := n } β1 h1 w1 :=
  ⟨a.ext, a.dom, a.full, a.len, a.own, a.new, a.frame, a.size, a.os, a.tape, a.output⟩

theorem Rep.drawn [Base] {β h w} (a : Rep β h w) (n : Nat) : Rep β h { w with drawn := n } := ⟨a.sz, a.blk, a.exc, a.keep⟩

theorem BRel.low [Base] {β w L cs rw esz} (h : BRel β w L cs rw esz) : rw = true → Base.B ≤ L.b := by
  rcases h with ⟨_, _, _, _, _, _, _, _, _, _, _, _, h⟩ | ⟨_, _, _, h⟩ <;> exact h
theorem BRel.lt [Base] {β w L cs rw esz} (h : BRel β w L cs rw esz) : L.b < w.heap.size := by
  rcases h with ⟨_, _, _, _, _, h, _⟩ | ⟨_, _, ⟨_, _, h, _⟩ | ⟨_, _, _, _, _, _, _, _, _, h, _⟩, _⟩
  all_goals exact (Array.getElem?_eq_some_iff.1 h).1

end Go.Ab

