/- When an annotated operation agrees with an operation of the program. -/
import Derived.Test.YtadelcikpkhclaaDoorAb2
namespace Go.Ab

def okSV : SV → Value → Bool
  | .bool a, .bool b => a == b
  | .int k n, .int j m => decide (k = j) && decide (n = m)
  | .str s, .string t => decide (s = t)
  | .nilP, .pointer none => true
  | .nilS, .slice none 0 0 => true
  | .nilF, .nilFunc => true
  | .nilI, .nilIface => true
  | _, _ => false

def okCells : List SV → List Value → Bool
  | [], [] => true
  | x :: xs, v :: vs => okSV x v && okCells xs vs
  | _, _ => false

def okAV : AV → Value → Bool
  | .agg xs, .agg vs => okCells xs vs.toList
  | .sc x, v => okSV x v
  | _, _ => false

def okO : AO → Operand → Bool
  | .t n, .tmp m => decide (n = m)
  | .k v, .const c => okAV v c
  | .k (.sc (.fn f [])), .func g => decide (f = g)
  | _, _ => false

def okOs : List AO → List Operand → Bool
  | [], [] => true
  | x :: xs, v :: vs => okO x v && okOs xs vs
  | _, _ => false

theorem okSV_rel {β : Bt} {x : SV} {v : Value} (h : okSV x v = true) : SRel β x v := by
  unfold okSV at h
  split at h <;> simp at h
  · subst h; exact .bool _
  · obtain ⟨rfl, rfl⟩ := h; exact .int _ _
  · subst h; exact .str _
  · exact .nilP
  · exact .nilS
  · exact .nilF
  · exact .nilI

theorem okCells_rel {β : Bt} : ∀ {xs : List SV} {vs : List Value}, okCells xs vs = true → F2 (SRel β) xs vs
  | [], [], _ => .nil
  | x :: xs, v :: vs, h => by
    simp [okCells] at h
    exact .cons (okSV_rel h.1) (okCells_rel h.2)
  | [], _ :: _, h => by simp [okCells] at h
  | _ :: _, [], h => by simp [okCells] at h

theorem okAV_rel {β : Bt} {x : AV} {v : Value} (h : okAV x v = true) : ARel β x v := by
  unfold okAV at h
  split at h
  · rename_i xs vs
    have := okCells_rel (β := β) h
    exact .agg (vs := vs.toList) this
  · exact .sc (okSV_rel h)
  · simp at h

theorem ev_rel {β : Bt} {E : Env} {a : Act} {x : AO} {o : Operand} {v : AV} (h : okO x o = true) (hE : ERel β E a.tmps) (hv : ev E x = some v) : ARel β v (a.eval o) := by
  unfold okO at h
  split at h
  · simp at h; subst h
    obtain ⟨c, h1, h2⟩ := hE _ _ hv
    simp [Act.eval, Array.getD_eq_getD_getElem?, h1]
    exact h2
  · simp [ev] at hv; subst hv; exact okAV_rel h
  · simp at h; subst h
    simp [ev] at hv; subst hv
    exact .sc (.fn (vs := []) .nil)
  · simp at h

theorem evS_rel {β : Bt} {E : Env} {a : Act} {x : AO} {o : Operand} {v : SV} (h : okO x o = true) (hE : ERel β E a.tmps) (hv : evS E x = some v) : SRel β v (a.eval o) := by
  unfold evS at hv
  split at hv
  · rename_i u hu
    simp at hv; subst hv
    have := ev_rel h hE hu
    cases this with | sc h => exact h
  · simp at hv

theorem evs_rel {β : Bt} {E : Env} {a : Act} (hE : ERel β E a.tmps) : ∀ {xs : List AO} {os : List Operand} {vs : List AV}, okOs xs os = true → evs E xs = some vs → F2 (ARel β) vs (os.map a.eval)
  | [], [], vs, _, hv => by simp [evs] at hv; subst hv; exact .nil
  | x :: xs, o :: os, vs, h, hv => by
    simp [okOs] at h
    simp only [evs, Option.bind_eq_some_iff, Option.map_eq_some_iff] at hv
    obtain ⟨v, h1, r, h2, rfl⟩ := hv
    exact .cons (ev_rel h.1 hE h1) (evs_rel hE h.2 h2)
  | [], _ :: _, _, h, _ => by simp [okOs] at h
  | _ :: _, [], _, h, _ => by simp [okOs] at h

theorem evSs_rel {β : Bt} {E : Env} {a : Act} (hE : ERel β E a.tmps) : ∀ {xs : List AO} {os : List Operand} {vs : List SV}, okOs xs os = true → evSs E xs = some vs → F2 (SRel β) vs (os.map a.eval)
  | [], [], vs, _, hv => by simp [evSs] at hv; subst hv; exact .nil
  | x :: xs, o :: os, vs, h, hv => by
    simp [okOs] at h
    simp only [evSs, Option.bind_eq_some_iff, Option.map_eq_some_iff] at hv
    obtain ⟨v, h1, r, h2, rfl⟩ := hv
    exact .cons (evS_rel h.1 hE h1) (evSs_rel hE h.2 h2)
  | [], _ :: _, _, h, _ => by simp [okOs] at h
  | _ :: _, [], _, h, _ => by simp [okOs] at h

section types
variable (P : Program)

def szIs (t : TypeId) (n : Nat) : Bool := match P.info? t with
  | some i => decide (i.size = n)
  | none => false
def byIs (t : TypeId) (n : Nat) : Bool := match P.info? t with
  | some i => decide (i.bytes = n)
  | none => false
def zeroIs (t : TypeId) (cs : List SV) : Bool := match P.info? t with
  | some i => match i.zero with
    | some z => okCells cs z.cells.toList
    | none => false
  | none => false
def aggIs (t : TypeId) (agg : Bool) : Bool := match P.underlying t with
  | some (.struct _) => agg
  | some (.array _ _) => agg
  | some _ => !agg
  | none => false
def elIs (t : TypeId) (f : TypeId → Bool) : Bool := match P.underlying t with
  | some (.slice e) => f e
  | _ => false
def arIs (t : TypeId) (n : Nat) (f : TypeId → Bool) : Bool := match P.underlying t with
  | some (.array m e) => decide (n = m) && f e
  | _ => false
def strIs (t : TypeId) : Bool := match P.underlying t with
  | some .string => true
  | _ => false
def boolIs (t : TypeId) : Bool := match P.underlying t with
  | some .bool => true
  | _ => false
def intIs (t : TypeId) : Bool := match P.underlying t with
  | some (.int _) => true
  | _ => false
def kdIs (t : TypeId) (kd : Nat) : Bool := match P.underlying t with
  | some (.pointer _) => decide (kd = 0)
  | some (.slice _) => decide (kd = 1)
  | some (.func _ _ _) => decide (kd = 2)
  | some (.interface _) => decide (kd = 3)
  | _ => false
def cvIs (s d : TypeId) (k : IntKind) : Bool := (P.underlying s).isSome && match P.underlying d with
  | some (.int j) => decide (k = j)
  | _ => false
def fdIs (t : TypeId) (f : Nat) (g : Field → Bool) : Bool := match P.underlying t with
  | some (.struct fs) => match fs[f]? with
    | some fd => g fd
    | none => false
  | _ => false
def nilO : Operand → Bool
  | .const (.pointer none) => true
  | .const (.slice none 0 0) => true
  | .const .nilFunc => true
  | .const .nilIface => true
  | _ => false
def nilK (kd : Nat) : Operand → Bool
  | .const (.pointer none) => decide (kd = 0)
  | .const (.slice none 0 0) => decide (kd = 1)
  | .const .nilFunc => decide (kd = 2)
  | .const .nilIface => decide (kd = 3)
  | _ => false
def fnIs (f : FuncId) : Bool := match P.funcs[f]? with
  | some fn => fn.body.isSome && !(fn.name == "runtime.NumGoroutine")
  | none => false
def okOpt : Option AO → Option Operand → Bool
  | none, none => true
  | some x, some o => okO x o
  | _, _ => false
/-- The parts of a struct: field numbers in the program, places here. -/
def okBld (fs : Array Field) : List (Nat × Nat × AO) → List (Nat × Operand) → Bool
  | [], [] => true
  | (o, s, x) :: r, (i, y) :: q => (match fs[i]? with | some fd => decide (fd.offset = o) && szIs P fd.type s | none => false) && okO x y && okBld fs r q
  | _, _ => false
def okFields (fs : Array Field) : Bool := fs.toList.all fun fd => (P.info? fd.type).isSome
def okArr (s : Nat) : List (Nat × Nat × AO) → List (Nat × Operand) → Bool
  | [], [] => true
  | (o, s', x) :: r, (i, y) :: q => decide (o = i * s) && decide (s' = s) && okO x y && okArr s r q
  | _, _ => false
def tyIs (ty : Option Nat) (e : TypeId) : Bool := match ty with
  | none => true
  | some t => decide (e = t)
def eszOk (z : ESz) : Bool := !decide (z.n = 0)
def okSl : List (Nat × AO) → List (Nat × Operand) → Bool
  | [], [] => true
  | (o, x) :: r, (i, y) :: q => decide (o = i) && okO x y && okSl r q
  | _, _ => false

def ptrTo (u t : TypeId) : Bool := match P.underlying u with
  | some (.pointer e) => decide (e = t)
  | _ => false
def ptrIs (t : TypeId) : Bool := match P.underlying t with
  | some (.pointer e) => (P.info? e).isSome
  | _ => false
def okOp : AK → Op → Bool
  | .mv x, .move y => okO x y
  | .mv x, .assign y => okO x y
  | .pick c a b, .pick c' a' b' => okO c c' && okO a a' && okO b b'
  | .bin op x y, .binOp op' _ x' y' _ => decide (op = op') && okO x x' && okO y y'
  | .beq neg x y, .binOp op' t x' y' _ => decide (op' = if neg then .neq else .eql) && okO x x' && okO y y' && boolIs P t
  | .isnil kd neg x, .binOp op' t x' y' _ => decide (op' = if neg then .neq else .eql) && okO x x' && nilK kd y' && kdIs P t kd
  | .un op x, .unOp op' _ x' => decide (op = op') && okO x x'
  | .conv k x, .convert s d x' => okO x x' && cvIs P s d k
  | .len str x, .call c => match c.callee, c.args.toList, c.argTypes.toList with
    | .builtin .len, [x'], [t] => okO x x' && (if str then strIs P t else elIs P t fun _ => true)
    | _, _, _ => false
  | .mm mx x ys, .call c => match c.callee, c.args.toList with
    | .builtin .max, x' :: ys' => mx && okO x x' && okOs ys ys'
    | .builtin .min, x' :: ys' => !mx && okO x x' && okOs ys ys'
    | _, _ => false
  | .idxA esz x i, .indexAddr t x' i' => okO x x' && okO i i' && elIs P t fun e => szIs P e esz
  | .idxP n esz x i, .indexAddr t x' i' => okO x x' && okO i i' && arIs P t n fun e => szIs P e esz
  | .idxS x i, .index t x' i' => okO x x' && okO i i' && strIs P t
  | .idxG n esz agg x i, .index t x' i' => okO x x' && okO i i' && arIs P t n fun e => szIs P e esz && aggIs P e agg
  | .fldA off x, .fieldAddr t x' f => okO x x' && fdIs P t f fun fd => decide (fd.offset = off) && (match P.info? fd.type with | some i => !decide (i.size = 0) | none => false)
  | .fld off size agg x, .field t x' f => okO x x' && fdIs P t f fun fd => decide (fd.offset = off) && szIs P fd.type size && aggIs P fd.type agg
  | .ld n agg x, .load t x' => okO x x' && szIs P t n && aggIs P t agg
  | .st n a x, .store t a' x' => okO a a' && okO x x' && szIs P t n
  | .new zero, .alloc t => zeroIs P t zero
  | .box x, .box _ x' => okO x x'
  | .bld zero parts, .build t parts' => zeroIs P t zero && match P.underlying t with
    | some (.struct fs) => okFields P fs && okBld P fs parts parts'.toList
    | some (.array _ e) => match P.info? e with
      | some i => okArr i.size parts parts'.toList
      | none => false
    | _ => false
  | .bsl esz zero len parts, .buildSlice t len' parts' => decide (len = len') && okSl parts parts'.toList && eszOk esz && elIs P t fun e => szIs P e esz.n && zeroIs P e zero && decide (zero.length = esz.n) && tyIs esz.ty e
  | .mk esz bytes zero l c, .makeSlice t l' c' => okO l l' && okO c c' && eszOk esz && elIs P t fun e => szIs P e esz.n && byIs P e bytes && zeroIs P e zero && decide (zero.length = esz.n) && tyIs esz.ty e
  | .sl esz x lo hi, .slice t x' lo' hi' mx => okO x x' && okOpt lo lo' && okOpt hi hi' && mx.isNone && elIs P t fun e => szIs P e esz.n
  | .slS x lo hi, .slice t x' lo' hi' mx => okO x x' && okOpt lo lo' && okOpt hi hi' && mx.isNone && strIs P t
  | .app esz bytes zero x y, .call c => match c.callee, c.args.toList, c.argTypes.toList with
    | .builtin .append, [x', y'], [t, u] => okO x x' && okO y y' && (P.underlying u).isSome && !intIs P u && eszOk esz && elIs P t fun e => szIs P e esz.n && byIs P e bytes && zeroIs P e zero && decide (zero.length = esz.n) && tyIs esz.ty e
    | _, _, _ => false
  | .call f args, .call c => match c.callee with
    | .value (.func g) => decide (f = g) && okOs args c.args.toList && fnIs P f
    | _ => false
  | .callv x args, .call c => match c.callee with
    | .value x' => okO x x' && okOs args c.args.toList
    | _ => false
  | .ext x i, .extract x' i' => okO x x' && decide (i = i')
  | .mkf f caps, .makeFunc (.func g) first captured => decide (f = g) && first.isEmpty && okOs caps captured.toList
  | .nilc x, .nilCheck x' => okO x x'
  | .newT t zero, .alloc t' => decide (t = t') && zeroIs P t zero
  | .aeq neg n x y, .binOp op' t x' y' _ => decide (op' = if neg then .neq else .eql) && okO x x' && okO y y' && !P.eqGuardType P.depth t && arIs P t n fun e => intIs P e && szIs P e 1
  | .peq neg x y, .binOp op' t x' y' _ => decide (op' = if neg then .neq else .eql) && okO x x' && okO y y' && kdIs P t 0 && ptrIs P t
  | .sl1 x lo hi, .slice t x' lo' hi' mx => okO x x' && okOpt lo lo' && okOpt hi hi' && mx.isNone && elIs P t fun e => szIs P e 1
  | .usd x, .call c => match c.callee, c.args.toList with
    | .builtin .unsafeSliceData, [x'] => okO x x'
    | _, _ => false
  | .ustr t x n, .call c => match c.callee, c.args.toList, c.argTypes.toList with
    | .builtin .unsafeString, [x', n'], [u, _] => okO x x' && okO n n' && ptrTo P u t && szIs P t 1
    | _, _, _ => false
  | .bad, _ => true
  | _, _ => false

end types
end Go.Ab
