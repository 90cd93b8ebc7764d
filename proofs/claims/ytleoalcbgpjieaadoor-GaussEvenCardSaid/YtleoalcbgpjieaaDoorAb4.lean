import Derived.Test.YtleoalcbgpjieaaDoorAb2
/- When an annotated operation agrees with an operation of the program. -/
namespace Go.Ab

def okSV : SV → Value → Bool
  | .bool a, .bool b => a == b
  | .int k n, .int j m => decide (k = j) && decide (n = m)
  | .str s, .string t => decide (s = t)
  | .nilP, .pointer none => true
  | .nilM, .map none => true
  | .nilS, .slice none 0 0 => true
  | .nilF, .nilFunc => true
  | .nilI, .nilIface => true
  | _, _ => false

def okCells : List SV → List Value → Bool
  | [], [] => true
  | x :: xs, v :: vs => okSV x v && okCells xs vs
  | _, _ => false

def okAV : AV → Value → Bool
  | .agg xs, .agg vs => okCells xs vs.toList
  | .sc x, v => okSV x v
  | _, _ => false

def okO : AO → Operand → Bool
  | .t n, .tmp m => decide (n = m)
  | .k v, .const c => okAV v c
  | .k (.sc (.fn f [])), .func g => decide (f = g)
  | _, _ => false

def okOs : List AO → List Operand → Bool
  | [], [] => true
  | x :: xs, v :: vs => okO x v && okOs xs vs
  | _, _ => false

theorem okSV_rel {β : Bt} {x : SV} {v : Value} (h : okSV x v = true) : SRel β x v := by
  unfold okSV at h
  split at h <;> simp at h
  · subst h; exact .bool _
  · obtain ⟨rfl, rfl⟩ := h; exact .int _ _
  · subst h; exact .str _
  · exact .nilP
  · exact .nilM
  · exact .nilS
  · exact .nilF
  · exact .nilI

theorem okCells_rel {β : Bt} : ∀ {xs : List SV} {vs : List Value}, okCells xs vs = true → F2 (SRel β) xs vs
  | [], [], _ => .nil
  | x :: xs, v :: vs, h => by
    simp [okCells] at h
    exact .cons (okSV_rel h.1) (okCells_rel h.2)
  | [], _ :: _, h => by simp [okCells] at h
  | _ :: _, [], h => by simp [okCells] at h

theorem okAV_rel {β : Bt} {x : AV} {v : Value} (h : okAV x v = true) : ARel β x v := by
  unfold okAV at h
  split at h
  · rename_i xs vs
    have := okCells_rel (β := β) h
    exact .agg (vs := vs.toList) this
  · exact .sc (okSV_rel h)
  · simp at h

theorem ev_rel {β : Bt} {E : Env} {a : Act} {x : AO} {o : Operand} {v : AV} (h : okO x o = true) (hE : ERel β E a.tmps) (hv : ev E x = some v) : ARel β v (a.eval o) := by
  unfold okO at h
  split at h
  · simp at h; subst h
    obtain ⟨c, h1, h2⟩ := hE _ _ hv
    simp [Act.eval, Array.getD_eq_getD_getElem?, h1]
    exact h2
  · simp [ev] at hv; subst hv; exact okAV_rel h
  · simp at h; subst h
    simp [ev] at hv; subst hv
    exact .sc (.fn (vs := []) .nil)
  · simp at h

theorem evS_rel {β : Bt} {E : Env} {a : Act} {x : AO} {o : Operand} {v : SV} (h : okO x o = true) (hE : ERel β E a.tmps) (hv : evS E x = some v) : SRel β v (a.eval o) := by
  unfold evS at hv
  split at hv
  · rename_i u hu
    simp at hv; subst hv
    have := ev_rel h hE hu
    cases this with | sc h => exact h
  · simp at hv

theorem evs_rel {β : Bt} {E : Env} {a : Act} (hE : ERel β E a.tmps) : ∀ {xs : List AO} {os : List Operand} {vs : List AV}, okOs xs os = true → evs E xs = some vs → F2 (ARel β) vs (os.map a.eval)
  | [], [], vs, _, hv => by simp [evs] at hv; subst hv; exact .nil
  | x :: xs, o :: os, vs, h, hv => by
    simp [okOs] at h
    simp only [evs, Option.bind_eq_some_iff, Option.map_eq_some_iff] at hv
    obtain ⟨v, h1, r, h2, rfl⟩ := hv
    exact .cons (ev_rel h.1 hE h1) (evs_rel hE h.2 h2)
  | [], _ :: _, _, h, _ => by simp [okOs] at h
  | _ :: _, [], _, h, _ => by simp [okOs] at h

theorem evSs_rel {β : Bt} {E : Env} {a : Act} (hE : ERel β E a.tmps) : ∀ {xs : List AO} {os : List Operand} {vs : List SV}, okOs xs os = true → evSs E xs = some vs → F2 (SRel β) vs (os.map a.eval)
  | [], [], vs, _, hv => by simp [evSs] at hv; subst hv; exact .nil
  | x :: xs, o :: os, vs, h, hv => by
    simp [okOs] at h
    simp only [evSs, Option.bind_eq_some_iff, Option.map_eq_some_iff] at hv
    obtain ⟨v, h1, r, h2, rfl⟩ := hv
    exact .cons (evS_rel h.1 hE h1) (evSs_rel hE h.2 h2)
  | [], _ :: _, _, h, _ => by simp [okOs] at h
  | _ :: _, [], _, h, _ => by simp [okOs] at h

section types
variable (P : Program)

def szIs (t : TypeId) (n : Nat) : Bool := match P.info? t with
  | some i => decide (i.size = n)
  | none => false
def byIs (t : TypeId) (n : Nat) : Bool := match P.info? t with
  | some i => decide (i.bytes = n)
  | none => false
def zeroIs (t : TypeId) (cs : List SV) : Bool := match P.info? t with
  | some i => match i.zero with
    | some z => okCells cs z.cells.toList
    | none => false
  | none => false
def aggIs (t : TypeId) (agg : Bool) : Bool := match P.underlying t with
  | some (.struct _) => agg
  | some (.array _ _) => agg
  | some _ => !agg
  | none => false
def elIs (t : TypeId) (f : TypeId → Bool) : Bool := match P.underlying t with
  | some (.slice e) => f e
  | _ => false
def arIs (t : TypeId) (n : Nat) (f : TypeId → Bool) : Bool := match P.underlying t with
  | some (.array m e) => decide (n = m) && f e
  | _ => false
/-- A struct of an integer and a bool. -/
def vsIs (t : TypeId) : Bool := !P.stoodInHeld t && match P.underlying t with
  | some (.struct fs) => match fs.toList with
    | [f0, f1] => decide (f0.name ≠ "_") && decide (f1.name ≠ "_") && decide (f0.offset = 0) && decide (f1.offset = 1) && (match P.underlying f0.type with | some (.int _) => true | _ => false) && (match P.underlying f1.type with | some .bool => true | _ => false)
    | _ => false
  | _ => false
/-- A struct of two integers. -/
def ssIs (t : TypeId) : Bool := !P.stoodInHeld t && match P.underlying t with
  | some (.struct fs) => match fs.toList with
    | [f0, f1] => decide (f0.name ≠ "_") && decide (f1.name ≠ "_") && decide (f0.offset = 0) && decide (f1.offset = 1) && (match P.underlying f0.type with | some (.int _) => true | _ => false) && (match P.underlying f1.type with | some (.int _) => true | _ => false)
    | _ => false
  | _ => false
/-- A function without a body, that stands in the model's list under its name. -/
def extIs (g : FuncId) (nm : String) : Bool := match P.funcs[g]? with
  | some fn => fn.body.isNone && fn.name == nm && (Extern.findNext fn).isNone
  | none => false
def strIs (t : TypeId) : Bool := match P.underlying t with
  | some .string => true
  | _ => false
def u8Is (t : TypeId) : Bool := match P.underlying t with
  | some (.int .u8) => true
  | _ => false
def boolIs (t : TypeId) : Bool := match P.underlying t with
  | some .bool => true
  | _ => false
def intIs (t : TypeId) : Bool := match P.underlying t with
  | some (.int _) => true
  | _ => false
def kdIs (t : TypeId) (kd : Nat) : Bool := match P.underlying t with
  | some (.pointer _) => decide (kd = 0)
  | some (.slice _) => decide (kd = 1)
  | some (.func _ _ _) => decide (kd = 2)
  | some (.interface _) => decide (kd = 3)
  | _ => false
def cvIs (s d : TypeId) (k : IntKind) : Bool := (P.underlying s).isSome && match P.underlying d with
  | some (.int j) => decide (k = j)
  | _ => false
def fdIs (t : TypeId) (f : Nat) (g : Field → Bool) : Bool := match P.underlying t with
  | some (.struct fs) => match fs[f]? with
    | some fd => g fd
    | none => false
  | _ => false
def nilO : Operand → Bool
  | .const (.pointer none) => true
  | .const (.slice none 0 0) => true
  | .const .nilFunc => true
  | .const .nilIface => true
  | _ => false
def nilK (kd : Nat) : Operand → Bool
  | .const (.pointer none) => decide (kd = 0)
  | .const (.slice none 0 0) => decide (kd = 1)
  | .const .nilFunc => decide (kd = 2)
  | .const .nilIface => decide (kd = 3)
  | _ => false
def fnIs (f : FuncId) : Bool := match P.funcs[f]? with
  | some fn => fn.body.isSome && !(fn.name == "runtime.NumGoroutine")
  | none => false
def okOpt : Option AO → Option Operand → Bool
  | none, none => true
  | some x, some o => okO x o
  | _, _ => false
/-- The parts of a struct: field numbers in the program, places here. -/
def okBld (fs : Array Field) : List (Nat × Nat × AO) → List (Nat × Operand) → Bool
  | [], [] => true
  | (o, s, x) :: r, (i, y) :: q => (match fs[i]? with | some fd => decide (fd.offset = o) && szIs P fd.type s | none => false) && okO x y && okBld fs r q
  | _, _ => false
def okFields (fs : Array Field) : Bool := fs.toList.all fun fd => (P.info? fd.type).isSome
def okArr (s : Nat) : List (Nat × Nat × AO) → List (Nat × Operand) → Bool
  | [], [] => true
  | (o, s', x) :: r, (i, y) :: q => decide (o = i * s) && decide (s' = s) && okO x y && okArr s r q
  | _, _ => false
def tyIs (ty : Option Nat) (e : TypeId) : Bool := match ty with
  | none => true
  | some t => decide (e = t)
def eszOk (z : ESz) : Bool := !decide (z.n = 0) && decide (z.n < 1000000)
def okSl : List (Nat × AO) → List (Nat × Operand) → Bool
  | [], [] => true
  | (o, x) :: r, (i, y) :: q => decide (o = i) && okO x y && okSl r q
  | _, _ => false

def ptrTo (u t : TypeId) : Bool := match P.underlying u with
  | some (.pointer e) => decide (e = t)
  | _ => false
def ptrIs (t : TypeId) : Bool := match P.underlying t with
  | some (.pointer e) => (P.info? e).isSome
  | _ => false
def mapIs (t : TypeId) : Bool := match P.underlying t with
  | some (.map _ _) => true
  | _ => false
def mpIs (t : TypeId) (z : ESz) : Bool := match P.underlying t with
  | some (.map kt _) => decide (1000000 ≤ z.n) && decide (z.n < 2000000) && match P.underlying kt with
    | some (.int .i64) => decide (z.kw = 1)
    | some (.array 2 e) => decide (z.kw = 2) && szIs P e 1 && (match P.underlying e with
      | some (.int .i64) => true
      | _ => false)
    | _ => false
  | _ => false
def mpZero (t : TypeId) (zero : List SV) : Bool := match P.underlying t with
  | some (.map _ et) => match P.info? et with
    | some i => match i.zero with
      | some (.agg vs) => decide (zero.length ≠ 1) && okCells zero vs.toList
      | some v => match zero with
        | [x] => okSV x v
        | _ => false
      | none => false
    | none => false
  | _ => false
def okOp : AK → Op → Bool
  | .mv x, .move y => okO x y
  | .mv x, .assign y => okO x y
  | .pick c a b, .pick c' a' b' => okO c c' && okO a a' && okO b b'
  | .bin op x y, .binOp op' _ x' y' _ => decide (op = op') && okO x x' && okO y y'
  | .beq neg x y, .binOp op' t x' y' _ => decide (op' = if neg then .neq else .eql) && okO x x' && okO y y' && boolIs P t
  | .isnil kd neg x, .binOp op' t x' y' _ => decide (op' = if neg then .neq else .eql) && okO x x' && nilK kd y' && kdIs P t kd
  | .un op x, .unOp op' _ x' => decide (op = op') && okO x x'
  | .conv k x, .convert s d x' => okO x x' && cvIs P s d k
  | .len str x, .call c => match c.callee, c.args.toList, c.argTypes.toList with
    | .builtin .len, [x'], [t] => okO x x' && (if str then strIs P t else elIs P t fun _ => true)
    | _, _, _ => false
  | .mm mx x ys, .call c => match c.callee, c.args.toList with
    | .builtin .max, x' :: ys' => mx && okO x x' && okOs ys ys'
    | .builtin .min, x' :: ys' => !mx && okO x x' && okOs ys ys'
    | _, _ => false
  | .idxA esz x i, .indexAddr t x' i' => okO x x' && okO i i' && elIs P t fun e => szIs P e esz
  | .idxP n esz x i, .indexAddr t x' i' => okO x x' && okO i i' && arIs P t n fun e => szIs P e esz
  | .idxS x i, .index t x' i' => okO x x' && okO i i' && strIs P t
  | .idxG n esz agg x i, .index t x' i' => okO x x' && okO i i' && arIs P t n fun e => szIs P e esz && aggIs P e agg
  | .fldA off x, .fieldAddr t x' f => okO x x' && fdIs P t f fun fd => decide (fd.offset = off) && (match P.info? fd.type with | some i => !decide (i.size = 0) | none => false)
  | .fld off size agg x, .field t x' f => okO x x' && fdIs P t f fun fd => decide (fd.offset = off) && szIs P fd.type size && aggIs P fd.type agg
  | .ld n agg x, .load t x' => okO x x' && szIs P t n && aggIs P t agg
  | .st n a x, .store t a' x' => okO a a' && okO x x' && szIs P t n
  | .new zero, .alloc t => zeroIs P t zero
  | .box x, .box _ x' => okO x x'
  | .bld zero parts, .build t parts' => zeroIs P t zero && match P.underlying t with
    | some (.struct fs) => okFields P fs && okBld P fs parts parts'.toList
    | some (.array _ e) => match P.info? e with
      | some i => okArr i.size parts parts'.toList
      | none => false
    | _ => false
  | .bsl esz zero len parts, .buildSlice t len' parts' => decide (len = len') && okSl parts parts'.toList && eszOk esz && elIs P t fun e => szIs P e esz.n && zeroIs P e zero && decide (zero.length = esz.n) && tyIs esz.ty e
  | .mk esz bytes zero l c, .makeSlice t l' c' => okO l l' && okO c c' && eszOk esz && elIs P t fun e => szIs P e esz.n && byIs P e bytes && zeroIs P e zero && decide (zero.length = esz.n) && tyIs esz.ty e
  | .sl esz x lo hi, .slice t x' lo' hi' mx => okO x x' && okOpt lo lo' && okOpt hi hi' && mx.isNone && elIs P t fun e => szIs P e esz.n
  | .slS x lo hi, .slice t x' lo' hi' mx => okO x x' && okOpt lo lo' && okOpt hi hi' && mx.isNone && strIs P t
  | .app esz bytes zero x y, .call c => match c.callee, c.args.toList, c.argTypes.toList with
    | .builtin .append, [x', y'], [t, u] => okO x x' && okO y y' && (P.underlying u).isSome && !intIs P u && eszOk esz && elIs P t fun e => szIs P e esz.n && byIs P e bytes && zeroIs P e zero && decide (zero.length = esz.n) && tyIs esz.ty e
    | _, _, _ => false
  | .call f args, .call c => match c.callee with
    | .value (.func g) => decide (f = g) && okOs args c.args.toList && fnIs P f
    | _ => false
  | .callv x args, .call c => match c.callee with
    | .value x' => okO x x' && okOs args c.args.toList
    | _ => false
  | .ext x i, .extract x' i' => okO x x' && decide (i = i')
  | .mkf f caps, .makeFunc (.func g) first captured => decide (f = g) && first.isEmpty && okOs caps captured.toList
  | .nilc x, .nilCheck x' => okO x x'
  | .newT t zero, .alloc t' => decide (t = t') && zeroIs P t zero
  | .aeq neg n x y, .binOp op' t x' y' _ => decide (op' = if neg then .neq else .eql) && okO x x' && okO y y' && !P.eqGuardType P.depth t && arIs P t n fun e => intIs P e && szIs P e 1
  | .peq neg x y, .binOp op' t x' y' _ => decide (op' = if neg then .neq else .eql) && okO x x' && okO y y' && kdIs P t 0 && ptrIs P t
  | .sl1 x lo hi, .slice t x' lo' hi' mx => okO x x' && okOpt lo lo' && okOpt hi hi' && mx.isNone && elIs P t fun e => szIs P e 1
  | .usd x, .call c => match c.callee, c.args.toList with
    | .builtin .unsafeSliceData, [x'] => okO x x'
    | _, _ => false
  | .ustr t x n, .call c => match c.callee, c.args.toList, c.argTypes.toList with
    | .builtin .unsafeString, [x', n'], [u, _] => okO x x' && okO n n' && ptrTo P u t && szIs P t 1
    | _, _, _ => false
  | .cvb x, .convert s t x' => okO x x' && strIs P s && elIs P t (u8Is P)
  | .veq neg x y, .binOp op' t x' y' _ => decide (op' = if neg then .neq else .eql) && okO x x' && okO y y' && !P.eqGuardType P.depth t && vsIs P t
  | .seq2 neg x y, .binOp op' t x' y' _ => decide (op' = if neg then .neq else .eql) && okO x x' && okO y y' && !P.eqGuardType P.depth t && ssIs P t
  | .car sb x y z, .call c => match c.callee, c.args.toList with
    | .value (.func g), [x', y', z'] => okO x x' && okO y y' && okO z z' && extIs P g (if sb then "math/bits.Sub64" else "math/bits.Add64")
    | _, _ => false
  | .cbs x, .convert s t x' => okO x x' && strIs P t && elIs P s (u8Is P)
  | .mpM z, .makeMap t r => r.isNone && mpIs P t z
  | .mpL z zero ok x k, .lookup t x' k' ok' => decide (ok = ok') && okO x x' && okO k k' && mpIs P t z && mpZero P t zero
  | .mpU z x k v, .mapUpdate t x' k' v' => okO x x' && okO k k' && okO v v' && mpIs P t z
  | .mpR x, .range t x' => okO x x' && mapIs P t
  | .mpT x, .entry x' => okO x x'
  | .mpN x, .call c => match c.callee, c.args.toList, c.argTypes.toList with
    | .builtin .len, [x'], [t] => okO x x' && mapIs P t
    | _, _, _ => false
  | .mpX x, .next x' s => okO x x' && !s
  | .mpE z zero x k, .mapEntry t x' k' => okO x x' && okO k k' && mpIs P t z && mpZero P t zero
  | .mpS _ x s v, .entryStore _ x' s' v' => okO x x' && okO s s' && okO v v'
  | .cpy esz x y, .call c => match c.callee, c.args.toList, c.argTypes.toList with
    | .builtin .copy, [x', y'], [t, _] => okO x x' && okO y y' && elIs P t fun e => szIs P e esz
    | _, _, _ => false
  | .bad, _ => true
  | _, _ => false

end types
end Go.Ab


/- What the changes of memory do to the relation. -/
namespace Go.Ab
variable [Base]
set_option linter.unusedSectionVars false

def upd (β : Bt) (id : Nat) (L : Loc) : Bt := fun i => if i = id then some L else β i

theorem upd_same (β : Bt) (id : Nat) (L : Loc) : upd β id L id = some L := by simp [upd]
theorem upd_other (β : Bt) {id i : Nat} (L : Loc) (h : i ≠ id) : upd β id L i = β i := by simp [upd, h]
theorem upd_le {β : Bt} {id : Nat} (L : Loc) (h : β id = none) : β.le (upd β id L) := fun i M hi => by
  by_cases e : i = id
  · subst e; rw [h] at hi; simp at hi
  · rw [upd_other _ _ e]; exact hi

theorem get_snoc (h : Heap) (b : Blk) (i : Nat) : (h ++ [b])[i]? = if i = h.length then some b else h[i]? := by
  by_cases hi : i < h.length
  · rw [List.getElem?_append_left hi, if_neg (by omega)]
  · rw [List.getElem?_append_right (by omega)]
    by_cases e : i = h.length
    · subst e; simp
    · rw [if_neg e, List.getElem?_eq_none (l := h) (by omega)]
      rw [List.getElem?_eq_none]; simp; omega

theorem BRel.mono {β β' : Bt} {w w' : World} {L cs rw esz} (hb : β.le β') (hw : w'.heap[L.b]? = w.heap[L.b]?) (h : BRel β w L cs rw esz) : BRel β' w' L cs rw esz := by
  rcases h with ⟨hn, h1, ccs, e, fz, h2, h3, h4, h5, h6, h7⟩ | ⟨hn, h1, h2, h3⟩
  · refine .inl ⟨hn, h1, ccs, e, fz, hw.trans h2, h3, h4, fun i v hi => ?_, h6, h7⟩
    obtain ⟨c, hc, hr⟩ := h5 i v hi
    exact ⟨c, hc, hr.mono hb⟩
  · refine .inr ⟨hn, h1, ?_, h3⟩
    rcases h2 with ⟨hz, k⟩ | ⟨hz, m, M, n, last, seen, k1, k2, k3, k4, k5⟩
    · exact .inl ⟨hz, k.mono hb hw⟩
    · exact .inr ⟨hz, m, M, n, last, seen, k1, k2, hb _ _ k3, hw.trans k4, k5⟩

/-- A new block. -/
theorem alloc_done {β : Bt} {h : Heap} {w : World} (R : Rep β h w) (hf : β h.length = none) (ccs : Array Value) (e : TypeId) (cs : List SV) (esz : ESz)
    (ht1 : TyOk esz e) (hp : esz.n < 1000000) (ht2 : esz.n = 0 → cs.length = ccs.size) (hlen : cs.length ≤ ccs.size) (hrel : ∀ (i : Nat) (v : SV), cs[i]? = some v → ∃ c, ccs[i]? = some c ∧ SRel β v c) :
    Stp β h w (upd β h.length ⟨w.heap.size, 0, ccs.size, esz⟩) (h ++ [.cells cs true esz]) (w.alloc (.cells ccs e)) ∧
    Rep (upd β h.length ⟨w.heap.size, 0, ccs.size, esz⟩) (h ++ [.cells cs true esz]) (w.alloc (.cells ccs e)) := by
  have hle := upd_le (β := β) (⟨w.heap.size, 0, ccs.size, esz⟩ : Loc) hf
  have hold : ∀ i, i < h.length → upd β h.length ⟨w.heap.size, 0, ccs.size, esz⟩ i = β i := fun i hi => upd_other _ _ (by omega)
  have hsz : ∀ b, b < w.heap.size → (w.alloc (.cells ccs e)).heap[b]? = w.heap[b]? := fun b hb => Go.RowKit.Below.heap_alloc w _ b hb
  have lt : ∀ (i : Nat) (x : Blk), h[i]? = some x → i < h.length := fun i x hx => (List.getElem?_eq_some_iff.1 hx).1
  refine ⟨⟨hle, ?_, ?_, by simp, ?_, ?_, fun b hb _ => hsz b hb, by simp, rfl, rfl, rfl⟩, ⟨fun id b L hg hL => ?_, ?_, ?_, ⟨Nat.le_trans R.keep.1 (by simp), fun b hb => (hsz b (Nat.lt_of_lt_of_le hb R.keep.1)).trans (R.keep.2 b hb)⟩⟩⟩
  · intro id L hl
    by_cases hi : id = h.length
    · exact .inr (by simp; omega)
    · exact .inl (by rwa [upd_other _ _ hi] at hl)
  · intro id h1 h2
    have : id = h.length := by simp at h2; omega
    subst this
    exact ⟨_, upd_same _ _ _⟩
  · rintro b ⟨id, L, cs', esz', hg, hL, rfl⟩
    rw [get_snoc] at hg
    split at hg
    · rename_i hi; subst hi; rw [upd_same] at hL; simp at hL; subst hL; exact .inl (Nat.le_refl _)
    · rw [hold id (lt _ _ hg)] at hL
      exact .inr ⟨id, L, cs', esz', hg, hL, rfl⟩
  · intro id L h1 h2
    by_cases hi : id = h.length
    · subst hi; rw [upd_same] at h1; simp at h1; subst h1; exact .inl (Nat.le_refl _)
    · rw [upd_other _ _ hi, h2] at h1; simp at h1
  · rw [get_snoc] at hg
    split at hg
    · rename_i hi; subst hi; rw [upd_same] at hL; simp at hL hg; subst hL hg; rfl
    · rw [hold id (lt _ _ hg)] at hL
      exact R.sz id b L hg hL
  · intro id L cs' rw' esz' hg hL
    rw [get_snoc] at hg
    split at hg
    · rename_i hi; subst hi; rw [upd_same] at hL; simp at hL hg
      obtain ⟨rfl, rfl, rfl⟩ := hg
      subst hL
      refine .inl ⟨hp, rfl, ccs, e, (0, 0), Go.heap_alloc_new w _, rfl, by simpa using hlen, fun i v hi => ?_, fun _ => rfl, ht1, fun t ht => ⟨rfl, ht2⟩, fun _ => R.keep.1⟩
      obtain ⟨c, h1, h2⟩ := hrel i v hi
      exact ⟨c, by simpa using h1, h2.mono hle⟩
    · rw [hold id (lt _ _ hg)] at hL
      have hb := R.blk id L cs' rw' esz' hg hL
      exact hb.mono hle (hsz _ hb.lt)
  · intro i j L M cs1 e1 cs2 rw2 e2 hi hj hne hL hM
    rw [get_snoc] at hi hj
    split at hi
    · rename_i hii; subst hii
      rw [upd_same] at hL; simp at hL; subst hL
      rw [if_neg (Ne.symm hne)] at hj
      rw [hold j (lt _ _ hj)] at hM
      have := (R.blk j M cs2 rw2 e2 hj hM).lt
      show w.heap.size ≠ M.b
      omega
    · rw [hold i (lt _ _ hi)] at hL
      split at hj
      · rename_i hjj; subst hjj
        rw [upd_same] at hM; simp at hM; subst hM
        have := (R.blk i L cs1 _ e1 hi hL).lt
        show L.b ≠ w.heap.size
        omega
      · rw [hold j (lt _ _ hj)] at hM
        exact R.exc i j L M cs1 e1 cs2 rw2 e2 hi hj hne hL hM

theorem get_set (h : Heap) (id : Nat) (b : Blk) (i : Nat) (hid : id < h.length) : (h.set id b)[i]? = if i = id then some b else h[i]? := by
  rw [List.getElem?_set]
  by_cases e : id = i
  · subst e; simp [hid]
  · simp [e, Ne.symm e]

theorem setRow_other (w : World) (g : Nat) (cs : Array Value) (k : Nat) (h : k ≠ g) : (w.setRow g cs).heap[k]? = w.heap[k]? := by
  simp only [World.setRow, Array.getElem?_modify]
  rw [if_neg (by omega)]

/-- A block of the call's own is written. -/
theorem write_done {β : Bt} {h : Heap} {w : World} (R : Rep β h w) {id : Nat} {L : Loc} {cs : List SV} {esz : ESz} (hg : h[id]? = some (.cells cs true esz)) (hL : β id = some L) (hn : L.esz.n < 1000000)
    (ccs' : Array Value) (cs' : List SV) (hsl : cs'.length = cs.length) (hsz : ccs'.size = L.sz) (hlen : L.base + cs'.length ≤ L.sz)
    (hrel : ∀ (i : Nat) (v : SV), cs'[i]? = some v → ∃ c, ccs'[L.base + i]? = some c ∧ SRel β v c) :
    Stp β h w β (h.set id (.cells cs' true esz)) (w.setRow L.b ccs') ∧ Rep β (h.set id (.cells cs' true esz)) (w.setRow L.b ccs') := by
  have hid : id < h.length := (List.getElem?_eq_some_iff.1 hg).1
  have hB := R.blk id L cs true esz hg hL
  refine ⟨⟨fun _ _ h => h, fun _ _ h => .inl h, fun i h1 h2 => by simp at h2; omega, by simp, ?_, fun id L h1 h2 => by rw [h1] at h2; simp at h2, ?_, by simp [World.setRow], rfl, rfl, rfl⟩, ⟨fun i b M hi hM => ?_, ?_, ?_, ⟨Nat.le_trans R.keep.1 (by simp [World.setRow]), fun b hb => (setRow_other _ _ _ _ (Nat.ne_of_lt (Nat.lt_of_lt_of_le hb (hB.low rfl)))).trans (R.keep.2 b hb)⟩⟩⟩
  · rintro b ⟨i, M, cs1, e1, hi, hM, rfl⟩
    rw [get_set _ _ _ _ hid] at hi
    split at hi
    · rename_i e; subst e; simp at hi; obtain ⟨rfl, rfl⟩ := hi
      exact .inr ⟨i, M, cs, esz, hg, hM, rfl⟩
    · exact .inr ⟨i, M, cs1, e1, hi, hM, rfl⟩
  · intro b hb hn
    exact setRow_other _ _ _ _ fun e => hn ⟨id, L, cs, esz, hg, hL, e.symm⟩
  · rw [get_set _ _ _ _ hid] at hi
    split at hi
    · rename_i e; subst e; simp at hi; subst hi
      exact (R.sz i _ M hg hM : M.esz = esz)
    · exact R.sz i b M hi hM
  · intro i M cs1 rw1 e1 hi hM
    rw [get_set _ _ _ _ hid] at hi
    split at hi
    · rename_i e; subst e; simp at hi; obtain ⟨rfl, rfl, rfl⟩ := hi
      rw [hL] at hM; simp at hM; subst hM
      obtain ⟨h1, ccs, e, fz, h2, h3, h4, h5, h6, h7, h8⟩ := hB.cell hn
      have := h6 rfl
      subst this
      exact .inl ⟨by rw [← h1]; exact hn, h1, ccs', e, (0, 0), setRow_heap w _ _ _ _ _ h2, hsz, hlen, hrel, fun _ => rfl, h7, fun t ht => ⟨(h8.1 t ht).1, fun h0 => hsl.trans ((h8.1 t ht).2 h0)⟩, h8.2⟩
    · rename_i e
      have hB' := R.blk i M cs1 rw1 e1 hi hM
      have hne : L.b ≠ M.b := R.exc id i L M cs esz cs1 rw1 e1 hg hi (Ne.symm e) hL hM
      exact hB'.mono (fun _ _ h => h) (setRow_other _ _ _ _ (Ne.symm hne))
  · intro i j M N cs1 e1 cs2 rw2 e2 hi hj hne hM hN
    rw [get_set _ _ _ _ hid] at hi hj
    split at hi
    · rename_i e; subst e
      rw [if_neg (Ne.symm hne)] at hj
      exact R.exc i j M N cs esz cs2 rw2 e2 hg hj hne hM hN
    · split at hj
      · rename_i e; subst e
        exact R.exc i j M N cs1 e1 cs true esz hi hg hne hM hN
      · exact R.exc i j M N cs1 e1 cs2 rw2 e2 hi hj hne hM hN

/-- A block is given up. -/
theorem kill_done {β : Bt} {h : Heap} {w : World} (R : Rep β h w) {id : Nat} {cs0 : List SV} {rw0 : Bool} {esz : ESz} (hg0 : h[id]? = some (.cells cs0 rw0 esz)) : Stp β h w β (h.set id (.dead esz)) w ∧ Rep β (h.set id (.dead esz)) w := by
  have hid : id < h.length := (List.getElem?_eq_some_iff.1 hg0).1
  have key : ∀ (i : Nat) (cs : List SV) (rw : Bool) (e1 : ESz), (h.set id (Blk.dead esz))[i]? = some (.cells cs rw e1) → h[i]? = some (.cells cs rw e1) := by
    intro i cs rw e1 hi
    rw [get_set _ _ _ _ hid] at hi
    split at hi
    · simp at hi
    · exact hi
  refine ⟨⟨fun _ _ h => h, fun _ _ h => .inl h, fun i h1 h2 => by simp at h2; omega, by simp, ?_, fun id L h1 h2 => by rw [h1] at h2; simp at h2, fun _ _ _ => rfl, Nat.le_refl _, rfl, rfl, rfl⟩, ⟨fun i b M hi hM => ?_, ?_, ?_, R.keep⟩⟩
  · rintro b ⟨i, M, cs1, e1, hi, hM, rfl⟩
    exact .inr ⟨i, M, cs1, e1, key _ _ _ _ hi, hM, rfl⟩
  · rw [get_set _ _ _ _ hid] at hi
    split at hi
    · rename_i e; subst e; simp at hi; subst hi
      exact (R.sz i _ M hg0 hM : M.esz = esz)
    · exact R.sz i b M hi hM
  · intro i M cs1 rw1 e1 hi hM
    exact R.blk i M cs1 rw1 e1 (key _ _ _ _ hi) hM
  · intro i j M N cs1 e1 cs2 rw2 e2 hi hj hne hM hN
    exact R.exc i j M N cs1 e1 cs2 rw2 e2 (key _ _ _ _ hi) (key _ _ _ _ hj) hne hM hN

/-- A block is given up, and its memory is that of a new one. -/
theorem adopt_done {β : Bt} {h : Heap} {w : World} (R : Rep β h w) (hf : β h.length = none) {id : Nat} {L : Loc} {cs : List SV} {esz : ESz} (hg : h[id]? = some (.cells cs true esz)) (hL : β id = some L)
    (ccs' : Array Value) (base' : Nat) (hp : esz.n < 1000000) (hnt : esz.n ≠ 0) (hnb : esz.ty = none ∨ base' = 0) (cs' : List SV) (hsz : ccs'.size = L.sz) (hlen : base' + cs'.length ≤ L.sz)
    (hrel : ∀ (i : Nat) (v : SV), cs'[i]? = some v → ∃ c, ccs'[base' + i]? = some c ∧ SRel β v c) :
    Stp β h w (upd β h.length ⟨L.b, base', L.sz, esz⟩) (h.set id (.dead esz) ++ [.cells cs' true esz]) (w.setRow L.b ccs') ∧
    Rep (upd β h.length ⟨L.b, base', L.sz, esz⟩) (h.set id (.dead esz) ++ [.cells cs' true esz]) (w.setRow L.b ccs') := by
  have hid : id < h.length := (List.getElem?_eq_some_iff.1 hg).1
  have hB := R.blk id L cs true esz hg hL
  have hle := upd_le (β := β) (⟨L.b, base', L.sz, esz⟩ : Loc) hf
  have hold : ∀ i, i < h.length → upd β h.length ⟨L.b, base', L.sz, esz⟩ i = β i := fun i hi => upd_other _ _ (by omega)
  have lt : ∀ (i : Nat) (x : Blk), h[i]? = some x → i < h.length := fun i x hx => (List.getElem?_eq_some_iff.1 hx).1
  have key : ∀ (i : Nat) (cs1 : List SV) (rw1 : Bool) (e1 : ESz), (h.set id (Blk.dead esz) ++ [Blk.cells cs' true esz])[i]? = some (.cells cs1 rw1 e1) →
      (i = h.length ∧ cs1 = cs' ∧ rw1 = true ∧ e1 = esz) ∨ (i ≠ id ∧ i ≠ h.length ∧ h[i]? = some (.cells cs1 rw1 e1)) := by
    intro i cs1 rw1 e1 hi
    rw [get_snoc] at hi
    simp only [List.length_set] at hi
    split at hi
    · simp at hi; obtain ⟨rfl, rfl, rfl⟩ := hi
      exact .inl ⟨by assumption, rfl, rfl, rfl⟩
    · rw [get_set _ _ _ _ hid] at hi
      split at hi
      · simp at hi
      · exact .inr ⟨by assumption, by assumption, hi⟩
  refine ⟨⟨hle, ?_, ?_, by simp, ?_, ?_, ?_, by simp [World.setRow], rfl, rfl, rfl⟩, ⟨fun i b M hi hM => ?_, ?_, ?_, ⟨Nat.le_trans R.keep.1 (by simp [World.setRow]), fun b hb => (setRow_other _ _ _ _ (Nat.ne_of_lt (Nat.lt_of_lt_of_le hb (hB.low rfl)))).trans (R.keep.2 b hb)⟩⟩⟩
  · intro i M hM
    by_cases hi : i = h.length
    · exact .inr (by simp; omega)
    · exact .inl (by rwa [upd_other _ _ hi] at hM)
  · intro i h1 h2
    have : i = h.length := by simp at h2; omega
    subst this
    exact ⟨_, upd_same _ _ _⟩
  · rintro b ⟨i, M, cs1, e1, hi, hM, rfl⟩
    rcases key _ _ _ _ hi with ⟨rfl, -, -, -⟩ | ⟨h1, h2, h3⟩
    · rw [upd_same] at hM; simp at hM; subst hM
      exact .inr ⟨id, L, cs, esz, hg, hL, rfl⟩
    · rw [hold i (lt _ _ h3)] at hM
      exact .inr ⟨i, M, cs1, e1, h3, hM, rfl⟩
  · intro i M h1 h2
    by_cases hi : i = h.length
    · subst hi; rw [upd_same] at h1; simp at h1; subst h1; exact .inr ⟨id, L, cs, esz, hg, hL, rfl⟩
    · rw [upd_other _ _ hi, h2] at h1; simp at h1
  · intro b hb hn
    exact setRow_other _ _ _ _ fun e => hn ⟨id, L, cs, esz, hg, hL, e.symm⟩
  · rw [get_snoc] at hi
    simp only [List.length_set] at hi
    split at hi
    · rename_i e; subst e
      rw [upd_same] at hM; simp at hM hi; subst hM hi; rfl
    · rename_i e
      rw [upd_other _ _ e] at hM
      rw [get_set _ _ _ _ hid] at hi
      split at hi
      · rename_i e; subst e; simp at hi; subst hi
        exact (R.sz i _ M hg hM : M.esz = esz)
      · exact R.sz i b M hi hM
  · intro i M cs1 rw1 e1 hi hM
    rcases key _ _ _ _ hi with ⟨rfl, rfl, rfl, rfl⟩ | ⟨h1, h2, h3⟩
    · rw [upd_same] at hM; simp at hM; subst hM
      have hlow := hB.low rfl
      obtain ⟨-, ccs, e, fz, h2, h3, h4, h5, h6, h7, -⟩ := hB.cell (by rw [show L.esz = e1 from R.sz id _ L hg hL]; exact hp)
      have := h6 rfl
      subst this
      refine .inl ⟨hp, rfl, ccs', e, (0, 0), setRow_heap w _ _ _ _ _ h2, hsz, hlen, fun i v hi => ?_, fun _ => rfl, h7, fun t ht => ⟨hnb.resolve_left (fun e => by rw [e] at ht; cases ht), fun h0 => absurd h0 hnt⟩, fun _ => hlow⟩
      obtain ⟨c, q1, q2⟩ := hrel i v hi
      exact ⟨c, q1, q2.mono hle⟩
    · rw [hold i (lt _ _ h3)] at hM
      have hB' := R.blk i M cs1 rw1 e1 h3 hM
      have hne : L.b ≠ M.b := R.exc id i L M cs esz cs1 rw1 e1 hg h3 (Ne.symm h1) hL hM
      exact hB'.mono hle (setRow_other _ _ _ _ (Ne.symm hne))
  · intro i j M N cs1 e1 cs2 rw2 e2 hi hj hne hM hN
    rcases key _ _ _ _ hi with ⟨rfl, -, -, -⟩ | ⟨h1, h2, h3⟩
    · rcases key _ _ _ _ hj with ⟨rfl, -, -, -⟩ | ⟨k1, k2, k3⟩
      · exact absurd rfl hne
      · rw [upd_same] at hM; simp at hM; subst hM
        rw [hold j (lt _ _ k3)] at hN
        exact R.exc id j L N cs esz cs2 rw2 e2 hg k3 (Ne.symm k1) hL hN
    · rw [hold i (lt _ _ h3)] at hM
      rcases key _ _ _ _ hj with ⟨rfl, -, -, -⟩ | ⟨k1, k2, k3⟩
      · rw [upd_same] at hN; simp at hN; subst hN
        exact (R.exc i id M L cs1 e1 cs true esz h3 hg h1 hM hL)
      · rw [hold j (lt _ _ k3)] at hN
        exact R.exc i j M N cs1 e1 cs2 rw2 e2 h3 k3 hne hM hN

/-- Reading. -/
theorem cut_some {cs vs : List SV} {off n : Nat} (h : cut cs off n = some vs) : off + n ≤ cs.length ∧ vs.length = n ∧ ∀ (i : Nat) (v : SV), vs[i]? = some v → i < n ∧ cs[off + i]? = some v := by
  unfold cut at h
  split at h
  · simp at h; subst h
    refine ⟨by assumption, by simp; omega, fun i v hi => ?_⟩
    rw [List.getElem?_take] at hi
    split at hi
    · simp at hi; exact ⟨by assumption, hi⟩
    · simp at hi
  · simp at h

theorem readN_some {h : Heap} {id off n : Nat} {vs : List SV} (hr : readN h id off n = some vs) : ∃ cs rw esz, h[id]? = some (.cells cs rw esz) ∧ cut cs off n = some vs := by
  unfold readN at hr
  split at hr
  · exact ⟨_, _, _, by assumption, hr⟩
  · simp at hr

/-- The concrete cells behind a reading. -/
theorem read_cells {β : Bt} {h : Heap} {w : World} (R : Rep β h w) {id off n : Nat} {vs : List SV} {L : Loc} (hL : β id = some L) (hn : L.esz.n < 1000000) (hr : readN h id off n = some vs) :
    ∃ ws : List Value, F2 (SRel β) vs ws ∧ ws.length = n ∧ ∀ (j : Nat) (v : Value), ws[j]? = some v → w.cell? ⟨L.b, L.base + off + j, none⟩ = some v := by
  obtain ⟨cs, rw, esz, hg, hc⟩ := readN_some hr
  obtain ⟨h1, h2, h3⟩ := cut_some hc
  obtain ⟨_, ccs, e, fz, k1, k2, k3, k4, _⟩ := (R.blk id L cs rw esz hg hL).cell hn
  have hlen : (((ccs.toList.drop (L.base + off)).take n)).length = n := by simp; omega
  refine ⟨(ccs.toList.drop (L.base + off)).take n, ?_, hlen, ?_⟩
  · refine F2.of_get (by rw [h2, hlen]) fun i a b ha hb => ?_
    obtain ⟨hi, ha'⟩ := h3 i a ha
    obtain ⟨c, q1, q2⟩ := k4 _ _ ha'
    rw [List.getElem?_take, if_pos hi, List.getElem?_drop] at hb
    simp only [Array.getElem?_toList] at hb
    rw [show L.base + off + i = L.base + (off + i) by omega, q1] at hb
    simp at hb; subst hb; exact q2
  · intro j v hj
    rw [List.getElem?_take] at hj
    split at hj
    · rw [List.getElem?_drop, Array.getElem?_toList] at hj
      rw [cell_of_row w L.b _ ccs e fz k1]; exact hj
    · simp at hj

theorem Addr.add_off (b o j : Nat) : (⟨b, o, none⟩ : Addr).add j = ⟨b, o + j, none⟩ := by
  unfold Addr.add; split <;> simp_all

end Go.Ab

