import Derived.Test.YtofknpknogfijaaGreatDoorAb47
/- The same reckoning, quicker: an operation that plainly leaves the memory as it is (or lays a block behind it) needs no comparison. -/
namespace Go.Ab
set_option linter.unusedVariables false

/-- Kinds of operations that change nothing. -/
def quiet (ph : FuncId → Bool) : AK → Bool
  | .mv _ | .pick _ _ _ | .bin _ _ _ | .un _ _ | .conv _ _ | .len _ _ | .idxA _ _ _ | .fldA _ _ | .ld _ _ _ | .new _ | .ext _ _ => true
  | .call f _ => ph f
  | _ => false
theorem take_self (h : Heap) : ((h.take h.length == h) : Bool) = true := by rw [List.take_length]; exact beq_self_eq_true h
theorem quiet_ok {ph : FuncId → Bool} {cf : CF} (hph : ∀ f args h r, ph f = true → cf f args h = some r → r.2 = h) {E : Env} {h : Heap} {k : AK} {r : Option AV × Heap} (hq : quiet ph k = true) (hr : opRun cf E h k = some r) : (r.2.take h.length == h) = true := by
  have same : r.2 = h → (r.2.take h.length == h) = true := fun e => by rw [e]; exact take_self h
  cases k <;> simp only [quiet] at hq <;> try exact absurd hq (by decide)
  case mv x => simp only [opRun, step1, Option.map_eq_some_iff] at hr; obtain ⟨v, -, rfl⟩ := hr; exact take_self h
  case pick c a b =>
    simp only [opRun, step1] at hr
    split at hr
    · split at hr <;> (rw [Option.map_eq_some_iff] at hr; obtain ⟨v, -, rfl⟩ := hr; exact take_self h)
    · cases hr
  case bin op x y =>
    simp only [opRun, step1, Option.bind_eq_some_iff, Option.map_eq_some_iff] at hr
    obtain ⟨a, -, b, -, v, -, rfl⟩ := hr; exact take_self h
  case un op x =>
    simp only [opRun, step1, Option.bind_eq_some_iff, Option.map_eq_some_iff] at hr
    obtain ⟨a, -, v, -, rfl⟩ := hr; exact take_self h
  case conv kd x =>
    simp only [opRun, step1] at hr
    split at hr
    · cases hr; exact take_self h
    · cases hr
  case len s x =>
    simp only [opRun, step1, Option.bind_eq_some_iff, Option.map_eq_some_iff] at hr
    obtain ⟨a, -, v, -, rfl⟩ := hr; exact take_self h
  case idxA z x i =>
    simp only [opRun, step1] at hr
    split at hr
    · split at hr
      · cases hr; exact take_self h
      · cases hr
    · cases hr
  case fldA o x =>
    simp only [opRun, step1] at hr
    split at hr
    · cases hr; exact take_self h
    · cases hr
  case ld n g x =>
    simp only [opRun, step1] at hr
    split at hr
    · simp only [Option.bind_eq_some_iff, Option.map_eq_some_iff] at hr
      obtain ⟨a, -, v, -, rfl⟩ := hr; exact take_self h
    · cases hr
  case new z =>
    simp only [opRun, step1, Option.some.injEq] at hr
    subst hr
    show ((h ++ _).take h.length == h) = true
    rw [List.take_left]; exact beq_self_eq_true h
  case ext x i =>
    simp only [opRun, step1] at hr
    split at hr
    · rw [Option.map_eq_some_iff] at hr; obtain ⟨v, -, rfl⟩ := hr; exact take_self h
    · cases hr
  case call f args =>
    simp only [opRun, Option.bind_eq_some_iff, Option.map_eq_some_iff] at hr
    obtain ⟨vs, -, q, hq2, rfl⟩ := hr
    exact same (hph f vs h q hq hq2)

/-! Each kind of operation by itself: small terms for the kernel. -/
def fMv (E : Env) (h : Heap) (x : AO) : Option (Option AV × Heap) := (ev E x).map fun v => (some v, h)
def fPick (E : Env) (h : Heap) (c a b : AO) : Option (Option AV × Heap) := match evS E c with
  | some (.bool t) => if t = true then (ev E a).map fun v => (some v, h) else (ev E b).map fun v => (some v, h)
  | _ => none
def fBin (E : Env) (h : Heap) (op : BinOp) (x y : AO) : Option (Option AV × Heap) := (evS E x).bind fun a => (evS E y).bind fun b => (binS op a b).map fun v => (some (.sc v), h)
def fUn (E : Env) (h : Heap) (op : UnOp) (x : AO) : Option (Option AV × Heap) := (evS E x).bind fun a => (unS op a).map fun v => (some (.sc v), h)
def fConv (E : Env) (h : Heap) (k : IntKind) (x : AO) : Option (Option AV × Heap) := match evS E x with
  | some (.int _ n) => some (some (.sc (wrapI k n)), h)
  | _ => none
def fLen (E : Env) (h : Heap) (str : Bool) (x : AO) : Option (Option AV × Heap) := (evS E x).bind fun a => (lenS str a).map fun n => (some (.sc (.int .i64 n)), h)
def fIdx (E : Env) (h : Heap) (esz : Nat) (x i : AO) : Option (Option AV × Heap) := match evS E x, evS E i with
  | some (.slc id off n _), some (.int _ j) => if 0 ≤ j ∧ j < n then some (some (.sc (.ptr id (off + j.toNat * esz))), h) else none
  | _, _ => none
def fFldA (E : Env) (h : Heap) (off : Nat) (x : AO) : Option (Option AV × Heap) := match evS E x with
  | some (.ptr id o) => some (some (.sc (.ptr id (o + off))), h)
  | _ => none
def fLd (E : Env) (h : Heap) (n : Nat) (agg : Bool) (x : AO) : Option (Option AV × Heap) := match evS E x with
  | some (.ptr id off) => (readN h id off n).bind fun vs => (cellsAV agg vs).map fun v => (some v, h)
  | _ => none
def fSt (E : Env) (h : Heap) (n : Nat) (a x : AO) : Option (Option AV × Heap) := match evS E a with
  | some (.ptr id off) => (ev E x).bind fun v => v.cells.bind fun vs => if vs.length = n then (writeN h id off vs).map fun h' => (none, h') else none
  | _ => none
def fBox (E : Env) (h : Heap) (x : AO) : Option (Option AV × Heap) := (ev E x).bind fun v => v.cells.map fun vs => (some (.sc (.ptr h.length 0)), h ++ [.cells vs true 0])
def fNew (h : Heap) (zero : List SV) : Option (Option AV × Heap) := some (some (.sc (.ptr h.length 0)), h ++ [.cells zero true 0])
def fMk (E : Env) (h : Heap) (esz : ESz) (bytes : Nat) (zero : List SV) (l c : AO) : Option (Option AV × Heap) := match evS E l, evS E c with
  | some (.int _ n), some (.int _ m) => if 0 ≤ n ∧ n ≤ m ∧ m * (bytes + 1 : Nat) ≤ bigN then
      some (some (.sc (.slc h.length 0 n.toNat (some m.toNat))), h ++ [.cells (rep zero m.toNat) true esz]) else none
  | _, _ => none
def fExt (E : Env) (h : Heap) (x : AO) (i : Nat) : Option (Option AV × Heap) := match ev E x with
  | some (.tup xs) => (xs[i]?).map fun p => (some p.av, h)
  | _ => none
def fCall (cf : CF) (E : Env) (h : Heap) (f : FuncId) (args : List AO) : Option (Option AV × Heap) := (evs E args).bind fun vs => (cf f vs h).map fun r => (some r.1, r.2)
def opRunF (cf : CF) (E : Env) (h : Heap) (k : AK) : Option (Option AV × Heap) := match k with
  | .mv x => fMv E h x
  | .pick c a b => fPick E h c a b
  | .bin op x y => fBin E h op x y
  | .un op x => fUn E h op x
  | .conv k x => fConv E h k x
  | .len s x => fLen E h s x
  | .idxA z x i => fIdx E h z x i
  | .fldA o x => fFldA E h o x
  | .ld n g x => fLd E h n g x
  | .st n a x => fSt E h n a x
  | .box x => fBox E h x
  | .new z => fNew h z
  | .mk z b zero l c => fMk E h z b zero l c
  | .ext x i => fExt E h x i
  | .call f args => fCall cf E h f args
  | k => opRun cf E h k
theorem opRunF_eq (cf : CF) (E : Env) (h : Heap) (k : AK) : opRunF cf E h k = opRun cf E h k := by cases k <;> rfl
def bindR (d : Option Nat) (E : Env) (r : Option AV × Heap) : Env × Heap := (bindE d r.1 E, r.2)
def runOpF (cf : CF) (o : AOp) (E : Env) (h : Heap) : Option (Env × Heap) :=
  match wants E o.guard with
  | some true => (opRunF cf E h o.k).map (bindR o.dst E)
  | some false => some (bindE o.dst (some (.tup [])) E, h)
  | none => none
def runOpsN (cf : CF) : List AOp → Env → Heap → Option (Env × Heap)
  | [], E, h => some (E, h)
  | o :: r, E, h => match runOpF cf o E h with
    | some (E', h') => runOpsN cf r E' h'
    | none => none
def runOpsF (ph : FuncId → Bool) (cf : CF) : List (AOp × Bool) → Env → Heap → Option (Env × Heap)
  | [], E, h => some (E, h)
  | (o, ord) :: r, E, h => match runOpF cf o E h with
    | some (E', h') => if ord || quiet ph o.k || h'.take h.length == h then runOpsF ph cf r E' h' else none
    | none => none
def execF (ph : FuncId → Bool) (cf : CF) (n : Nat) : AC → Env → Heap → Out
  | .skip, E, h => some (.nm, E, h)
  | .ret, E, h => some (.rt, E, h)
  | .exit id, E, h => some (.ex id, E, h)
  | .reg ops keep, E, h => (runOpsN cf ops E h).map fun r => (.nm, r.1.keep keep, r.2)
  | .regd ops keep, E, h => (runOpsF ph cf (ops.map fun p => (p.1, p.2.2)) E h).map fun r => (.nm, r.1.keep keep, r.2)
  | .regs ops fr keep, E, h => (runOpsS cf (ldIds cf ops E h) (alIds cf fr ops E h) fr ops E h).map fun r => (.nm, r.1.keep keep, r.2)
  | .seq a b, E, h => match execF ph cf n a E h with
    | some (.nm, E', h') => execF ph cf n b E' h'
    | r => r
  | .cond c a b, E, h => match evS E c with
    | some (.bool t) => if t = true then execF ph cf n a E h else execF ph cf n b E h
    | _ => none
  | .block id a, E, h => match execF ph cf n a E h with
    | some (.ex i, E', h') => if i = id then some (.nm, E', h') else some (.ex i, E', h')
    | r => r
  | .loop keep a, E, h => iter keep (execF ph cf n a) n E h
  | .scope a, E, h => execF ph cf n a E h
def callF (ph : FuncId → Bool) (FT : FuncId → Option AFun) (HK : FuncId → Option Hook) : Nat → CF
  | 0 => fun _ _ _ => none
  | n + 1 => fun f args h =>
    match HK f with
    | some g => g args h
    | none =>
      match FT f with
      | none => none
      | some F => if args.length = F.np then finish F (execF ph (callF ph FT HK n) n F.body (params 0 args) h) else none
/-- Hooks that leave the memory as it is. -/
def PureHK (ph : FuncId → Bool) (HK : FuncId → Option Hook) : Prop := ∀ f, ph f = true → ∃ g, HK f = some g ∧ ∀ args h r, g args h = some r → r.2 = h
end Go.Ab


/- The same reckoning over a memory whose latest blocks come first: for the kernel. Whatever it finds is what is reckoned. -/
namespace Go.Ab
set_option linter.unusedVariables false
set_option linter.unusedSimpArgs false

/-! Names looked up. -/
def getQ : Env → Nat → Option AV
  | [], _ => none
  | (k, v) :: r, t => bif Nat.beq k t then v else getQ r t
theorem getQ_eq : ∀ (E : Env) (t : Nat), getQ E t = E.get t
  | [], _ => rfl
  | (k, v) :: r, t => by
    unfold getQ Env.get
    rw [getQ_eq r t]
    by_cases h : k = t
    · rw [if_pos h, h, Nat.beq_refl]; rfl
    · rw [if_neg h, show Nat.beq k t = false by cases hb : Nat.beq k t; rfl; exact absurd (Nat.eq_of_beq_eq_true hb) h]; rfl
def keepQ (E : Env) (ks : List Nat) : Env := ks.map fun t => (t, getQ E t)
theorem keepQ_eq (E : Env) (ks : List Nat) : keepQ E ks = E.keep ks := by unfold keepQ Env.keep; simp only [getQ_eq]
def evQ (E : Env) : AO → Option AV
  | .t n => getQ E n
  | .k v => some v
theorem evQ_eq (E : Env) (x : AO) : evQ E x = ev E x := by cases x; exact getQ_eq _ _; rfl
def evSQ (E : Env) (x : AO) : Option SV := match evQ E x with
  | some (.sc v) => some v
  | _ => none
theorem evSQ_eq (E : Env) (x : AO) : evSQ E x = evS E x := by unfold evSQ evS; rw [evQ_eq]; rfl
def evsQ (E : Env) : List AO → Option (List AV)
  | [] => some []
  | x :: r => (evQ E x).bind fun v => (evsQ E r).map (v :: ·)
theorem evsQ_eq (E : Env) : ∀ xs, evsQ E xs = evs E xs
  | [] => rfl
  | x :: r => by unfold evsQ evs; rw [evQ_eq, evsQ_eq E r]

/-! The memory. -/
abbrev RH := Nat × List Blk
def RH.h (r : RH) : Heap := r.2.reverse
def RH.Ok (r : RH) : Prop := r.1 = r.2.length
theorem RH.Ok.len {r : RH} (o : r.Ok) : r.h.length = r.1 := by unfold RH.h; rw [List.length_reverse]; exact o.symm
def rget (r : RH) (id : Nat) : Option Blk := if id < r.1 then r.2[r.1 - 1 - id]? else none
theorem rget_eq {r : RH} (o : r.Ok) (id : Nat) : rget r id = r.h[id]? := by
  unfold rget RH.h
  unfold RH.Ok at o
  split
  · rw [List.getElem?_reverse (by omega), o]
  · rw [List.getElem?_eq_none (by simp; omega)]
def rset (r : RH) (id : Nat) (b : Blk) : RH := (r.1, r.2.set (r.1 - 1 - id) b)
theorem rset_ok {r : RH} (o : r.Ok) (id : Nat) (b : Blk) : (rset r id b).Ok := by unfold RH.Ok rset at *; simpa using o
theorem rset_h {r : RH} (o : r.Ok) {id : Nat} (h : id < r.1) (b : Blk) : (rset r id b).h = r.h.set id b := by
  unfold RH.h rset
  unfold RH.Ok at o
  apply List.ext_getElem?
  intro i
  rcases Nat.lt_or_ge i r.2.length with hi | hi
  · rw [List.getElem?_reverse (by simpa using hi), List.getElem?_set, List.getElem?_set, List.length_set, List.getElem?_reverse hi, List.length_reverse]
    by_cases e : id = i
    · subst e
      rw [if_pos (by omega), if_pos rfl, if_pos (by omega), if_pos hi]
    · rw [if_neg (by omega), if_neg e]
  · rw [List.getElem?_eq_none (by simpa using hi), List.getElem?_eq_none (by simpa using hi)]
def rpush (r : RH) (b : Blk) : RH := frc (r.1 + 1) fun m => (m, b :: r.2)
theorem rpush_ok {r : RH} (o : r.Ok) (b : Blk) : (rpush r b).Ok := by unfold rpush; rw [frc_eq]; unfold RH.Ok at *; simp [o]
theorem rpush_h (r : RH) (b : Blk) : (rpush r b).h = r.h ++ [b] := by unfold rpush; rw [frc_eq]; simp [RH.h]
theorem rget_lt {r : RH} {id : Nat} {b : Blk} (h : rget r id = some b) : id < r.1 := by
  unfold rget at h
  split at h
  · assumption
  · cases h
def rreadN (r : RH) (id off n : Nat) : Option (List SV) := match rget r id with
  | some (.cells cs _ _) => cut cs off n
  | _ => none
theorem rreadN_eq {r : RH} (o : r.Ok) (id off n : Nat) : rreadN r id off n = readN r.h id off n := by unfold rreadN readN; rw [rget_eq o]; rfl
def rwriteN (r : RH) (id off : Nat) (vs : List SV) : Option RH := match rget r id with
  | some (.cells cs true esz) => if off + vs.length ≤ cs.length then some (rset r id (.cells (splice cs off vs) true esz)) else none
  | _ => none
theorem rwriteN_ok {r r' : RH} (o : r.Ok) {id off : Nat} {vs : List SV} (h : rwriteN r id off vs = some r') : r'.Ok ∧ writeN r.h id off vs = some r'.h := by
  unfold rwriteN at h
  split at h
  · rename_i cs esz hg
    split at h
    · rename_i hl
      cases h
      refine ⟨rset_ok o _ _, ?_⟩
      unfold writeN
      rw [← rget_eq o, hg]
      simp only
      rw [if_pos hl, rset_h o (rget_lt hg)]
    · cases h
  · cases h
def rsrc (r : RH) (esz : Nat) : SV → Option (Nat × List SV)
  | .nilS => some (0, [])
  | .slc id off n _ => if n = 0 then some (0, []) else (rreadN r id off (n * esz)).map (n, ·)
  | .str s => if esz = 1 then some (s.size, s.data.toList.map fun b => .int .u8 b.toNat) else none
  | _ => none
theorem rsrc_eq {r : RH} (o : r.Ok) (esz : Nat) (s : SV) : rsrc r esz s = srcCells r.h esz s := by
  cases s <;> first | rfl | (simp only [rsrc, srcCells]; rw [rreadN_eq o])
def rapp (r : RH) (esz : ESz) (bytes : Nat) (s : SV) (m : Nat) (vs : List SV) : Option (SV × RH) :=
  match s with
  | .nilS => if m = 0 then some (.nilS, r) else if m * (bytes + 1) ≤ bigN then some (.slc r.1 0 m none, rpush r (.cells vs true esz)) else none
  | .slc id off n cap =>
    if m = 0 then some (.slc id off n cap, r) else
    if (n + m) * (bytes + 1) ≤ bigN then
      match rget r id with
      | some (.cells cs rw e) =>
        if e = esz then
          match cut cs off (n * esz.n) with
          | some old =>
            match cap with
            | some c =>
              if c < n + m then some (.slc r.1 0 (n + m) none, rpush r (.cells (old ++ vs) true esz))
              else (rwriteN r id (off + n * esz.n) vs).map fun h' => (.slc id off (n + m) (some c), h')
            | none => if rw = true ∧ (esz.ty = none ∨ off = 0) then some (.slc r.1 0 (n + m) none, rpush (rset r id (.dead esz)) (.cells (old ++ vs) true esz)) else none
          | none => none
        else none
      | _ => none
    else none
  | _ => none
theorem rapp_ok {r r' : RH} (o : r.Ok) {esz : ESz} {bytes m : Nat} {s s' : SV} {vs : List SV} (h : rapp r esz bytes s m vs = some (s', r')) : r'.Ok ∧ appS r.h esz bytes s m vs = some (s', r'.h) := by
  have el := o.len
  unfold rapp at h
  split at h
  · split at h
    · rename_i h0; cases h; exact ⟨o, by unfold appS; simp only; rw [if_pos h0]⟩
    · rename_i h0
      split at h
      · rename_i h1; cases h
        exact ⟨rpush_ok o _, by unfold appS; simp only; rw [if_neg h0, if_pos h1, rpush_h, el]⟩
      · cases h
  · rename_i id off n cap
    unfold appS
    simp only
    split at h
    · rename_i h0; cases h; rw [if_pos h0]; exact ⟨o, rfl⟩
    · rename_i h0
      rw [if_neg h0]
      split at h
      · rename_i h1
        rw [if_pos h1]
        split at h
        · rename_i cs rw' e hg
          rw [← rget_eq o, hg]
          simp only
          split at h
          · rename_i h2
            rw [if_pos h2]
            split at h
            · rename_i old h3
              rw [h3]
              simp only
              split at h
              · rename_i c
                simp only
                split at h
                · rename_i h4; cases h
                  rw [if_pos h4, rpush_h, el]; exact ⟨rpush_ok o _, rfl⟩
                · rename_i h4
                  rw [if_neg h4]
                  rw [Option.map_eq_some_iff] at h
                  obtain ⟨q, hq, e⟩ := h
                  cases e
                  obtain ⟨k1, k2⟩ := rwriteN_ok o hq
                  rw [k2]; exact ⟨k1, rfl⟩
              · simp only
                split at h
                · rename_i h4; cases h
                  rw [if_pos h4, rpush_h, rset_h o (rget_lt hg), el]
                  exact ⟨rpush_ok (rset_ok o _ _) _, rfl⟩
                · cases h
            · cases h
          · cases h
        · cases h
      · cases h
  · cases h
def rslice (r : RH) (esz : ESz) (lo hi : Nat) : SV → Option SV
  | .nilS => if lo = 0 ∧ hi = 0 then some .nilS else none
  | .slc id off n cap => match rget r id with
    | some b => if b.esz = esz ∧ lo ≤ hi ∧ hi ≤ n then some (.slc id (off + lo * esz.n) (hi - lo) (cap.map (· - lo))) else none
    | _ => none
  | _ => none
theorem rslice_eq {r : RH} (o : r.Ok) (esz : ESz) (lo hi : Nat) (s : SV) : rslice r esz lo hi s = sliceS r.h esz lo hi s := by
  cases s <;> first | rfl | (simp only [rslice, sliceS]; rw [rget_eq o]; rfl)

/-! Operations. -/
abbrev CR := FuncId → List AV → RH → Option (AV × RH)
def SimCF (cr : CR) (cf : CF) : Prop := ∀ f args r v r', r.Ok → cr f args r = some (v, r') → r'.Ok ∧ cf f args r.h = some (v, r'.h)
/-- Operations that do not look into memory. -/
def plainK : AK → Bool
  | .mm _ _ _ | .bld _ _ | .ext _ _ | .mkf _ _ | .nilc _ | .isnil _ _ _ | .beq _ _ _ | .seq2 _ _ _ | .idxS _ _ | .car _ _ _ _ | .sl1 _ _ _ | .usd _ => true
  | _ => false
theorem plainK_ok {cf : CF} {E : Env} {k : AK} (hp : plainK k = true) {h : Heap} {v : Option AV} {h2 : Heap} (hr : step1 E [] k = some (v, h2)) : opRun cf E h k = some (v, h) := by
  cases k <;> simp only [plainK] at hp <;> try exact absurd hp (by decide)
  all_goals simp only [step1, opRun] at hr ⊢
  case mm => simp only [Option.bind_eq_some_iff, Option.map_eq_some_iff] at hr ⊢; obtain ⟨a, h1, b, h2, c, h3, e⟩ := hr; cases e; exact ⟨a, h1, b, h2, c, h3, rfl⟩
  case bld => simp only [Option.bind_eq_some_iff, Option.map_eq_some_iff] at hr ⊢; obtain ⟨a, h1, b, h2, e⟩ := hr; cases e; exact ⟨a, h1, b, h2, rfl⟩
  case isnil => simp only [Option.bind_eq_some_iff, Option.map_eq_some_iff] at hr ⊢; obtain ⟨a, h1, b, h2, e⟩ := hr; cases e; exact ⟨a, h1, b, h2, rfl⟩
  case mkf => simp only [Option.bind_eq_some_iff, Option.map_eq_some_iff] at hr ⊢; obtain ⟨a, h1, b, h2, e⟩ := hr; cases e; exact ⟨a, h1, b, h2, rfl⟩
  case sl1 => simp only [Option.bind_eq_some_iff, Option.map_eq_some_iff] at hr ⊢; obtain ⟨a, h1, b, h2, c, h3, d, h4, f, h5, e⟩ := hr; cases e; exact ⟨a, h1, b, h2, c, h3, d, h4, f, h5, rfl⟩
  case idxS x i =>
    split at hr
    · rename_i s kd j e1 e2
      split at hr
      · rename_i hj
        rw [Option.map_eq_some_iff] at hr
        obtain ⟨b, h1, e⟩ := hr
        cases e
        rw [if_pos hj, h1]; rfl
      · cases hr
    · cases hr
  all_goals repeat' split at hr
  all_goals first
    | (cases hr; done)
    | (simp only [Option.bind_eq_some_iff, Option.map_eq_some_iff] at hr ⊢; obtain ⟨a, h1, b, h2, e⟩ := hr; cases e; exact ⟨a, h1, b, h2, rfl⟩)
    | (simp only [Option.map_eq_some_iff] at hr ⊢; obtain ⟨a, h1, e⟩ := hr; cases e; exact ⟨a, h1, rfl⟩)
    | (cases hr; simp only [*, and_self, if_true, if_false]; done)
    | (cases hr; rfl)
    | (cases hr; simp [*]; done)
def opR (cr : CR) (E : Env) (r : RH) (k : AK) : Option (Option AV × RH) := match k with
  | .mv x => (evQ E x).map fun v => (some v, r)
  | .pick c a b => match evSQ E c with
    | some (.bool t) => if t = true then (evQ E a).map fun v => (some v, r) else (evQ E b).map fun v => (some v, r)
    | _ => none
  | .bin op x y => (evSQ E x).bind fun a => (evSQ E y).bind fun b => (binS op a b).map fun v => (some (.sc v), r)
  | .un op x => (evSQ E x).bind fun a => (unS op a).map fun v => (some (.sc v), r)
  | .conv k x => match evSQ E x with
    | some (.int _ n) => some (some (.sc (wrapI k n)), r)
    | _ => none
  | .len s x => (evSQ E x).bind fun a => (lenS s a).map fun n => (some (.sc (.int .i64 n)), r)
  | .idxA esz x i => match evSQ E x, evSQ E i with
    | some (.slc id off n _), some (.int _ j) => if 0 ≤ j ∧ j < n then some (some (.sc (.ptr id (off + j.toNat * esz))), r) else none
    | _, _ => none
  | .fldA off x => match evSQ E x with
    | some (.ptr id o) => some (some (.sc (.ptr id (o + off))), r)
    | _ => none
  | .ld n g x => match evSQ E x with
    | some (.ptr id off) => (rreadN r id off n).bind fun vs => (cellsAV g vs).map fun v => (some v, r)
    | _ => none
  | .st n a x => match evSQ E a with
    | some (.ptr id off) => (evQ E x).bind fun v => v.cells.bind fun vs => if vs.length = n then (rwriteN r id off vs).map fun h' => (none, h') else none
    | _ => none
  | .new z => some (some (.sc (.ptr r.1 0)), rpush r (.cells z true 0))
  | .box x => (evQ E x).bind fun v => v.cells.map fun vs => (some (.sc (.ptr r.1 0)), rpush r (.cells vs true 0))
  | .newT t z => some (some (.sc (.ptr r.1 0)), rpush r (.cells z true ⟨0, some t⟩))
  | .bsl esz zero len parts => if len * esz.n ≤ 16777216 then
      (evParts E (parts.map fun p => (p.1 * esz.n, esz.n, p.2))).bind fun ps => (fillA (rep zero len) ps).map fun cs => (some (.sc (.slc r.1 0 len (some len))), rpush r (.cells cs true esz))
    else none
  | .mk esz bytes zero l c => match evSQ E l, evSQ E c with
    | some (.int _ n), some (.int _ m) => if 0 ≤ n ∧ n ≤ m ∧ m * (bytes + 1 : Nat) ≤ bigN then
        some (some (.sc (.slc r.1 0 n.toNat (some m.toNat))), rpush r (.cells (rep zero m.toNat) true esz)) else none
    | _, _ => none
  | .sl esz x lo hi => (evSQ E x).bind fun v => (lenS false v).bind fun n => (bnd E 0 lo).bind fun l => (bnd E n.toNat hi).bind fun u => (rslice r esz l u v).map fun s => (some (.sc s), r)
  | .app esz bytes _ x y => (evSQ E x).bind fun s => (evSQ E y).bind fun t => (rsrc r esz.n t).bind fun p => (rapp r esz bytes s p.1 p.2).map fun q => (some (.sc q.1), q.2)
  | .ustr t x n => match evSQ E x, evSQ E n with
    | some (.ptr id 0), some (.int .i64 m) => match rget r id with
      | some (.cells cs true z) => if 0 < m ∧ m ≤ 9223372036854775807 ∧ z = ⟨1, some t⟩ then (cut cs 0 m.toNat).bind fun vs => (bytesOf vs).map fun l => (some (.sc (.str ⟨l.toArray⟩)), rset r id (.cells cs false z)) else none
      | _ => none
    | some .nilP, some (.int .i64 m) => if m = 0 then some (some (.sc (.str .empty)), r) else none
    | _, _ => none
  | .call f args => (evsQ E args).bind fun vs => (cr f vs r).map fun q => (some q.1, q.2)
  | .callv x args => match evSQ E x with
    | some (.fn f caps) => (evsQ E args).bind fun vs => (cr f (vs ++ caps.map fun p => AV.sc (.ptr p.1 p.2)) r).map fun q => (some q.1, q.2)
    | _ => none
  | k => if plainK k then (step1 E [] k).map fun q => (q.1, r) else none
theorem opR_ok {cr : CR} {cf : CF} (sim : SimCF cr cf) {E : Env} {r : RH} (o : r.Ok) {k : AK} {v : Option AV} {r' : RH} (h : opR cr E r k = some (v, r')) : r'.Ok ∧ opRun cf E r.h k = some (v, r'.h) := by
  have el := o.len
  have gen : (if plainK k then (step1 E [] k).map fun q => (q.1, r) else none) = some (v, r') → r'.Ok ∧ opRun cf E r.h k = some (v, r'.h) := fun h => by
    split at h
    · rename_i hp
      rw [Option.map_eq_some_iff] at h
      obtain ⟨⟨v2, h2⟩, e1, e2⟩ := h
      cases e2
      exact ⟨o, plainK_ok hp e1⟩
    · cases h
  cases k
  case mv x =>
    simp only [opR, evQ_eq, Option.map_eq_some_iff] at h
    obtain ⟨a, h1, e⟩ := h; cases e
    exact ⟨o, by simp only [opRun, step1, h1, Option.map_some]⟩
  case pick c a b =>
    simp only [opR, evQ_eq, evSQ_eq] at h
    split at h
    · rename_i t ht
      split at h
      · rename_i hb
        rw [Option.map_eq_some_iff] at h; obtain ⟨a, h1, e⟩ := h; cases e
        exact ⟨o, by simp only [opRun, step1, ht]; rw [if_pos hb, h1]; rfl⟩
      · rename_i hb
        rw [Option.map_eq_some_iff] at h; obtain ⟨a, h1, e⟩ := h; cases e
        exact ⟨o, by simp only [opRun, step1, ht]; rw [if_neg hb, h1]; rfl⟩
    · cases h
  case bin op x y =>
    simp only [opR, evSQ_eq, Option.bind_eq_some_iff, Option.map_eq_some_iff] at h
    obtain ⟨a, h1, b, h2, c, h3, e⟩ := h; cases e
    exact ⟨o, by simp only [opRun, step1, h1, h2, h3, Option.bind_some, Option.map_some]⟩
  case un op x =>
    simp only [opR, evSQ_eq, Option.bind_eq_some_iff, Option.map_eq_some_iff] at h
    obtain ⟨a, h1, c, h3, e⟩ := h; cases e
    exact ⟨o, by simp only [opRun, step1, h1, h3, Option.bind_some, Option.map_some]⟩
  case conv kd x =>
    simp only [opR, evSQ_eq] at h
    split at h
    · rename_i h1; cases h
      exact ⟨o, by simp only [opRun, step1, h1]⟩
    · cases h
  case len s x =>
    simp only [opR, evSQ_eq, Option.bind_eq_some_iff, Option.map_eq_some_iff] at h
    obtain ⟨a, h1, c, h3, e⟩ := h; cases e
    exact ⟨o, by simp only [opRun, step1, h1, h3, Option.bind_some, Option.map_some]⟩
  case idxA esz x i =>
    simp only [opR, evSQ_eq] at h
    split at h
    · rename_i h1 h2
      split at h
      · rename_i h3; cases h
        exact ⟨o, by simp only [opRun, step1, h1, h2]; rw [if_pos h3]⟩
      · cases h
    · cases h
  case fldA off x =>
    simp only [opR, evSQ_eq] at h
    split at h
    · rename_i h1; cases h
      exact ⟨o, by simp only [opRun, step1, h1]⟩
    · cases h
  case ld n g x =>
    simp only [opR, evSQ_eq] at h
    split at h
    · rename_i h1
      simp only [Option.bind_eq_some_iff, Option.map_eq_some_iff] at h
      obtain ⟨a, h2, c, h3, e⟩ := h; cases e
      rw [rreadN_eq o] at h2
      exact ⟨o, by simp only [opRun, step1, h1, h2, h3, Option.bind_some, Option.map_some]⟩
    · cases h
  case st n a x =>
    simp only [opR, evSQ_eq, evQ_eq] at h
    split at h
    · rename_i h1
      simp only [Option.bind_eq_some_iff] at h
      obtain ⟨a, h2, c, h3, h4⟩ := h
      split at h4
      · rename_i h5
        rw [Option.map_eq_some_iff] at h4
        obtain ⟨q, h6, e⟩ := h4; cases e
        obtain ⟨k1, k2⟩ := rwriteN_ok o h6
        exact ⟨k1, by simp only [opRun, step1, h1, h2, h3, Option.bind_some]; rw [if_pos h5, k2]; rfl⟩
      · cases h4
    · cases h
  case new z =>
    simp only [opR, Option.some.injEq, Prod.mk.injEq] at h
    obtain ⟨rfl, rfl⟩ := h
    exact ⟨rpush_ok o _, by simp only [opRun, step1]; rw [rpush_h, el]⟩
  case newT t z =>
    simp only [opR, Option.some.injEq, Prod.mk.injEq] at h
    obtain ⟨rfl, rfl⟩ := h
    exact ⟨rpush_ok o _, by simp only [opRun, step1]; rw [rpush_h, el]⟩
  case box x =>
    simp only [opR, evQ_eq, Option.bind_eq_some_iff, Option.map_eq_some_iff] at h
    obtain ⟨a, h1, b, h2, e⟩ := h; cases e
    exact ⟨rpush_ok o _, by simp only [opRun, step1, h1, h2, Option.bind_some, Option.map_some]; rw [rpush_h, el]⟩
  case bsl esz zero len parts =>
    simp only [opR] at h
    split at h
    · rename_i h0
      simp only [Option.bind_eq_some_iff, Option.map_eq_some_iff] at h
      obtain ⟨a, h1, b, h2, e⟩ := h; cases e
      exact ⟨rpush_ok o _, by simp only [opRun, step1]; rw [if_pos h0]; simp only [h1, h2, Option.bind_some, Option.map_some]; rw [rpush_h, el]⟩
    · cases h
  case mk esz bytes zero l c =>
    simp only [opR, evSQ_eq] at h
    split at h
    · rename_i h1 h2
      split at h
      · rename_i h3; cases h
        exact ⟨rpush_ok o _, by simp only [opRun, step1, h1, h2]; rw [if_pos h3, rpush_h, el]⟩
      · cases h
    · cases h
  case sl esz x lo hi =>
    simp only [opR, evSQ_eq, Option.bind_eq_some_iff, Option.map_eq_some_iff] at h
    obtain ⟨a, h1, b, h2, c, h3, d, h4, f, h5, e⟩ := h; cases e
    rw [rslice_eq o] at h5
    exact ⟨o, by simp only [opRun, step1, h1, h2, h3, h4, h5, Option.bind_some, Option.map_some]⟩
  case app esz bytes z x y =>
    simp only [opR, evSQ_eq, Option.bind_eq_some_iff, Option.map_eq_some_iff] at h
    obtain ⟨a, h1, b, h2, c, h3, ⟨s', r2⟩, h5, e⟩ := h; cases e
    rw [rsrc_eq o] at h3
    obtain ⟨k1, k2⟩ := rapp_ok o h5
    exact ⟨k1, by simp only [opRun, step1, h1, h2, h3, Option.bind_some]; rw [k2]; rfl⟩
  case ustr t x n =>
    simp only [opR, evSQ_eq] at h
    split at h
    · rename_i id m h1 h2
      split at h
      · rename_i cs z hg
        split at h
        · rename_i h3
          simp only [Option.bind_eq_some_iff, Option.map_eq_some_iff] at h
          obtain ⟨a, h4, b, h5, e⟩ := h; cases e
          refine ⟨rset_ok o _ _, ?_⟩
          have hg2 := hg
          rw [rget_eq o] at hg2
          simp only [opRun, step1, h1, h2, hg2]
          rw [if_pos h3, h4, Option.bind_some, h5, rset_h o (rget_lt hg)]; rfl
        · cases h
      · cases h
    · rename_i m h1 h2
      split at h
      · rename_i h3; cases h
        exact ⟨o, by simp only [opRun, step1, h1, h2]; rw [if_pos h3]⟩
      · cases h
    · cases h
  case call f args =>
    simp only [opR, evsQ_eq, Option.bind_eq_some_iff, Option.map_eq_some_iff] at h
    obtain ⟨a, h1, ⟨q1, q2⟩, h2, e⟩ := h; cases e
    obtain ⟨k1, k2⟩ := sim _ _ _ _ _ o h2
    exact ⟨k1, by simp only [opRun, h1, Option.bind_some, k2, Option.map_some]⟩
  case callv x args =>
    simp only [opR, evSQ_eq, evsQ_eq] at h
    split at h
    · rename_i h0
      simp only [Option.bind_eq_some_iff, Option.map_eq_some_iff] at h
      obtain ⟨a, h1, ⟨q1, q2⟩, h2, e⟩ := h; cases e
      obtain ⟨k1, k2⟩ := sim _ _ _ _ _ o h2
      exact ⟨k1, by simp only [opRun, h0, h1, Option.bind_some, k2, Option.map_some]⟩
    · cases h
  all_goals exact gen h
def runOpR (cr : CR) (o : AOp) (E : Env) (r : RH) : Option (Env × RH) :=
  match wants E o.guard with
  | some true => (opR cr E r o.k).map fun q => (bindE o.dst q.1 E, q.2)
  | some false => some (bindE o.dst (some (.tup [])) E, r)
  | none => none
theorem runOpR_ok {cr : CR} {cf : CF} (sim : SimCF cr cf) {o : AOp} {E E' : Env} {r r' : RH} (ok : r.Ok) (h : runOpR cr o E r = some (E', r')) : r'.Ok ∧ runOp cf o E r.h = some (E', r'.h) := by
  unfold runOpR at h
  unfold runOp
  split at h
  · rename_i hw
    rw [hw]
    rw [Option.map_eq_some_iff] at h
    obtain ⟨⟨v, q⟩, h1, e⟩ := h; cases e
    obtain ⟨k1, k2⟩ := opR_ok sim ok h1
    exact ⟨k1, by simp only [k2, Option.map_some]⟩
  · rename_i hw
    rw [hw]; cases h
    exact ⟨ok, rfl⟩
  · cases h
def runOpsR (cr : CR) : List AOp → Env → RH → Option (Env × RH)
  | [], E, r => some (E, r)
  | o :: rs, E, r => match runOpR cr o E r with
    | some (E', r') => runOpsR cr rs E' r'
    | none => none
theorem runOpsR_ok {cr : CR} {cf : CF} (sim : SimCF cr cf) : ∀ {ops : List AOp} {E E' : Env} {r r' : RH}, r.Ok → runOpsR cr ops E r = some (E', r') → r'.Ok ∧ runOps cf ops E r.h = some (E', r'.h)
  | [], E, E', r, r', ok, h => by cases h; exact ⟨ok, rfl⟩
  | o :: rs, E, E', r, r', ok, h => by
    unfold runOpsR at h
    split at h
    · rename_i E1 r1 h1
      obtain ⟨k1, k2⟩ := runOpR_ok sim ok h1
      unfold runOps
      rw [k2]
      exact runOpsR_ok sim k1 h
    · cases h
/-- What was there is there still. -/
def tailB (r' r : RH) : Bool := decide (r.1 ≤ r'.1) && decide (r'.2.drop (r'.1 - r.1) = r.2)
theorem tailB_ok {r r' : RH} (o : r.Ok) (o' : r'.Ok) (h : tailB r' r = true) : (r'.h.take r.h.length == r.h) = true := by
  unfold tailB at h
  rw [Bool.and_eq_true, decide_eq_true_iff, decide_eq_true_iff] at h
  have e : r'.h.take r.h.length = r.h := by
    unfold RH.Ok at o o'
    unfold RH.h
    rw [List.length_reverse, List.take_reverse, ← o, ← o', h.2]
  rw [e]; exact beq_self_eq_true _
def runOpsRD (ph : FuncId → Bool) (cr : CR) : List (AOp × Bool) → Env → RH → Option (Env × RH)
  | [], E, r => some (E, r)
  | (o, ord) :: rs, E, r => match runOpR cr o E r with
    | some (E', r') => if ord || quiet ph o.k || tailB r' r then runOpsRD ph cr rs E' r' else none
    | none => none
theorem runOpsRD_ok {ph : FuncId → Bool} {cr : CR} {cf : CF} (sim : SimCF cr cf) (hph : ∀ f args h r, ph f = true → cf f args h = some r → r.2 = h) : ∀ {ops : List (AOp × Bool)} {E E' : Env} {r r' : RH}, r.Ok → runOpsRD ph cr ops E r = some (E', r') → r'.Ok ∧ runOpsD cf ops E r.h = some (E', r'.h)
  | [], E, E', r, r', ok, h => by cases h; exact ⟨ok, rfl⟩
  | (o, ord) :: rs, E, E', r, r', ok, h => by
    unfold runOpsRD at h
    split at h
    · rename_i E1 r1 h1
      obtain ⟨k1, k2⟩ := runOpR_ok sim ok h1
      split at h
      · rename_i hc
        unfold runOpsD
        rw [k2]
        have hc2 : (ord || r1.h.take r.h.length == r.h) = true := by
          rw [Bool.or_eq_true, Bool.or_eq_true] at hc
          rw [Bool.or_eq_true]
          rcases hc with (hc | hc) | hc
          · exact .inl hc
          · refine .inr ?_
            unfold runOp at k2
            split at k2
            · rw [Option.map_eq_some_iff] at k2
              obtain ⟨q, hq2, e⟩ := k2
              have := quiet_ok hph hc hq2
              have e2 : q.2 = r1.h := congrArg Prod.snd e
              rw [← e2]
              exact this
            · simp only [Option.some.injEq, Prod.mk.injEq] at k2
              rw [← k2.2]; exact take_self _
            · cases k2
          · exact .inr (tailB_ok ok k1 hc)
        simp only
        rw [if_pos hc2]
        exact runOpsRD_ok sim hph k1 h
      · cases h
    · cases h
def ldIdsR (cr : CR) : List (AOp × Nat × Bool) → Env → RH → List Nat
  | [], _, _ => []
  | (o, _, ord) :: rs, E, r => match runOpR cr o E r with
    | some (E', r') => ldL (ldX E ord o.k) ++ ldIdsR cr rs E' r'
    | none => []
def alIdsR (cr : CR) (fr : List Nat) : List (AOp × Nat × Bool) → Env → RH → List Nat
  | [], _, _ => []
  | (o, i, _) :: rs, E, r => match runOpR cr o E r with
    | some (E', r') => (if fr.contains (1000 + i) then List.range' r.1 (r'.1 - r.1) else []) ++ alIdsR cr fr rs E' r'
    | none => []
def runOpsRS (cr : CR) (S A fr : List Nat) : List (AOp × Nat × Bool) → Env → RH → Option (Env × RH)
  | [], E, r => some (E, r)
  | (o, i, ord) :: rs, E, r => match runOpR cr o E r with
    | some (E', r') => if (ord || tailB r' r) && ((fr.contains i || (S.all (fun id => rget r' id == rget r id) && A.all (fun id => decide (r.1 ≤ id) || rget r' id == rget r id))) && ldOk S (ldX E ord o.k)) then runOpsRS cr S A fr rs E' r' else none
    | none => none
theorem runOpsRS_ok {cr : CR} {cf : CF} (sim : SimCF cr cf) {S A fr : List Nat} : ∀ {ops : List (AOp × Nat × Bool)} {E E' : Env} {r r' : RH}, r.Ok → runOpsRS cr S A fr ops E r = some (E', r') →
    r'.Ok ∧ runOpsS cf S A fr ops E r.h = some (E', r'.h) ∧ ldIdsR cr ops E r = ldIds cf ops E r.h ∧ alIdsR cr fr ops E r = alIds cf fr ops E r.h
  | [], E, E', r, r', ok, h => by cases h; exact ⟨ok, rfl, rfl, rfl⟩
  | (o, i, ord) :: rs, E, E', r, r', ok, h => by
    unfold runOpsRS at h
    split at h
    · rename_i E1 r1 h1
      obtain ⟨k1, k2⟩ := runOpR_ok sim ok h1
      split at h
      · rename_i hc
        obtain ⟨j1, j2, j3, j4⟩ := runOpsRS_ok sim k1 h
        refine ⟨j1, ?_, ?_, ?_⟩
        · unfold runOpsS
          rw [k2]
          simp only
          rw [if_pos ?_]
          · exact j2
          · simp only [rget_eq ok, rget_eq k1] at hc
            rw [← ok.len] at hc
            rw [Bool.and_eq_true, Bool.or_eq_true] at hc
            rw [Bool.and_eq_true, Bool.or_eq_true]
            exact ⟨hc.1.imp id fun h => tailB_ok ok k1 h, hc.2⟩
        · unfold ldIdsR ldIds
          rw [h1, k2]
          simp only
          rw [j3]
        · unfold alIdsR alIds
          rw [h1, k2]
          simp only
          rw [j4, ok.len, k1.len]
      · cases h
    · cases h
abbrev OutR := Option (Ex × Env × RH)
def iterR (keep : List Nat) (step : Env → RH → OutR) : Nat → Env → RH → OutR
  | 0, _, _ => none
  | n + 1, E, r => match step (keepQ E keep) r with
    | some (.nm, E', r') => iterR keep step n E' r'
    | q => q
def execR (ph : FuncId → Bool) (cr : CR) (n : Nat) : AC → Env → RH → OutR
  | .skip, E, h => some (.nm, E, h)
  | .ret, E, h => some (.rt, E, h)
  | .exit id, E, h => some (.ex id, E, h)
  | .reg ops keep, E, h => (runOpsR cr ops E h).map fun r => (.nm, keepQ r.1 keep, r.2)
  | .regd ops keep, E, h => (runOpsRD ph cr (ops.map fun p => (p.1, p.2.2)) E h).map fun r => (.nm, keepQ r.1 keep, r.2)
  | .regs ops fr keep, E, h => (runOpsRS cr (ldIdsR cr ops E h) (alIdsR cr fr ops E h) fr ops E h).map fun r => (.nm, keepQ r.1 keep, r.2)
  | .seq a b, E, h => match execR ph cr n a E h with
    | some (.nm, E', h') => execR ph cr n b E' h'
    | r => r
  | .cond c a b, E, h => match evSQ E c with
    | some (.bool t) => if t = true then execR ph cr n a E h else execR ph cr n b E h
    | _ => none
  | .block id a, E, h => match execR ph cr n a E h with
    | some (.ex i, E', h') => if i = id then some (.nm, E', h') else some (.ex i, E', h')
    | r => r
  | .loop keep a, E, h => iterR keep (execR ph cr n a) n E h
  | .scope a, E, h => execR ph cr n a E h
/-- What the one finds, the other finds. -/
def SimX (fR : Env → RH → OutR) (f : Env → Heap → Out) : Prop := ∀ E r ex E' r', r.Ok → fR E r = some (ex, E', r') → r'.Ok ∧ f E r.h = some (ex, E', r'.h)
theorem iterR_ok {keep : List Nat} {sR : Env → RH → OutR} {s : Env → Heap → Out} (sim : SimX sR s) : ∀ n, SimX (iterR keep sR n) (iter keep s n)
  | 0 => fun E r ex E' r' ok h => by cases h
  | n + 1 => fun E r ex E' r' ok h => by
    unfold iterR at h
    unfold iter
    rw [keepQ_eq] at h
    cases hs : sR (E.keep keep) r with
    | none => rw [hs] at h; cases h
    | some q =>
      obtain ⟨x, E1, r1⟩ := q
      obtain ⟨k1, k2⟩ := sim _ _ _ _ _ ok hs
      rw [hs] at h
      rw [k2]
      cases x with
      | nm => exact iterR_ok sim n _ _ _ _ _ k1 h
      | ex i => cases h; exact ⟨k1, rfl⟩
      | rt => cases h; exact ⟨k1, rfl⟩
theorem execR_ok {ph : FuncId → Bool} {cr : CR} {cf : CF} (sim : SimCF cr cf) (hph : ∀ f args h r, ph f = true → cf f args h = some r → r.2 = h) (n : Nat) : ∀ c : AC, SimX (execR ph cr n c) (exec cf n c)
  | .skip => fun E r ex E' r' ok h => by cases h; exact ⟨ok, rfl⟩
  | .ret => fun E r ex E' r' ok h => by cases h; exact ⟨ok, rfl⟩
  | .exit id => fun E r ex E' r' ok h => by cases h; exact ⟨ok, rfl⟩
  | .reg ops keep => fun E r ex E' r' ok h => by
    unfold execR at h
    rw [Option.map_eq_some_iff] at h
    obtain ⟨⟨E1, r1⟩, h1, e⟩ := h
    cases e
    obtain ⟨k1, k2⟩ := runOpsR_ok sim ok h1
    exact ⟨k1, by unfold exec; rw [k2, keepQ_eq]; rfl⟩
  | .regd ops keep => fun E r ex E' r' ok h => by
    unfold execR at h
    rw [Option.map_eq_some_iff] at h
    obtain ⟨⟨E1, r1⟩, h1, e⟩ := h
    cases e
    obtain ⟨k1, k2⟩ := runOpsRD_ok sim hph ok h1
    exact ⟨k1, by unfold exec; rw [k2, keepQ_eq]; rfl⟩
  | .regs ops fr keep => fun E r ex E' r' ok h => by
    unfold execR at h
    rw [Option.map_eq_some_iff] at h
    obtain ⟨⟨E1, r1⟩, h1, e⟩ := h
    cases e
    obtain ⟨k1, k2, k3, k4⟩ := runOpsRS_ok sim ok h1
    rw [k3, k4] at k2
    exact ⟨k1, by unfold exec; rw [k2, keepQ_eq]; rfl⟩
  | .seq a b => fun E r ex E' r' ok h => by
    unfold execR at h
    unfold exec
    cases hs : execR ph cr n a E r with
    | none => rw [hs] at h; cases h
    | some q =>
      obtain ⟨x, E1, r1⟩ := q
      obtain ⟨k1, k2⟩ := execR_ok sim hph n a _ _ _ _ _ ok hs
      rw [hs] at h
      rw [k2]
      cases x with
      | nm => exact execR_ok sim hph n b _ _ _ _ _ k1 h
      | ex i => cases h; exact ⟨k1, rfl⟩
      | rt => cases h; exact ⟨k1, rfl⟩
  | .cond c a b => fun E r ex E' r' ok h => by
    unfold execR at h
    unfold exec
    rw [evSQ_eq] at h
    split at h
    · rename_i t ht
      rw [ht]
      simp only
      split at h
      · rename_i hb; rw [if_pos hb]; exact execR_ok sim hph n a _ _ _ _ _ ok h
      · rename_i hb; rw [if_neg hb]; exact execR_ok sim hph n b _ _ _ _ _ ok h
    · cases h
  | .block id a => fun E r ex E' r' ok h => by
    unfold execR at h
    unfold exec
    cases hs : execR ph cr n a E r with
    | none => rw [hs] at h; cases h
    | some q =>
      obtain ⟨x, E1, r1⟩ := q
      obtain ⟨k1, k2⟩ := execR_ok sim hph n a _ _ _ _ _ ok hs
      rw [hs] at h
      rw [k2]
      cases x with
      | nm => cases h; exact ⟨k1, rfl⟩
      | ex i =>
        simp only at h ⊢
        split at h
        · rename_i hi; cases h; rw [if_pos hi]; exact ⟨k1, rfl⟩
        · rename_i hi; cases h; rw [if_neg hi]; exact ⟨k1, rfl⟩
      | rt => cases h; exact ⟨k1, rfl⟩
  | .loop keep a => fun E r ex E' r' ok h => by
    unfold execR at h
    unfold exec
    exact iterR_ok (execR_ok sim hph n a) n _ _ _ _ _ ok h
  | .scope a => fun E r ex E' r' ok h => by
    unfold execR at h
    unfold exec
    exact execR_ok sim hph n a _ _ _ _ _ ok h
def resR (E : Env) (r : RH) : ARes → Option PV
  | .t n => (getQ E n).bind AV.pv
  | .cell a n agg => match getQ E a with
    | some (.sc (.ptr id off)) => (rreadN r id off n).bind fun vs => (cellsAV agg vs).bind AV.pv
    | _ => none
def resRs (E : Env) (r : RH) : List ARes → Option (List PV)
  | [] => some []
  | x :: rs => (resR E r x).bind fun v => (resRs E r rs).map (v :: ·)
theorem resR_eq {E : Env} {r : RH} (o : r.Ok) (x : ARes) : resR E r x = resOne E r.h x := by
  cases x with
  | t n => simp only [resR, resOne, getQ_eq]
  | cell a n agg =>
    simp only [resR, resOne, getQ_eq]
    split <;> simp only [*]
    rw [rreadN_eq o]
theorem resRs_eq {E : Env} {r : RH} (o : r.Ok) : ∀ xs, resRs E r xs = resAll E r.h xs
  | [] => rfl
  | x :: xs => by unfold resRs resAll; rw [resR_eq o, resRs_eq o xs]
def resultsR (rs : List ARes) (E : Env) (h : RH) : Option AV :=
  match rs with
  | [r] => (resR E h r).map PV.av
  | rs => (resRs E h rs).map AV.tup
theorem resultsR_eq {E : Env} {r : RH} (o : r.Ok) (rs : List ARes) : resultsR rs E r = resultsA rs E r.h := by
  cases rs with
  | nil => rfl
  | cons x xs =>
    cases xs with
    | nil => unfold resultsR resultsA; simp only; rw [resR_eq o]
    | cons y ys => unfold resultsR resultsA; simp only; rw [resRs_eq o]
def finishR (F : AFun) : OutR → Option (AV × RH)
  | some (.nm, E, h') => (resultsR F.res E h').map fun v => (v, h')
  | some (.rt, E, h') => (resultsR F.res E h').map fun v => (v, h')
  | _ => none
/-- Hooks over such a memory. -/
abbrev HookR := List AV → RH → Option (AV × RH)
def callR (ph : FuncId → Bool) (FT : FuncId → Option AFun) (HR : FuncId → Option HookR) : Nat → CR
  | 0 => fun _ _ _ => none
  | n + 1 => fun f args h =>
    match HR f with
    | some g => g args h
    | none =>
      match FT f with
      | none => none
      | some F => if args.length = F.np then finishR F (execR ph (callR ph FT HR n) n F.body (params 0 args) h) else none
def SimHK (HR : FuncId → Option HookR) (HK : FuncId → Option Hook) : Prop := ∀ f, match HR f with
  | some g => ∃ g', HK f = some g' ∧ ∀ args r v r', r.Ok → g args r = some (v, r') → r'.Ok ∧ g' args r.h = some (v, r'.h)
  | none => HK f = none
theorem callR_ok {ph : FuncId → Bool} {FT : FuncId → Option AFun} {HR : FuncId → Option HookR} {HK : FuncId → Option Hook} (hs : SimHK HR HK) (hp : PureHK ph HK) : ∀ n, SimCF (callR ph FT HR n) (callA FT HK n)
  | 0 => fun f args r v r' ok h => by cases h
  | n + 1 => fun f args r v r' ok h => by
    have hf := hs f
    unfold callR at h
    unfold callA
    cases hg : HR f with
    | some g =>
      rw [hg] at h hf
      obtain ⟨g', e1, e2⟩ := hf
      rw [e1]
      exact e2 _ _ _ _ ok h
    | none =>
      rw [hg] at h hf
      rw [show HK f = none from hf]
      simp only at h ⊢
      split at h
      · cases h
      · rename_i F hF
        rw [hF]
        simp only
        split at h
        · rename_i hl
          rw [if_pos hl]
          have hph : ∀ f args h r, ph f = true → callA FT HK n f args h = some r → r.2 = h := fun f args h r hf hr => by
            obtain ⟨g2, hg2, hs2⟩ := hp f hf
            cases n with
            | zero => simp [callA] at hr
            | succ n =>
              simp only [callA, hg2] at hr
              exact hs2 _ _ _ hr
          cases hx : execR ph (callR ph FT HR n) n F.body (params 0 args) r with
          | none => rw [hx] at h; cases h
          | some q =>
            obtain ⟨x, E1, r1⟩ := q
            obtain ⟨k1, k2⟩ := execR_ok (callR_ok hs hp n) hph n F.body _ _ _ _ _ ok hx
            rw [hx] at h
            rw [k2]
            cases x with
            | ex i => cases h
            | nm =>
              simp only [finishR] at h
              rw [Option.map_eq_some_iff] at h
              obtain ⟨u, h1, e⟩ := h; cases e
              rw [resultsR_eq k1] at h1
              exact ⟨k1, by simp only [finish, h1, Option.map_some]⟩
            | rt =>
              simp only [finishR] at h
              rw [Option.map_eq_some_iff] at h
              obtain ⟨u, h1, e⟩ := h; cases e
              rw [resultsR_eq k1] at h1
              exact ⟨k1, by simp only [finish, h1, Option.map_some]⟩
        · cases h
/-- A hook that leaves the memory as it is, and does not look at it. -/
def liftR (g : Hook) : HookR := fun args r => (g args []).map fun q => (q.1, r)
def ccR (T : Nat) : HookR := fun args h => match args with
  | [.sc (.ptr id 0)] => match rget h id with
    | some (.cells [.nilP, x] true z) => if z = ⟨0, some T⟩ then some (.tup [], rset h id (.cells [.ptr id 0, x] true z)) else none
    | some (.cells [.ptr j 0, x] true z) => if z = ⟨0, some T⟩ ∧ j = id then some (.tup [], h) else none
    | _ => none
  | _ => none
theorem ccR_ok {T : Nat} {args : List AV} {r r' : RH} {v : AV} (o : r.Ok) (h : ccR T args r = some (v, r')) : r'.Ok ∧ ccHook T args r.h = some (v, r'.h) := by
  unfold ccR at h
  unfold ccHook
  split at h
  · split at h
    · rename_i hg
      split at h
      · rename_i hz; cases h
        have hg2 := hg
        rw [rget_eq o] at hg2
        refine ⟨rset_ok o _ _, ?_⟩
        simp only [hg2]
        rw [if_pos hz, rset_h o (rget_lt hg)]
      · cases h
    · rename_i hg
      split at h
      · rename_i hz; cases h
        have hg2 := hg
        rw [rget_eq o] at hg2
        refine ⟨o, ?_⟩
        simp only [hg2]
        rw [if_pos hz]
      · cases h
    · cases h
  · cases h
end Go.Ab

