import Derived.Test.YtofknpknogfijaaGreatDoorAb47
/- The same reckoning,quicker: an operation that plainly leaves the memory as it is (or lays a block behind it) needs no comparison. -/
namespace Go.Ab
set_option linter.unusedVariables false
def QbI (ph:FuncId→Bool):AK→Bool
  | .mv _ | .pick _ _ _ | .bin _ _ _ | .un _ _ | .conv _ _ | .len _ _ | .idxA _ _ _ | .fldA _ _ | .ld _ _ _ | .new _ | .ext _ _=>true
  | .call f _=>ph f
  | _=>false
theorem X3 (h:Qa):((h.take h.length == h):Bool)=true:=by rw [List.take_length];exact beq_self_eq_true h
theorem QdS {ph:FuncId→Bool} {cf:CF} (hph:∀ f args h r,ph f=true→cf f args h=some r→r.2=h) {E:Env} {h:Qa} {k:AK} {r:Option AV × Qa} (hq:QbI ph k=true) (hr:QW cf E h k=some r):(r.2.take h.length == h)=true:=by
  have same:r.2=h→(r.2.take h.length == h)=true:=fun e=>by rw [e];exact X3 h
  cases k <;> simp only [QbI] at hq <;> try exact absurd hq (by decide)
  case mv x=>simp only [QW,Ql,Option.map_eq_some_iff] at hr;obtain ⟨v,-,rfl⟩:=hr;exact X3 h
  case pick c a b =>
    simp only [QW,Ql] at hr
    split at hr
    · split at hr <;> (rw [Option.map_eq_some_iff] at hr;obtain ⟨v,-,rfl⟩:=hr;exact X3 h)
    · cases hr
  case bin op x y =>
    simp only [QW,Ql,Option.bind_eq_some_iff,Option.map_eq_some_iff] at hr
    obtain ⟨a,-,b,-,v,-,rfl⟩:=hr;exact X3 h
  case un op x =>
    simp only [QW,Ql,Option.bind_eq_some_iff,Option.map_eq_some_iff] at hr
    obtain ⟨a,-,v,-,rfl⟩:=hr;exact X3 h
  case conv kd x =>
    simp only [QW,Ql] at hr
    split at hr
    · cases hr;exact X3 h
    · cases hr
  case len s x =>
    simp only [QW,Ql,Option.bind_eq_some_iff,Option.map_eq_some_iff] at hr
    obtain ⟨a,-,v,-,rfl⟩:=hr;exact X3 h
  case idxA z x i =>
    simp only [QW,Ql] at hr
    split at hr
    · split at hr
      · cases hr;exact X3 h
      · cases hr
    · cases hr
  case fldA o x =>
    simp only [QW,Ql] at hr
    split at hr
    · cases hr;exact X3 h
    · cases hr
  case ld n g x =>
    simp only [QW,Ql] at hr
    split at hr
    · simp only [Option.bind_eq_some_iff,Option.map_eq_some_iff] at hr
      obtain ⟨a,-,v,-,rfl⟩:=hr;exact X3 h
    · cases hr
  case new z =>
    simp only [QW,Ql,Option.some.injEq] at hr
    subst hr
    show ((h++_).take h.length == h)=true
    rw [List.take_left];exact beq_self_eq_true h
  case ext x i =>
    simp only [QW,Ql] at hr
    split at hr
    · rw [Option.map_eq_some_iff] at hr;obtain ⟨v,-,rfl⟩:=hr;exact X3 h
    · cases hr
  case call f args =>
    simp only [QW,Option.bind_eq_some_iff,Option.map_eq_some_iff] at hr
    obtain ⟨vs,-,q,hq2,rfl⟩:=hr
    exact same (hph f vs h q hq hq2)
def fMv (E:Env) (h:Qa) (x:AO):Option (Option AV × Qa):=(ev E x).map fun v=>(some v,h)
def fPick (E:Env) (h:Qa) (c a b:AO):Option (Option AV × Qa):=match evS E c with
  | some (.bool t)=>if t=true then (ev E a).map fun v=>(some v,h) else (ev E b).map fun v=>(some v,h)
  | _=>none
def fBin (E:Env) (h:Qa) (op:BinOp) (x y:AO):Option (Option AV × Qa):=(evS E x).bind fun a=>(evS E y).bind fun b=>(Z1 op a b).map fun v=>(some (.sc v),h)
def fUn (E:Env) (h:Qa) (op:UnOp) (x:AO):Option (Option AV × Qa):=(evS E x).bind fun a=>(unS op a).map fun v=>(some (.sc v),h)
def fConv (E:Env) (h:Qa) (k:IntKind) (x:AO):Option (Option AV × Qa):=match evS E x with
  | some (.int _ n)=>some (some (.sc (X4 k n)),h)
  | _=>none
def fLen (E:Env) (h:Qa) (str:Bool) (x:AO):Option (Option AV × Qa):=(evS E x).bind fun a=>(Yq str a).map fun n=>(some (.sc (.int .i64 n)),h)
def fIdx (E:Env) (h:Qa) (esz:Nat) (x i:AO):Option (Option AV × Qa):=match evS E x,evS E i with
  | some (.slc id off n _),some (.int _ j)=>if 0≤j∧j < n then some (some (.sc (.ptr id (off+j.toNat*esz))),h) else none
  | _,_=>none
def fFldA (E:Env) (h:Qa) (off:Nat) (x:AO):Option (Option AV × Qa):=match evS E x with
  | some (.ptr id o)=>some (some (.sc (.ptr id (o+off))),h)
  | _=>none
def fLd (E:Env) (h:Qa) (n:Nat) (agg:Bool) (x:AO):Option (Option AV × Qa):=match evS E x with
  | some (.ptr id off)=>(QX h id off n).bind fun vs=>(Yy agg vs).map fun v=>(some v,h)
  | _=>none
def fSt (E:Env) (h:Qa) (n:Nat) (a x:AO):Option (Option AV × Qa):=match evS E a with
  | some (.ptr id off)=>(ev E x).bind fun v=>v.cells.bind fun vs=>if vs.length=n then (XB h id off vs).map fun h'=>(none,h') else none
  | _=>none
def fBox (E:Env) (h:Qa) (x:AO):Option (Option AV × Qa):=(ev E x).bind fun v=>v.cells.map fun vs=>(some (.sc (.ptr h.length 0)),h++[.cells vs true 0])
def fNew (h:Qa) (zero:List SV):Option (Option AV × Qa):=some (some (.sc (.ptr h.length 0)),h++[.cells zero true 0])
def fMk (E:Env) (h:Qa) (esz:ESz) (bytes:Nat) (zero:List SV) (l c:AO):Option (Option AV × Qa):=match evS E l,evS E c with
  | some (.int _ n),some (.int _ m)=>if 0≤n∧n≤m∧m*(bytes+1:Nat)≤YV then
      some (some (.sc (.slc h.length 0 n.toNat (some m.toNat))),h++[.cells (rep zero m.toNat) true esz]) else none
  | _,_=>none
def fExt (E:Env) (h:Qa) (x:AO) (i:Nat):Option (Option AV × Qa):=match ev E x with
  | some (.tup xs)=>(xs[i]?).map fun p=>(some p.av,h)
  | _=>none
def fCall (cf:CF) (E:Env) (h:Qa) (f:FuncId) (args:List AO):Option (Option AV × Qa):=(evs E args).bind fun vs=>(cf f vs h).map fun r=>(some r.1,r.2)
def QdX (cf:CF) (E:Env) (h:Qa) (k:AK):Option (Option AV × Qa):=match k with
  | .mv x=>fMv E h x
  | .pick c a b=>fPick E h c a b
  | .bin op x y=>fBin E h op x y
  | .un op x=>fUn E h op x
  | .conv k x=>fConv E h k x
  | .len s x=>fLen E h s x
  | .idxA z x i=>fIdx E h z x i
  | .fldA o x=>fFldA E h o x
  | .ld n g x=>fLd E h n g x
  | .st n a x=>fSt E h n a x
  | .box x=>fBox E h x
  | .new z=>fNew h z
  | .mk z b zero l c=>fMk E h z b zero l c
  | .ext x i=>fExt E h x i
  | .call f args=>fCall cf E h f args
  | k=>QW cf E h k
theorem opRunF_eq (cf:CF) (E:Env) (h:Qa) (k:AK):QdX cf E h k=QW cf E h k:=by cases k <;> rfl
def bindR (d:Option Nat) (E:Env) (r:Option AV × Qa):Env × Qa:=(Qq d r.1 E,r.2)
def QdC (cf:CF) (o:AOp) (E:Env) (h:Qa):Option (Env × Qa) :=
  match Yc E o.guard with
  | some true=>(QdX cf E h o.k).map (bindR o.dst E)
  | some false=>some (Qq o.dst (some (.tup [])) E,h)
  | none=>none
def Qbx (cf:CF):List AOp→Env→Qa→Option (Env × Qa)
  | [],E,h=>some (E,h)
  | o::r,E,h=>match QdC cf o E h with
    | some (E',h')=>Qbx cf r E' h'
    | none=>none
def Qby (ph:FuncId→Bool) (cf:CF):List (AOp × Bool)→Env→Qa→Option (Env × Qa)
  | [],E,h=>some (E,h)
  | (o,ord)::r,E,h=>match QdC cf o E h with
    | some (E',h')=>if ord || QbI ph o.k || h'.take h.length == h then Qby ph cf r E' h' else none
    | none=>none
def yT (ph:FuncId→Bool) (cf:CF) (n:Nat):AC→Env→Qa→Out
  | .skip,E,h=>some (.nm,E,h)
  | .ret,E,h=>some (.rt,E,h)
  | .exit id,E,h=>some (.ex id,E,h)
  | .reg ops keep,E,h=>(Qbx cf ops E h).map fun r=>(.nm,r.1.keep keep,r.2)
  | .regd ops keep,E,h=>(Qby ph cf (ops.map fun p=>(p.1,p.2.2)) E h).map fun r=>(.nm,r.1.keep keep,r.2)
  | .regs ops fr keep,E,h=>(Yx cf (qT cf ops E h) (JR cf fr ops E h) fr ops E h).map fun r=>(.nm,r.1.keep keep,r.2)
  | .seq a b,E,h=>match yT ph cf n a E h with
    | some (.nm,E',h')=>yT ph cf n b E' h'
    | r=>r
  | .cond c a b,E,h=>match evS E c with
    | some (.bool t)=>if t=true then yT ph cf n a E h else yT ph cf n b E h
    | _=>none
  | .block id a,E,h=>match yT ph cf n a E h with
    | some (.ex i,E',h')=>if i=id then some (.nm,E',h') else some (.ex i,E',h')
    | r=>r
  | .loop keep a,E,h=>JH keep (yT ph cf n a) n E h
  | .scope a,E,h=>yT ph cf n a E h
def callF (ph:FuncId→Bool) (FT:FuncId→Option AFun) (HK:FuncId→Option Xc):Nat→CF
  | 0=>fun _ _ _=>none
  | n+1=>fun f args h =>
    match HK f with
    | some g=>g args h
    | none =>
      match FT f with
      | none=>none
      | some F=>if args.length=F.np then qj F (yT ph (callF ph FT HK n) n F.body (params 0 args) h) else none
def Qfy (ph:FuncId→Bool) (HK:FuncId→Option Xc):Prop:=∀ f,ph f=true→∃ g,HK f=some g∧∀ args h r,g args h=some r→r.2=h
end Go.Ab


/- The same reckoning over a memory whose latest blocks come first: for the kernel. Whatever it finds is what is reckoned. -/
namespace Go.Ab
set_option linter.unusedVariables false
set_option linter.unusedSimpArgs false
def Qa2:Env→Nat→Option AV
  | [],_=>none
  | (k,v)::r,t=>bif Nat.beq k t then v else Qa2 r t
theorem qX:∀ (E:Env) (t:Nat),Qa2 E t=E.get t
  | [],_=>rfl
  | (k,v)::r,t=>by
    unfold Qa2 Env.get
    rw [qX r t]
    by_cases h:k=t
    · rw [if_pos h,h,Nat.beq_refl];rfl
    · rw [if_neg h,show Nat.beq k t=false by cases hb:Nat.beq k t;rfl;exact absurd (Nat.eq_of_beq_eq_true hb) h];rfl
def Ux (E:Env) (ks:List Nat):Env:=ks.map fun t=>(t,Qa2 E t)
theorem qV (E:Env) (ks:List Nat):Ux E ks=E.keep ks:=by unfold Ux Env.keep;simp only [qX]
def evQ (E:Env):AO→Option AV
  | .t n=>Qa2 E n
  | .k v=>some v
theorem yz (E:Env) (x:AO):evQ E x=ev E x:=by cases x;exact qX _ _;rfl
def ZH (E:Env) (x:AO):Option SV:=match evQ E x with
  | some (.sc v)=>some v
  | _=>none
theorem Ym (E:Env) (x:AO):ZH E x=evS E x:=by unfold ZH evS;rw [yz];rfl
def Qez (E:Env):List AO→Option (List AV)
  | []=>some []
  | x::r=>(evQ E x).bind fun v=>(Qez E r).map (v::·)
theorem Vi (E:Env):∀ xs,Qez E xs=evs E xs
  | []=>rfl
  | x::r=>by unfold Qez evs;rw [yz,Vi E r]
abbrev RH:=Nat × List Blk
def RH.h (r:RH):Qa:=r.2.reverse
def RH.Ok (r:RH):Prop:=r.1=r.2.length
theorem RH.Ok.len {r:RH} (o:r.Ok):r.h.length=r.1:=by unfold RH.h;rw [List.length_reverse];exact o.symm
def qG (r:RH) (id:Nat):Option Blk:=if id < r.1 then r.2[r.1-1-id]? else none
theorem Zs {r:RH} (o:r.Ok) (id:Nat):qG r id=r.h[id]?:=by
  unfold qG RH.h
  unfold RH.Ok at o
  split
  · rw [List.getElem?_reverse (by omega),o]
  · rw [List.getElem?_eq_none (by simp;omega)]
def VK (r:RH) (id:Nat) (b:Blk):RH:=(r.1,r.2.set (r.1-1-id) b)
theorem y8 {r:RH} (o:r.Ok) (id:Nat) (b:Blk):(VK r id b).Ok:=by unfold RH.Ok VK at *;simpa using o
theorem UQ {r:RH} (o:r.Ok) {id:Nat} (h:id < r.1) (b:Blk):(VK r id b).h=r.h.set id b:=by
  unfold RH.h VK
  unfold RH.Ok at o
  apply List.ext_getElem?
  intro i
  rcases Nat.lt_or_ge i r.2.length with hi | hi
  · rw [List.getElem?_reverse (by simpa using hi),List.getElem?_set,List.getElem?_set,List.length_set,List.getElem?_reverse hi,List.length_reverse]
    by_cases e:id=i
    · subst e
      rw [if_pos (by omega),if_pos rfl,if_pos (by omega),if_pos hi]
    · rw [if_neg (by omega),if_neg e]
  · rw [List.getElem?_eq_none (by simpa using hi),List.getElem?_eq_none (by simpa using hi)]
def Jt (r:RH) (b:Blk):RH:=frc (r.1+1) fun m=>(m,b::r.2)
theorem Ze {r:RH} (o:r.Ok) (b:Blk):(Jt r b).Ok:=by unfold Jt;rw [Yl];unfold RH.Ok at *;simp [o]
theorem ZJ (r:RH) (b:Blk):(Jt r b).h=r.h++[b]:=by unfold Jt;rw [Yl];simp [RH.h]
theorem y9 {r:RH} {id:Nat} {b:Blk} (h:qG r id=some b):id < r.1:=by
  unfold qG at h
  split at h
  · assumption
  · cases h
def zw (r:RH) (id off n:Nat):Option (List SV):=match qG r id with
  | some (.cells cs _ _)=>cut cs off n
  | _=>none
theorem yn {r:RH} (o:r.Ok) (id off n:Nat):zw r id off n=QX r.h id off n:=by unfold zw QX;rw [Zs o];rfl
def y6 (r:RH) (id off:Nat) (vs:List SV):Option RH:=match qG r id with
  | some (.cells cs true esz)=>if off+vs.length≤cs.length then some (VK r id (.cells (Xe cs off vs) true esz)) else none
  | _=>none
theorem zt {r r':RH} (o:r.Ok) {id off:Nat} {vs:List SV} (h:y6 r id off vs=some r'):r'.Ok∧XB r.h id off vs=some r'.h:=by
  unfold y6 at h
  split at h
  · rename_i cs esz hg
    split at h
    · rename_i hl
      cases h
      refine ⟨y8 o _ _,?_⟩
      unfold XB
      rw [← Zs o,hg]
      simp only
      rw [if_pos hl,UQ o (y9 hg)]
    · cases h
  · cases h
def rsrc (r:RH) (esz:Nat):SV→Option (Nat × List SV)
  | .nilS=>some (0,[])
  | .slc id off n _=>if n=0 then some (0,[]) else (zw r id off (n*esz)).map (n,·)
  | .str s=>if esz=1 then some (s.size,s.data.toList.map fun b=>.int .u8 b.toNat) else none
  | _=>none
theorem Qf9 {r:RH} (o:r.Ok) (esz:Nat) (s:SV):rsrc r esz s=Yf r.h esz s:=by
  cases s <;> first | rfl | (simp only [rsrc,Yf];rw [yn o])
def rapp (r:RH) (esz:ESz) (bytes:Nat) (s:SV) (m:Nat) (vs:List SV):Option (SV × RH) :=
  match s with
  | .nilS=>if m=0 then some (.nilS,r) else if m*(bytes+1)≤YV then some (.slc r.1 0 m none,Jt r (.cells vs true esz)) else none
  | .slc id off n cap =>
    if m=0 then some (.slc id off n cap,r) else
    if (n+m)*(bytes+1)≤YV then
      match qG r id with
      | some (.cells cs rw e) =>
        if e=esz then
          match cut cs off (n*esz.n) with
          | some old =>
            match cap with
            | some c =>
              if c < n+m then some (.slc r.1 0 (n+m) none,Jt r (.cells (old++vs) true esz))
              else (y6 r id (off+n*esz.n) vs).map fun h'=>(.slc id off (n+m) (some c),h')
            | none=>if rw=true∧(esz.ty=none∨off=0) then some (.slc r.1 0 (n+m) none,Jt (VK r id (.dead esz)) (.cells (old++vs) true esz)) else none
          | none=>none
        else none
      | _=>none
    else none
  | _=>none
theorem Qgp {r r':RH} (o:r.Ok) {esz:ESz} {bytes m:Nat} {s s':SV} {vs:List SV} (h:rapp r esz bytes s m vs=some (s',r')):r'.Ok∧Jx r.h esz bytes s m vs=some (s',r'.h):=by
  have el:=o.len
  unfold rapp at h
  split at h
  · split at h
    · rename_i h0;cases h;exact ⟨o,by unfold Jx;simp only;rw [if_pos h0]⟩
    · rename_i h0
      split at h
      · rename_i h1;cases h
        exact ⟨Ze o _,by unfold Jx;simp only;rw [if_neg h0,if_pos h1,ZJ,el]⟩
      · cases h
  · rename_i id off n cap
    unfold Jx
    simp only
    split at h
    · rename_i h0;cases h;rw [if_pos h0];exact ⟨o,rfl⟩
    · rename_i h0
      rw [if_neg h0]
      split at h
      · rename_i h1
        rw [if_pos h1]
        split at h
        · rename_i cs rw' e hg
          rw [← Zs o,hg]
          simp only
          split at h
          · rename_i h2
            rw [if_pos h2]
            split at h
            · rename_i old h3
              rw [h3]
              simp only
              split at h
              · rename_i c
                simp only
                split at h
                · rename_i h4;cases h
                  rw [if_pos h4,ZJ,el];exact ⟨Ze o _,rfl⟩
                · rename_i h4
                  rw [if_neg h4]
                  rw [Option.map_eq_some_iff] at h
                  obtain ⟨q,hq,e⟩:=h
                  cases e
                  obtain ⟨k1,k2⟩:=zt o hq
                  rw [k2];exact ⟨k1,rfl⟩
              · simp only
                split at h
                · rename_i h4;cases h
                  rw [if_pos h4,ZJ,UQ o (y9 hg),el]
                  exact ⟨Ze (y8 o _ _) _,rfl⟩
                · cases h
            · cases h
          · cases h
        · cases h
      · cases h
  · cases h
def QaJ (r:RH) (esz:ESz) (lo hi:Nat):SV→Option SV
  | .nilS=>if lo=0∧hi=0 then some .nilS else none
  | .slc id off n cap=>match qG r id with
    | some b=>if b.esz=esz∧lo≤hi∧hi≤n then some (.slc id (off+lo*esz.n) (hi-lo) (cap.map (· - lo))) else none
    | _=>none
  | _=>none
theorem Qcw {r:RH} (o:r.Ok) (esz:ESz) (lo hi:Nat) (s:SV):QaJ r esz lo hi s=JC r.h esz lo hi s:=by
  cases s <;> first | rfl | (simp only [QaJ,JC];rw [Zs o];rfl)
abbrev CR:=FuncId→List AV→RH→Option (AV × RH)
def Uc (cr:CR) (cf:CF):Prop:=∀ f args r v r',r.Ok→cr f args r=some (v,r')→r'.Ok∧cf f args r.h=some (v,r'.h)
def UY:AK→Bool
  | .mm _ _ _ | .bld _ _ | .ext _ _ | .mkf _ _ | .nilc _ | .isnil _ _ _ | .beq _ _ _ | .seq2 _ _ _ | .idxS _ _ | .car _ _ _ _ | .sl1 _ _ _ | .usd _=>true
  | _=>false
theorem QcU {cf:CF} {E:Env} {k:AK} (hp:UY k=true) {h:Qa} {v:Option AV} {h2:Qa} (hr:Ql E [] k=some (v,h2)):QW cf E h k=some (v,h):=by
  cases k <;> simp only [UY] at hp <;> try exact absurd hp (by decide)
  all_goals simp only [Ql,QW] at hr ⊢
  case mm=>simp only [Option.bind_eq_some_iff,Option.map_eq_some_iff] at hr ⊢;obtain ⟨a,h1,b,h2,c,h3,e⟩:=hr;cases e;exact ⟨a,h1,b,h2,c,h3,rfl⟩
  case bld=>simp only [Option.bind_eq_some_iff,Option.map_eq_some_iff] at hr ⊢;obtain ⟨a,h1,b,h2,e⟩:=hr;cases e;exact ⟨a,h1,b,h2,rfl⟩
  case isnil=>simp only [Option.bind_eq_some_iff,Option.map_eq_some_iff] at hr ⊢;obtain ⟨a,h1,b,h2,e⟩:=hr;cases e;exact ⟨a,h1,b,h2,rfl⟩
  case mkf=>simp only [Option.bind_eq_some_iff,Option.map_eq_some_iff] at hr ⊢;obtain ⟨a,h1,b,h2,e⟩:=hr;cases e;exact ⟨a,h1,b,h2,rfl⟩
  case sl1=>simp only [Option.bind_eq_some_iff,Option.map_eq_some_iff] at hr ⊢;obtain ⟨a,h1,b,h2,c,h3,d,h4,f,h5,e⟩:=hr;cases e;exact ⟨a,h1,b,h2,c,h3,d,h4,f,h5,rfl⟩
  case idxS x i =>
    split at hr
    · rename_i s kd j e1 e2
      split at hr
      · rename_i hj
        rw [Option.map_eq_some_iff] at hr
        obtain ⟨b,h1,e⟩:=hr
        cases e
        rw [if_pos hj,h1];rfl
      · cases hr
    · cases hr
  all_goals repeat' split at hr
  all_goals first
    | (cases hr;done)
    | (simp only [Option.bind_eq_some_iff,Option.map_eq_some_iff] at hr ⊢;obtain ⟨a,h1,b,h2,e⟩:=hr;cases e;exact ⟨a,h1,b,h2,rfl⟩)
    | (simp only [Option.map_eq_some_iff] at hr ⊢;obtain ⟨a,h1,e⟩:=hr;cases e;exact ⟨a,h1,rfl⟩)
    | (cases hr;simp only [*,and_self,if_true,if_false];done)
    | (cases hr;rfl)
    | (cases hr;simp [*];done)
def opR (cr:CR) (E:Env) (r:RH) (k:AK):Option (Option AV × RH):=match k with
  | .mv x=>(evQ E x).map fun v=>(some v,r)
  | .pick c a b=>match ZH E c with
    | some (.bool t)=>if t=true then (evQ E a).map fun v=>(some v,r) else (evQ E b).map fun v=>(some v,r)
    | _=>none
  | .bin op x y=>(ZH E x).bind fun a=>(ZH E y).bind fun b=>(Z1 op a b).map fun v=>(some (.sc v),r)
  | .un op x=>(ZH E x).bind fun a=>(unS op a).map fun v=>(some (.sc v),r)
  | .conv k x=>match ZH E x with
    | some (.int _ n)=>some (some (.sc (X4 k n)),r)
    | _=>none
  | .len s x=>(ZH E x).bind fun a=>(Yq s a).map fun n=>(some (.sc (.int .i64 n)),r)
  | .idxA esz x i=>match ZH E x,ZH E i with
    | some (.slc id off n _),some (.int _ j)=>if 0≤j∧j < n then some (some (.sc (.ptr id (off+j.toNat*esz))),r) else none
    | _,_=>none
  | .fldA off x=>match ZH E x with
    | some (.ptr id o)=>some (some (.sc (.ptr id (o+off))),r)
    | _=>none
  | .ld n g x=>match ZH E x with
    | some (.ptr id off)=>(zw r id off n).bind fun vs=>(Yy g vs).map fun v=>(some v,r)
    | _=>none
  | .st n a x=>match ZH E a with
    | some (.ptr id off)=>(evQ E x).bind fun v=>v.cells.bind fun vs=>if vs.length=n then (y6 r id off vs).map fun h'=>(none,h') else none
    | _=>none
  | .new z=>some (some (.sc (.ptr r.1 0)),Jt r (.cells z true 0))
  | .box x=>(evQ E x).bind fun v=>v.cells.map fun vs=>(some (.sc (.ptr r.1 0)),Jt r (.cells vs true 0))
  | .newT t z=>some (some (.sc (.ptr r.1 0)),Jt r (.cells z true ⟨0,some t⟩))
  | .bsl esz zero len parts=>if len*esz.n≤16777216 then
      (Yb E (parts.map fun p=>(p.1*esz.n,esz.n,p.2))).bind fun ps=>(Zq (rep zero len) ps).map fun cs=>(some (.sc (.slc r.1 0 len (some len))),Jt r (.cells cs true esz))
    else none
  | .mk esz bytes zero l c=>match ZH E l,ZH E c with
    | some (.int _ n),some (.int _ m)=>if 0≤n∧n≤m∧m*(bytes+1:Nat)≤YV then
        some (some (.sc (.slc r.1 0 n.toNat (some m.toNat))),Jt r (.cells (rep zero m.toNat) true esz)) else none
    | _,_=>none
  | .sl esz x lo hi=>(ZH E x).bind fun v=>(Yq false v).bind fun n=>(bnd E 0 lo).bind fun l=>(bnd E n.toNat hi).bind fun u=>(QaJ r esz l u v).map fun s=>(some (.sc s),r)
  | .app esz bytes _ x y=>(ZH E x).bind fun s=>(ZH E y).bind fun t=>(rsrc r esz.n t).bind fun p=>(rapp r esz bytes s p.1 p.2).map fun q=>(some (.sc q.1),q.2)
  | .ustr t x n=>match ZH E x,ZH E n with
    | some (.ptr id 0),some (.int .i64 m)=>match qG r id with
      | some (.cells cs true z)=>if 0 < m∧m≤9223372036854775807∧z=⟨1,some t⟩ then (cut cs 0 m.toNat).bind fun vs=>(ZV vs).map fun l=>(some (.sc (.str ⟨l.toArray⟩)),VK r id (.cells cs false z)) else none
      | _=>none
    | some .nilP,some (.int .i64 m)=>if m=0 then some (some (.sc (.str .empty)),r) else none
    | _,_=>none
  | .call f args=>(Qez E args).bind fun vs=>(cr f vs r).map fun q=>(some q.1,q.2)
  | .callv x args=>match ZH E x with
    | some (.fn f caps)=>(Qez E args).bind fun vs=>(cr f (vs++caps.map fun p=>AV.sc (.ptr p.1 p.2)) r).map fun q=>(some q.1,q.2)
    | _=>none
  | k=>if UY k then (Ql E [] k).map fun q=>(q.1,r) else none
theorem QiV {cr:CR} {cf:CF} (sim:Uc cr cf) {E:Env} {r:RH} (o:r.Ok) {k:AK} {v:Option AV} {r':RH} (h:opR cr E r k=some (v,r')):r'.Ok∧QW cf E r.h k=some (v,r'.h):=by
  have el:=o.len
  have gen:(if UY k then (Ql E [] k).map fun q=>(q.1,r) else none)=some (v,r')→r'.Ok∧QW cf E r.h k=some (v,r'.h):=fun h=>by
    split at h
    · rename_i hp
      rw [Option.map_eq_some_iff] at h
      obtain ⟨⟨v2,h2⟩,e1,e2⟩:=h
      cases e2
      exact ⟨o,QcU hp e1⟩
    · cases h
  cases k
  case mv x =>
    simp only [opR,yz,Option.map_eq_some_iff] at h
    obtain ⟨a,h1,e⟩:=h;cases e
    exact ⟨o,by simp only [QW,Ql,h1,Option.map_some]⟩
  case pick c a b =>
    simp only [opR,yz,Ym] at h
    split at h
    · rename_i t ht
      split at h
      · rename_i hb
        rw [Option.map_eq_some_iff] at h;obtain ⟨a,h1,e⟩:=h;cases e
        exact ⟨o,by simp only [QW,Ql,ht];rw [if_pos hb,h1];rfl⟩
      · rename_i hb
        rw [Option.map_eq_some_iff] at h;obtain ⟨a,h1,e⟩:=h;cases e
        exact ⟨o,by simp only [QW,Ql,ht];rw [if_neg hb,h1];rfl⟩
    · cases h
  case bin op x y =>
    simp only [opR,Ym,Option.bind_eq_some_iff,Option.map_eq_some_iff] at h
    obtain ⟨a,h1,b,h2,c,h3,e⟩:=h;cases e
    exact ⟨o,by simp only [QW,Ql,h1,h2,h3,Option.bind_some,Option.map_some]⟩
  case un op x =>
    simp only [opR,Ym,Option.bind_eq_some_iff,Option.map_eq_some_iff] at h
    obtain ⟨a,h1,c,h3,e⟩:=h;cases e
    exact ⟨o,by simp only [QW,Ql,h1,h3,Option.bind_some,Option.map_some]⟩
  case conv kd x =>
    simp only [opR,Ym] at h
    split at h
    · rename_i h1;cases h
      exact ⟨o,by simp only [QW,Ql,h1]⟩
    · cases h
  case len s x =>
    simp only [opR,Ym,Option.bind_eq_some_iff,Option.map_eq_some_iff] at h
    obtain ⟨a,h1,c,h3,e⟩:=h;cases e
    exact ⟨o,by simp only [QW,Ql,h1,h3,Option.bind_some,Option.map_some]⟩
  case idxA esz x i =>
    simp only [opR,Ym] at h
    split at h
    · rename_i h1 h2
      split at h
      · rename_i h3;cases h
        exact ⟨o,by simp only [QW,Ql,h1,h2];rw [if_pos h3]⟩
      · cases h
    · cases h
  case fldA off x =>
    simp only [opR,Ym] at h
    split at h
    · rename_i h1;cases h
      exact ⟨o,by simp only [QW,Ql,h1]⟩
    · cases h
  case ld n g x =>
    simp only [opR,Ym] at h
    split at h
    · rename_i h1
      simp only [Option.bind_eq_some_iff,Option.map_eq_some_iff] at h
      obtain ⟨a,h2,c,h3,e⟩:=h;cases e
      rw [yn o] at h2
      exact ⟨o,by simp only [QW,Ql,h1,h2,h3,Option.bind_some,Option.map_some]⟩
    · cases h
  case st n a x =>
    simp only [opR,Ym,yz] at h
    split at h
    · rename_i h1
      simp only [Option.bind_eq_some_iff] at h
      obtain ⟨a,h2,c,h3,h4⟩:=h
      split at h4
      · rename_i h5
        rw [Option.map_eq_some_iff] at h4
        obtain ⟨q,h6,e⟩:=h4;cases e
        obtain ⟨k1,k2⟩:=zt o h6
        exact ⟨k1,by simp only [QW,Ql,h1,h2,h3,Option.bind_some];rw [if_pos h5,k2];rfl⟩
      · cases h4
    · cases h
  case new z =>
    simp only [opR,Option.some.injEq,Prod.mk.injEq] at h
    obtain ⟨rfl,rfl⟩:=h
    exact ⟨Ze o _,by simp only [QW,Ql];rw [ZJ,el]⟩
  case newT t z =>
    simp only [opR,Option.some.injEq,Prod.mk.injEq] at h
    obtain ⟨rfl,rfl⟩:=h
    exact ⟨Ze o _,by simp only [QW,Ql];rw [ZJ,el]⟩
  case box x =>
    simp only [opR,yz,Option.bind_eq_some_iff,Option.map_eq_some_iff] at h
    obtain ⟨a,h1,b,h2,e⟩:=h;cases e
    exact ⟨Ze o _,by simp only [QW,Ql,h1,h2,Option.bind_some,Option.map_some];rw [ZJ,el]⟩
  case bsl esz zero len parts =>
    simp only [opR] at h
    split at h
    · rename_i h0
      simp only [Option.bind_eq_some_iff,Option.map_eq_some_iff] at h
      obtain ⟨a,h1,b,h2,e⟩:=h;cases e
      exact ⟨Ze o _,by simp only [QW,Ql];rw [if_pos h0];simp only [h1,h2,Option.bind_some,Option.map_some];rw [ZJ,el]⟩
    · cases h
  case mk esz bytes zero l c =>
    simp only [opR,Ym] at h
    split at h
    · rename_i h1 h2
      split at h
      · rename_i h3;cases h
        exact ⟨Ze o _,by simp only [QW,Ql,h1,h2];rw [if_pos h3,ZJ,el]⟩
      · cases h
    · cases h
  case sl esz x lo hi =>
    simp only [opR,Ym,Option.bind_eq_some_iff,Option.map_eq_some_iff] at h
    obtain ⟨a,h1,b,h2,c,h3,d,h4,f,h5,e⟩:=h;cases e
    rw [Qcw o] at h5
    exact ⟨o,by simp only [QW,Ql,h1,h2,h3,h4,h5,Option.bind_some,Option.map_some]⟩
  case app esz bytes z x y =>
    simp only [opR,Ym,Option.bind_eq_some_iff,Option.map_eq_some_iff] at h
    obtain ⟨a,h1,b,h2,c,h3,⟨s',r2⟩,h5,e⟩:=h;cases e
    rw [Qf9 o] at h3
    obtain ⟨k1,k2⟩:=Qgp o h5
    exact ⟨k1,by simp only [QW,Ql,h1,h2,h3,Option.bind_some];rw [k2];rfl⟩
  case ustr t x n =>
    simp only [opR,Ym] at h
    split at h
    · rename_i id m h1 h2
      split at h
      · rename_i cs z hg
        split at h
        · rename_i h3
          simp only [Option.bind_eq_some_iff,Option.map_eq_some_iff] at h
          obtain ⟨a,h4,b,h5,e⟩:=h;cases e
          refine ⟨y8 o _ _,?_⟩
          have hg2:=hg
          rw [Zs o] at hg2
          simp only [QW,Ql,h1,h2,hg2]
          rw [if_pos h3,h4,Option.bind_some,h5,UQ o (y9 hg)];rfl
        · cases h
      · cases h
    · rename_i m h1 h2
      split at h
      · rename_i h3;cases h
        exact ⟨o,by simp only [QW,Ql,h1,h2];rw [if_pos h3]⟩
      · cases h
    · cases h
  case call f args =>
    simp only [opR,Vi,Option.bind_eq_some_iff,Option.map_eq_some_iff] at h
    obtain ⟨a,h1,⟨q1,q2⟩,h2,e⟩:=h;cases e
    obtain ⟨k1,k2⟩:=sim _ _ _ _ _ o h2
    exact ⟨k1,by simp only [QW,h1,Option.bind_some,k2,Option.map_some]⟩
  case callv x args =>
    simp only [opR,Ym,Vi] at h
    split at h
    · rename_i h0
      simp only [Option.bind_eq_some_iff,Option.map_eq_some_iff] at h
      obtain ⟨a,h1,⟨q1,q2⟩,h2,e⟩:=h;cases e
      obtain ⟨k1,k2⟩:=sim _ _ _ _ _ o h2
      exact ⟨k1,by simp only [QW,h0,h1,Option.bind_some,k2,Option.map_some]⟩
    · cases h
  all_goals exact gen h
def J9 (cr:CR) (o:AOp) (E:Env) (r:RH):Option (Env × RH) :=
  match Yc E o.guard with
  | some true=>(opR cr E r o.k).map fun q=>(Qq o.dst q.1 E,q.2)
  | some false=>some (Qq o.dst (some (.tup [])) E,r)
  | none=>none
theorem ym {cr:CR} {cf:CF} (sim:Uc cr cf) {o:AOp} {E E':Env} {r r':RH} (ok:r.Ok) (h:J9 cr o E r=some (E',r')):r'.Ok∧Yp cf o E r.h=some (E',r'.h):=by
  unfold J9 at h
  unfold Yp
  split at h
  · rename_i hw
    rw [hw]
    rw [Option.map_eq_some_iff] at h
    obtain ⟨⟨v,q⟩,h1,e⟩:=h;cases e
    obtain ⟨k1,k2⟩:=QiV sim ok h1
    exact ⟨k1,by simp only [k2,Option.map_some]⟩
  · rename_i hw
    rw [hw];cases h
    exact ⟨ok,rfl⟩
  · cases h
def y7 (cr:CR):List AOp→Env→RH→Option (Env × RH)
  | [],E,r=>some (E,r)
  | o::rs,E,r=>match J9 cr o E r with
    | some (E',r')=>y7 cr rs E' r'
    | none=>none
theorem zu {cr:CR} {cf:CF} (sim:Uc cr cf):∀ {ops:List AOp} {E E':Env} {r r':RH},r.Ok→y7 cr ops E r=some (E',r')→r'.Ok∧Zl cf ops E r.h=some (E',r'.h)
  | [],E,E',r,r',ok,h=>by cases h;exact ⟨ok,rfl⟩
  | o::rs,E,E',r,r',ok,h=>by
    unfold y7 at h
    split at h
    · rename_i E1 r1 h1
      obtain ⟨k1,k2⟩:=ym sim ok h1
      unfold Zl
      rw [k2]
      exact zu sim k1 h
    · cases h
def Qbq (r' r:RH):Bool:=decide (r.1≤r'.1) && decide (r'.2.drop (r'.1-r.1)=r.2)
theorem VE {r r':RH} (o:r.Ok) (o':r'.Ok) (h:Qbq r' r=true):(r'.h.take r.h.length == r.h)=true:=by
  unfold Qbq at h
  rw [Bool.and_eq_true,decide_eq_true_iff,decide_eq_true_iff] at h
  have e:r'.h.take r.h.length=r.h:=by
    unfold RH.Ok at o o'
    unfold RH.h
    rw [List.length_reverse,List.take_reverse,← o,← o',h.2]
  rw [e];exact beq_self_eq_true _
def qE (ph:FuncId→Bool) (cr:CR):List (AOp × Bool)→Env→RH→Option (Env × RH)
  | [],E,r=>some (E,r)
  | (o,ord)::rs,E,r=>match J9 cr o E r with
    | some (E',r')=>if ord || QbI ph o.k || Qbq r' r then qE ph cr rs E' r' else none
    | none=>none
theorem yL {ph:FuncId→Bool} {cr:CR} {cf:CF} (sim:Uc cr cf) (hph:∀ f args h r,ph f=true→cf f args h=some r→r.2=h):∀ {ops:List (AOp × Bool)} {E E':Env} {r r':RH},r.Ok→qE ph cr ops E r=some (E',r')→r'.Ok∧Zd cf ops E r.h=some (E',r'.h)
  | [],E,E',r,r',ok,h=>by cases h;exact ⟨ok,rfl⟩
  | (o,ord)::rs,E,E',r,r',ok,h=>by
    unfold qE at h
    split at h
    · rename_i E1 r1 h1
      obtain ⟨k1,k2⟩:=ym sim ok h1
      split at h
      · rename_i hc
        unfold Zd
        rw [k2]
        have hc2:(ord || r1.h.take r.h.length == r.h)=true:=by
          rw [Bool.or_eq_true,Bool.or_eq_true] at hc
          rw [Bool.or_eq_true]
          rcases hc with (hc | hc) | hc
          · exact .inl hc
          · refine .inr ?_
            unfold Yp at k2
            split at k2
            · rw [Option.map_eq_some_iff] at k2
              obtain ⟨q,hq2,e⟩:=k2
              have:=QdS hph hc hq2
              have e2:q.2=r1.h:=congrArg Prod.snd e
              rw [← e2]
              exact this
            · simp only [Option.some.injEq,Prod.mk.injEq] at k2
              rw [← k2.2];exact X3 _
            · cases k2
          · exact .inr (VE ok k1 hc)
        simp only
        rw [if_pos hc2]
        exact yL sim hph k1 h
      · cases h
    · cases h
def U7 (cr:CR):List (AOp × Nat × Bool)→Env→RH→List Nat
  | [],_,_=>[]
  | (o,_,ord)::rs,E,r=>match J9 cr o E r with
    | some (E',r')=>ldL (ldX E ord o.k)++U7 cr rs E' r'
    | none=>[]
def Vu (cr:CR) (fr:List Nat):List (AOp × Nat × Bool)→Env→RH→List Nat
  | [],_,_=>[]
  | (o,i,_)::rs,E,r=>match J9 cr o E r with
    | some (E',r')=>(if fr.contains (1000+i) then List.range' r.1 (r'.1-r.1) else [])++Vu cr fr rs E' r'
    | none=>[]
def qD (cr:CR) (S A fr:List Nat):List (AOp × Nat × Bool)→Env→RH→Option (Env × RH)
  | [],E,r=>some (E,r)
  | (o,i,ord)::rs,E,r=>match J9 cr o E r with
    | some (E',r')=>if (ord || Qbq r' r) && ((fr.contains i || (S.all (fun id=>qG r' id == qG r id) && A.all (fun id=>decide (r.1≤id) || qG r' id == qG r id))) && QgE S (ldX E ord o.k)) then qD cr S A fr rs E' r' else none
    | none=>none
theorem yK {cr:CR} {cf:CF} (sim:Uc cr cf) {S A fr:List Nat}:∀ {ops:List (AOp × Nat × Bool)} {E E':Env} {r r':RH},r.Ok→qD cr S A fr ops E r=some (E',r') →
    r'.Ok∧Yx cf S A fr ops E r.h=some (E',r'.h)∧U7 cr ops E r=qT cf ops E r.h∧Vu cr fr ops E r=JR cf fr ops E r.h
  | [],E,E',r,r',ok,h=>by cases h;exact ⟨ok,rfl,rfl,rfl⟩
  | (o,i,ord)::rs,E,E',r,r',ok,h=>by
    unfold qD at h
    split at h
    · rename_i E1 r1 h1
      obtain ⟨k1,k2⟩:=ym sim ok h1
      split at h
      · rename_i hc
        obtain ⟨j1,j2,j3,j4⟩:=yK sim k1 h
        refine ⟨j1,?_,?_,?_⟩
        · unfold Yx
          rw [k2]
          simp only
          rw [if_pos ?_]
          · exact j2
          · simp only [Zs ok,Zs k1] at hc
            rw [← ok.len] at hc
            rw [Bool.and_eq_true,Bool.or_eq_true] at hc
            rw [Bool.and_eq_true,Bool.or_eq_true]
            exact ⟨hc.1.imp id fun h=>VE ok k1 h,hc.2⟩
        · unfold U7 qT
          rw [h1,k2]
          simp only
          rw [j3]
        · unfold Vu JR
          rw [h1,k2]
          simp only
          rw [j4,ok.len,k1.len]
      · cases h
    · cases h
abbrev Qdi:=Option (Ex × Env × RH)
def Qb3 (keep:List Nat) (step:Env→RH→Qdi):Nat→Env→RH→Qdi
  | 0,_,_=>none
  | n+1,E,r=>match step (Ux E keep) r with
    | some (.nm,E',r')=>Qb3 keep step n E' r'
    | q=>q
def Y1 (ph:FuncId→Bool) (cr:CR) (n:Nat):AC→Env→RH→Qdi
  | .skip,E,h=>some (.nm,E,h)
  | .ret,E,h=>some (.rt,E,h)
  | .exit id,E,h=>some (.ex id,E,h)
  | .reg ops keep,E,h=>(y7 cr ops E h).map fun r=>(.nm,Ux r.1 keep,r.2)
  | .regd ops keep,E,h=>(qE ph cr (ops.map fun p=>(p.1,p.2.2)) E h).map fun r=>(.nm,Ux r.1 keep,r.2)
  | .regs ops fr keep,E,h=>(qD cr (U7 cr ops E h) (Vu cr fr ops E h) fr ops E h).map fun r=>(.nm,Ux r.1 keep,r.2)
  | .seq a b,E,h=>match Y1 ph cr n a E h with
    | some (.nm,E',h')=>Y1 ph cr n b E' h'
    | r=>r
  | .cond c a b,E,h=>match ZH E c with
    | some (.bool t)=>if t=true then Y1 ph cr n a E h else Y1 ph cr n b E h
    | _=>none
  | .block id a,E,h=>match Y1 ph cr n a E h with
    | some (.ex i,E',h')=>if i=id then some (.nm,E',h') else some (.ex i,E',h')
    | r=>r
  | .loop keep a,E,h=>Qb3 keep (Y1 ph cr n a) n E h
  | .scope a,E,h=>Y1 ph cr n a E h
def SimX (fR:Env→RH→Qdi) (f:Env→Qa→Out):Prop:=∀ E r ex E' r',r.Ok→fR E r=some (ex,E',r')→r'.Ok∧f E r.h=some (ex,E',r'.h)
theorem Qac {keep:List Nat} {sR:Env→RH→Qdi} {s:Env→Qa→Out} (sim:SimX sR s):∀ n,SimX (Qb3 keep sR n) (JH keep s n)
  | 0=>fun E r ex E' r' ok h=>by cases h
  | n+1=>fun E r ex E' r' ok h=>by
    unfold Qb3 at h
    unfold JH
    rw [qV] at h
    cases hs:sR (E.keep keep) r with
    | none=>rw [hs] at h;cases h
    | some q =>
      obtain ⟨x,E1,r1⟩:=q
      obtain ⟨k1,k2⟩:=sim _ _ _ _ _ ok hs
      rw [hs] at h
      rw [k2]
      cases x with
      | nm=>exact Qac sim n _ _ _ _ _ k1 h
      | ex i=>cases h;exact ⟨k1,rfl⟩
      | rt=>cases h;exact ⟨k1,rfl⟩
theorem Zj {ph:FuncId→Bool} {cr:CR} {cf:CF} (sim:Uc cr cf) (hph:∀ f args h r,ph f=true→cf f args h=some r→r.2=h) (n:Nat):∀ c:AC,SimX (Y1 ph cr n c) (Xy cf n c)
  | .skip=>fun E r ex E' r' ok h=>by cases h;exact ⟨ok,rfl⟩
  | .ret=>fun E r ex E' r' ok h=>by cases h;exact ⟨ok,rfl⟩
  | .exit id=>fun E r ex E' r' ok h=>by cases h;exact ⟨ok,rfl⟩
  | .reg ops keep=>fun E r ex E' r' ok h=>by
    unfold Y1 at h
    rw [Option.map_eq_some_iff] at h
    obtain ⟨⟨E1,r1⟩,h1,e⟩:=h
    cases e
    obtain ⟨k1,k2⟩:=zu sim ok h1
    exact ⟨k1,by unfold Xy;rw [k2,qV];rfl⟩
  | .regd ops keep=>fun E r ex E' r' ok h=>by
    unfold Y1 at h
    rw [Option.map_eq_some_iff] at h
    obtain ⟨⟨E1,r1⟩,h1,e⟩:=h
    cases e
    obtain ⟨k1,k2⟩:=yL sim hph ok h1
    exact ⟨k1,by unfold Xy;rw [k2,qV];rfl⟩
  | .regs ops fr keep=>fun E r ex E' r' ok h=>by
    unfold Y1 at h
    rw [Option.map_eq_some_iff] at h
    obtain ⟨⟨E1,r1⟩,h1,e⟩:=h
    cases e
    obtain ⟨k1,k2,k3,k4⟩:=yK sim ok h1
    rw [k3,k4] at k2
    exact ⟨k1,by unfold Xy;rw [k2,qV];rfl⟩
  | .seq a b=>fun E r ex E' r' ok h=>by
    unfold Y1 at h
    unfold Xy
    cases hs:Y1 ph cr n a E r with
    | none=>rw [hs] at h;cases h
    | some q =>
      obtain ⟨x,E1,r1⟩:=q
      obtain ⟨k1,k2⟩:=Zj sim hph n a _ _ _ _ _ ok hs
      rw [hs] at h
      rw [k2]
      cases x with
      | nm=>exact Zj sim hph n b _ _ _ _ _ k1 h
      | ex i=>cases h;exact ⟨k1,rfl⟩
      | rt=>cases h;exact ⟨k1,rfl⟩
  | .cond c a b=>fun E r ex E' r' ok h=>by
    unfold Y1 at h
    unfold Xy
    rw [Ym] at h
    split at h
    · rename_i t ht
      rw [ht]
      simp only
      split at h
      · rename_i hb;rw [if_pos hb];exact Zj sim hph n a _ _ _ _ _ ok h
      · rename_i hb;rw [if_neg hb];exact Zj sim hph n b _ _ _ _ _ ok h
    · cases h
  | .block id a=>fun E r ex E' r' ok h=>by
    unfold Y1 at h
    unfold Xy
    cases hs:Y1 ph cr n a E r with
    | none=>rw [hs] at h;cases h
    | some q =>
      obtain ⟨x,E1,r1⟩:=q
      obtain ⟨k1,k2⟩:=Zj sim hph n a _ _ _ _ _ ok hs
      rw [hs] at h
      rw [k2]
      cases x with
      | nm=>cases h;exact ⟨k1,rfl⟩
      | ex i =>
        simp only at h ⊢
        split at h
        · rename_i hi;cases h;rw [if_pos hi];exact ⟨k1,rfl⟩
        · rename_i hi;cases h;rw [if_neg hi];exact ⟨k1,rfl⟩
      | rt=>cases h;exact ⟨k1,rfl⟩
  | .loop keep a=>fun E r ex E' r' ok h=>by
    unfold Y1 at h
    unfold Xy
    exact Qac (Zj sim hph n a) n _ _ _ _ _ ok h
  | .scope a=>fun E r ex E' r' ok h=>by
    unfold Y1 at h
    unfold Xy
    exact Zj sim hph n a _ _ _ _ _ ok h
def QdQ (E:Env) (r:RH):ARes→Option PV
  | .t n=>(Qa2 E n).bind AV.pv
  | .cell a n agg=>match Qa2 E a with
    | some (.sc (.ptr id off))=>(zw r id off n).bind fun vs=>(Yy agg vs).bind AV.pv
    | _=>none
def QbF (E:Env) (r:RH):List ARes→Option (List PV)
  | []=>some []
  | x::rs=>(QdQ E r x).bind fun v=>(QbF E r rs).map (v::·)
theorem QbG {E:Env} {r:RH} (o:r.Ok) (x:ARes):QdQ E r x=ZW E r.h x:=by
  cases x with
  | t n=>simp only [QdQ,ZW,qX]
  | cell a n agg =>
    simp only [QdQ,ZW,qX]
    split <;> simp only [*]
    rw [yn o]
theorem VN {E:Env} {r:RH} (o:r.Ok):∀ xs,QbF E r xs=Zm E r.h xs
  | []=>rfl
  | x::xs=>by unfold QbF Zm;rw [QbG o,VN o xs]
def JD (rs:List ARes) (E:Env) (h:RH):Option AV :=
  match rs with
  | [r]=>(QdQ E h r).map PV.av
  | rs=>(QbF E h rs).map AV.tup
theorem yM {E:Env} {r:RH} (o:r.Ok) (rs:List ARes):JD rs E r=XI rs E r.h:=by
  cases rs with
  | nil=>rfl
  | cons x xs =>
    cases xs with
    | nil=>unfold JD XI;simp only;rw [QbG o]
    | cons y ys=>unfold JD XI;simp only;rw [VN o]
def Vg (F:AFun):Qdi→Option (AV × RH)
  | some (.nm,E,h')=>(JD F.res E h').map fun v=>(v,h')
  | some (.rt,E,h')=>(JD F.res E h').map fun v=>(v,h')
  | _=>none
abbrev UK:=List AV→RH→Option (AV × RH)
def Qav (ph:FuncId→Bool) (FT:FuncId→Option AFun) (HR:FuncId→Option UK):Nat→CR
  | 0=>fun _ _ _=>none
  | n+1=>fun f args h =>
    match HR f with
    | some g=>g args h
    | none =>
      match FT f with
      | none=>none
      | some F=>if args.length=F.np then Vg F (Y1 ph (Qav ph FT HR n) n F.body (params 0 args) h) else none
def QhZ (HR:FuncId→Option UK) (HK:FuncId→Option Xc):Prop:=∀ f,match HR f with
  | some g=>∃ g',HK f=some g'∧∀ args r v r',r.Ok→g args r=some (v,r')→r'.Ok∧g' args r.h=some (v,r'.h)
  | none=>HK f=none
theorem Qau {ph:FuncId→Bool} {FT:FuncId→Option AFun} {HR:FuncId→Option UK} {HK:FuncId→Option Xc} (hs:QhZ HR HK) (hp:Qfy ph HK):∀ n,Uc (Qav ph FT HR n) (XY FT HK n)
  | 0=>fun f args r v r' ok h=>by cases h
  | n+1=>fun f args r v r' ok h=>by
    have hf:=hs f
    unfold Qav at h
    unfold XY
    cases hg:HR f with
    | some g =>
      rw [hg] at h hf
      obtain ⟨g',e1,e2⟩:=hf
      rw [e1]
      exact e2 _ _ _ _ ok h
    | none =>
      rw [hg] at h hf
      rw [show HK f=none from hf]
      simp only at h ⊢
      split at h
      · cases h
      · rename_i F hF
        rw [hF]
        simp only
        split at h
        · rename_i hl
          rw [if_pos hl]
          have hph:∀ f args h r,ph f=true→XY FT HK n f args h=some r→r.2=h:=fun f args h r hf hr=>by
            obtain ⟨g2,hg2,hs2⟩:=hp f hf
            cases n with
            | zero=>simp [XY] at hr
            | succ n =>
              simp only [XY,hg2] at hr
              exact hs2 _ _ _ hr
          cases hx:Y1 ph (Qav ph FT HR n) n F.body (params 0 args) r with
          | none=>rw [hx] at h;cases h
          | some q =>
            obtain ⟨x,E1,r1⟩:=q
            obtain ⟨k1,k2⟩:=Zj (Qau hs hp n) hph n F.body _ _ _ _ _ ok hx
            rw [hx] at h
            rw [k2]
            cases x with
            | ex i=>cases h
            | nm =>
              simp only [Vg] at h
              rw [Option.map_eq_some_iff] at h
              obtain ⟨u,h1,e⟩:=h;cases e
              rw [yM k1] at h1
              exact ⟨k1,by simp only [qj,h1,Option.map_some]⟩
            | rt =>
              simp only [Vg] at h
              rw [Option.map_eq_some_iff] at h
              obtain ⟨u,h1,e⟩:=h;cases e
              rw [yM k1] at h1
              exact ⟨k1,by simp only [qj,h1,Option.map_some]⟩
        · cases h
def QbZ (g:Xc):UK:=fun args r=>(g args []).map fun q=>(q.1,r)
def ccR (T:Nat):UK:=fun args h=>match args with
  | [.sc (.ptr id 0)]=>match qG h id with
    | some (.cells [.nilP,x] true z)=>if z=⟨0,some T⟩ then some (.tup [],VK h id (.cells [.ptr id 0,x] true z)) else none
    | some (.cells [.ptr j 0,x] true z)=>if z=⟨0,some T⟩∧j=id then some (.tup [],h) else none
    | _=>none
  | _=>none
theorem Qjp {T:Nat} {args:List AV} {r r':RH} {v:AV} (o:r.Ok) (h:ccR T args r=some (v,r')):r'.Ok∧qu T args r.h=some (v,r'.h):=by
  unfold ccR at h
  unfold qu
  split at h
  · split at h
    · rename_i hg
      split at h
      · rename_i hz;cases h
        have hg2:=hg
        rw [Zs o] at hg2
        refine ⟨y8 o _ _,?_⟩
        simp only [hg2]
        rw [if_pos hz,UQ o (y9 hg)]
      · cases h
    · rename_i hg
      split at h
      · rename_i hz;cases h
        have hg2:=hg
        rw [Zs o] at hg2
        refine ⟨o,?_⟩
        simp only [hg2]
        rw [if_pos hz]
      · cases h
    · cases h
  · cases h
end Go.Ab

