import Derived.Test.YtofknpknogfijaaGreatDoorAb47
/- The same reckoning,quicker: an operation that plainly leaves the memory as it is (or lays a block behind it) needs no comparison. -/
namespace Go.Ab
set_option linter.unusedVariables false
def Qck (ph:FuncId→Bool):AK→Bool
  | .mv _ | .pick _ _ _ | .bin _ _ _ | .un _ _ | .conv _ _ | .len _ _ | .idxA _ _ _ | .fldA _ _ | .ld _ _ _ | .new _ | .ext _ _=>true
  | .call f _=>ph f
  | _=>false
theorem X0 (h:Qa):((h.take h.length == h):Bool)=true:=by rw [List.take_length];exact beq_self_eq_true h
theorem QeB {ph:FuncId→Bool} {cf:CF} (hph:∀ f args h r,ph f=true→cf f args h=some r→r.2=h) {E:Env} {h:Qa} {k:AK} {r:Option AV × Qa} (hq:Qck ph k=true) (hr:Q0 cf E h k=some r):(r.2.take h.length == h)=true:=by
  have same:r.2=h→(r.2.take h.length == h)=true:=fun e=>by rw [e];exact X0 h
  cases k <;> simp only [Qck] at hq <;> try exact absurd hq (by decide)
  case mv x=>simp only [Q0,Ql,Option.map_eq_some_iff] at hr;obtain ⟨v,-,rfl⟩:=hr;exact X0 h
  case pick c a b =>
    simp only [Q0,Ql] at hr
    split at hr
    · split at hr <;> (rw [Option.map_eq_some_iff] at hr;obtain ⟨v,-,rfl⟩:=hr;exact X0 h)
    · cases hr
  case bin op x y =>
    simp only [Q0,Ql,Option.bind_eq_some_iff,Option.map_eq_some_iff] at hr
    obtain ⟨a,-,b,-,v,-,rfl⟩:=hr;exact X0 h
  case un op x =>
    simp only [Q0,Ql,Option.bind_eq_some_iff,Option.map_eq_some_iff] at hr
    obtain ⟨a,-,v,-,rfl⟩:=hr;exact X0 h
  case conv kd x =>
    simp only [Q0,Ql] at hr
    split at hr
    · cases hr;exact X0 h
    · cases hr
  case len s x =>
    simp only [Q0,Ql,Option.bind_eq_some_iff,Option.map_eq_some_iff] at hr
    obtain ⟨a,-,v,-,rfl⟩:=hr;exact X0 h
  case idxA z x i =>
    simp only [Q0,Ql] at hr
    split at hr
    · split at hr
      · cases hr;exact X0 h
      · cases hr
    · cases hr
  case fldA o x =>
    simp only [Q0,Ql] at hr
    split at hr
    · cases hr;exact X0 h
    · cases hr
  case ld n g x =>
    simp only [Q0,Ql] at hr
    split at hr
    · simp only [Option.bind_eq_some_iff,Option.map_eq_some_iff] at hr
      obtain ⟨a,-,v,-,rfl⟩:=hr;exact X0 h
    · cases hr
  case new z =>
    simp only [Q0,Ql,Option.some.injEq] at hr
    subst hr
    show ((h++_).take h.length == h)=true
    rw [List.take_left];exact beq_self_eq_true h
  case ext x i =>
    simp only [Q0,Ql] at hr
    split at hr
    · rw [Option.map_eq_some_iff] at hr;obtain ⟨v,-,rfl⟩:=hr;exact X0 h
    · cases hr
  case call f args =>
    simp only [Q0,Option.bind_eq_some_iff,Option.map_eq_some_iff] at hr
    obtain ⟨vs,-,q,hq2,rfl⟩:=hr
    exact same (hph f vs h q hq hq2)
def fMv (E:Env) (h:Qa) (x:AO):Option (Option AV × Qa):=(ev E x).map fun v=>(some v,h)
def fPick (E:Env) (h:Qa) (c a b:AO):Option (Option AV × Qa):=match evS E c with
  | some (.bool t)=>if t=true then (ev E a).map fun v=>(some v,h) else (ev E b).map fun v=>(some v,h)
  | _=>none
def fBin (E:Env) (h:Qa) (op:BinOp) (x y:AO):Option (Option AV × Qa):=(evS E x).bind fun a=>(evS E y).bind fun b=>(Zl op a b).map fun v=>(some (.sc v),h)
def fUn (E:Env) (h:Qa) (op:UnOp) (x:AO):Option (Option AV × Qa):=(evS E x).bind fun a=>(unS op a).map fun v=>(some (.sc v),h)
def fConv (E:Env) (h:Qa) (k:IntKind) (x:AO):Option (Option AV × Qa):=match evS E x with
  | some (.int _ n)=>some (some (.sc (X4 k n)),h)
  | _=>none
def fLen (E:Env) (h:Qa) (str:Bool) (x:AO):Option (Option AV × Qa):=(evS E x).bind fun a=>(Ys str a).map fun n=>(some (.sc (.int .i64 n)),h)
def fIdx (E:Env) (h:Qa) (esz:Nat) (x i:AO):Option (Option AV × Qa):=match evS E x,evS E i with
  | some (.slc id off n _),some (.int _ j)=>if 0≤j∧j < n then some (some (.sc (.ptr id (off+j.toNat*esz))),h) else none
  | _,_=>none
def fFldA (E:Env) (h:Qa) (off:Nat) (x:AO):Option (Option AV × Qa):=match evS E x with
  | some (.ptr id o)=>some (some (.sc (.ptr id (o+off))),h)
  | _=>none
def fLd (E:Env) (h:Qa) (n:Nat) (agg:Bool) (x:AO):Option (Option AV × Qa):=match evS E x with
  | some (.ptr id off)=>(QT h id off n).bind fun vs=>(Yw agg vs).map fun v=>(some v,h)
  | _=>none
def fSt (E:Env) (h:Qa) (n:Nat) (a x:AO):Option (Option AV × Qa):=match evS E a with
  | some (.ptr id off)=>(ev E x).bind fun v=>v.cells.bind fun vs=>if vs.length=n then (Xp h id off vs).map fun h'=>(none,h') else none
  | _=>none
def fBox (E:Env) (h:Qa) (x:AO):Option (Option AV × Qa):=(ev E x).bind fun v=>v.cells.map fun vs=>(some (.sc (.ptr h.length 0)),h++[.cells vs true 0])
def fNew (h:Qa) (zero:List SV):Option (Option AV × Qa):=some (some (.sc (.ptr h.length 0)),h++[.cells zero true 0])
def fMk (E:Env) (h:Qa) (esz:ESz) (bytes:Nat) (zero:List SV) (l c:AO):Option (Option AV × Qa):=match evS E l,evS E c with
  | some (.int _ n),some (.int _ m)=>if 0≤n∧n≤m∧m*(bytes+1:Nat)≤XQ then
      some (some (.sc (.slc h.length 0 n.toNat (some m.toNat))),h++[.cells (rep zero m.toNat) true esz]) else none
  | _,_=>none
def fExt (E:Env) (h:Qa) (x:AO) (i:Nat):Option (Option AV × Qa):=match ev E x with
  | some (.tup xs)=>(xs[i]?).map fun p=>(some p.av,h)
  | _=>none
def fCall (cf:CF) (E:Env) (h:Qa) (f:FuncId) (args:List AO):Option (Option AV × Qa):=(evs E args).bind fun vs=>(cf f vs h).map fun r=>(some r.1,r.2)
def QeH (cf:CF) (E:Env) (h:Qa) (k:AK):Option (Option AV × Qa):=match k with
  | .mv x=>fMv E h x
  | .pick c a b=>fPick E h c a b
  | .bin op x y=>fBin E h op x y
  | .un op x=>fUn E h op x
  | .conv k x=>fConv E h k x
  | .len s x=>fLen E h s x
  | .idxA z x i=>fIdx E h z x i
  | .fldA o x=>fFldA E h o x
  | .ld n g x=>fLd E h n g x
  | .st n a x=>fSt E h n a x
  | .box x=>fBox E h x
  | .new z=>fNew h z
  | .mk z b zero l c=>fMk E h z b zero l c
  | .ext x i=>fExt E h x i
  | .call f args=>fCall cf E h f args
  | k=>Q0 cf E h k
theorem opRunF_eq (cf:CF) (E:Env) (h:Qa) (k:AK):QeH cf E h k=Q0 cf E h k:=by cases k <;> rfl
def bindR (d:Option Nat) (E:Env) (r:Option AV × Qa):Env × Qa:=(Qr d r.1 E,r.2)
def Qec (cf:CF) (o:AOp) (E:Env) (h:Qa):Option (Env × Qa) :=
  match X8 E o.guard with
  | some true=>(QeH cf E h o.k).map (bindR o.dst E)
  | some false=>some (Qr o.dst (some (.tup [])) E,h)
  | none=>none
def Qb9 (cf:CF):List AOp→Env→Qa→Option (Env × Qa)
  | [],E,h=>some (E,h)
  | o::r,E,h=>match Qec cf o E h with
    | some (E',h')=>Qb9 cf r E' h'
    | none=>none
def Qca (ph:FuncId→Bool) (cf:CF):List (AOp × Bool)→Env→Qa→Option (Env × Qa)
  | [],E,h=>some (E,h)
  | (o,ord)::r,E,h=>match Qec cf o E h with
    | some (E',h')=>if ord || Qck ph o.k || h'.take h.length == h then Qca ph cf r E' h' else none
    | none=>none
def y5 (ph:FuncId→Bool) (cf:CF) (n:Nat):AC→Env→Qa→Out
  | .skip,E,h=>some (.nm,E,h)
  | .ret,E,h=>some (.rt,E,h)
  | .exit id,E,h=>some (.ex id,E,h)
  | .reg ops keep,E,h=>(Qb9 cf ops E h).map fun r=>(.nm,r.1.keep keep,r.2)
  | .regd ops keep,E,h=>(Qca ph cf (ops.map fun p=>(p.1,p.2.2)) E h).map fun r=>(.nm,r.1.keep keep,r.2)
  | .regs ops fr keep,E,h=>(Yv cf (qY cf ops E h) (JO cf fr ops E h) fr ops E h).map fun r=>(.nm,r.1.keep keep,r.2)
  | .seq a b,E,h=>match y5 ph cf n a E h with
    | some (.nm,E',h')=>y5 ph cf n b E' h'
    | r=>r
  | .cond c a b,E,h=>match evS E c with
    | some (.bool t)=>if t=true then y5 ph cf n a E h else y5 ph cf n b E h
    | _=>none
  | .block id a,E,h=>match y5 ph cf n a E h with
    | some (.ex i,E',h')=>if i=id then some (.nm,E',h') else some (.ex i,E',h')
    | r=>r
  | .loop keep a,E,h=>JF keep (y5 ph cf n a) n E h
  | .scope a,E,h=>y5 ph cf n a E h
def callF (ph:FuncId→Bool) (FT:FuncId→Option AFun) (HK:FuncId→Option Xe):Nat→CF
  | 0=>fun _ _ _=>none
  | n+1=>fun f args h =>
    match HK f with
    | some g=>g args h
    | none =>
      match FT f with
      | none=>none
      | some F=>if args.length=F.np then qh F (y5 ph (callF ph FT HK n) n F.body (params 0 args) h) else none
def Qgw (ph:FuncId→Bool) (HK:FuncId→Option Xe):Prop:=∀ f,ph f=true→∃ g,HK f=some g∧∀ args h r,g args h=some r→r.2=h
end Go.Ab


/- The same reckoning over a memory whose latest blocks come first: for the kernel. Whatever it finds is what is reckoned. -/
namespace Go.Ab
set_option linter.unusedVariables false
set_option linter.unusedSimpArgs false
def QbE:Env→Nat→Option AV
  | [],_=>none
  | (k,v)::r,t=>bif Nat.beq k t then v else QbE r t
theorem ye:∀ (E:Env) (t:Nat),QbE E t=E.get t
  | [],_=>rfl
  | (k,v)::r,t=>by
    unfold QbE Env.get
    rw [ye r t]
    by_cases h:k=t
    · rw [if_pos h,h,Nat.beq_refl];rfl
    · rw [if_neg h,show Nat.beq k t=false by cases hb:Nat.beq k t;rfl;exact absurd (Nat.eq_of_beq_eq_true hb) h];rfl
def UY (E:Env) (ks:List Nat):Env:=ks.map fun t=>(t,QbE E t)
theorem ya (E:Env) (ks:List Nat):UY E ks=E.keep ks:=by unfold UY Env.keep;simp only [ye]
def evQ (E:Env):AO→Option AV
  | .t n=>QbE E n
  | .k v=>some v
theorem yI (E:Env) (x:AO):evQ E x=ev E x:=by cases x;exact ye _ _;rfl
def ZC (E:Env) (x:AO):Option SV:=match evQ E x with
  | some (.sc v)=>some v
  | _=>none
theorem Yk (E:Env) (x:AO):ZC E x=evS E x:=by unfold ZC evS;rw [yI];rfl
def Qfm (E:Env):List AO→Option (List AV)
  | []=>some []
  | x::r=>(evQ E x).bind fun v=>(Qfm E r).map (v::·)
theorem VQ (E:Env):∀ xs,Qfm E xs=evs E xs
  | []=>rfl
  | x::r=>by unfold Qfm evs;rw [yI,VQ E r]
abbrev RH:=Nat × List Blk
def RH.h (r:RH):Qa:=r.2.reverse
def RH.Ok (r:RH):Prop:=r.1=r.2.length
theorem RH.Ok.len {r:RH} (o:r.Ok):r.h.length=r.1:=by unfold RH.h;rw [List.length_reverse];exact o.symm
def qK (r:RH) (id:Nat):Option Blk:=if id < r.1 then r.2[r.1-1-id]? else none
theorem Zp {r:RH} (o:r.Ok) (id:Nat):qK r id=r.h[id]?:=by
  unfold qK RH.h
  unfold RH.Ok at o
  split
  · rw [List.getElem?_reverse (by omega),o]
  · rw [List.getElem?_eq_none (by simp;omega)]
def Qaj (r:RH) (id:Nat) (b:Blk):RH:=(r.1,r.2.set (r.1-1-id) b)
theorem zk {r:RH} (o:r.Ok) (id:Nat) (b:Blk):(Qaj r id b).Ok:=by unfold RH.Ok Qaj at *;simpa using o
theorem Vl {r:RH} (o:r.Ok) {id:Nat} (h:id < r.1) (b:Blk):(Qaj r id b).h=r.h.set id b:=by
  unfold RH.h Qaj
  unfold RH.Ok at o
  apply List.ext_getElem?
  intro i
  rcases Nat.lt_or_ge i r.2.length with hi | hi
  · rw [List.getElem?_reverse (by simpa using hi),List.getElem?_set,List.getElem?_set,List.length_set,List.getElem?_reverse hi,List.length_reverse]
    by_cases e:id=i
    · subst e
      rw [if_pos (by omega),if_pos rfl,if_pos (by omega),if_pos hi]
    · rw [if_neg (by omega),if_neg e]
  · rw [List.getElem?_eq_none (by simpa using hi),List.getElem?_eq_none (by simpa using hi)]
def Jm (r:RH) (b:Blk):RH:=frc (r.1+1) fun m=>(m,b::r.2)
theorem Zb {r:RH} (o:r.Ok) (b:Blk):(Jm r b).Ok:=by unfold Jm;rw [Yj];unfold RH.Ok at *;simp [o]
theorem ZG (r:RH) (b:Blk):(Jm r b).h=r.h++[b]:=by unfold Jm;rw [Yj];simp [RH.h]
theorem zl {r:RH} {id:Nat} {b:Blk} (h:qK r id=some b):id < r.1:=by
  unfold qK at h
  split at h
  · assumption
  · cases h
def zQ (r:RH) (id off n:Nat):Option (List SV):=match qK r id with
  | some (.cells cs _ _)=>cut cs off n
  | _=>none
theorem yz {r:RH} (o:r.Ok) (id off n:Nat):zQ r id off n=QT r.h id off n:=by unfold zQ QT;rw [Zp o];rfl
def zi (r:RH) (id off:Nat) (vs:List SV):Option RH:=match qK r id with
  | some (.cells cs true esz)=>if off+vs.length≤cs.length then some (Qaj r id (.cells (Q1 cs off vs) true esz)) else none
  | _=>none
theorem zN {r r':RH} (o:r.Ok) {id off:Nat} {vs:List SV} (h:zi r id off vs=some r'):r'.Ok∧Xp r.h id off vs=some r'.h:=by
  unfold zi at h
  split at h
  · rename_i cs esz hg
    split at h
    · rename_i hl
      cases h
      refine ⟨zk o _ _,?_⟩
      unfold Xp
      rw [← Zp o,hg]
      simp only
      rw [if_pos hl,Vl o (zl hg)]
    · cases h
  · cases h
def rsrc (r:RH) (esz:Nat):SV→Option (Nat × List SV)
  | .nilS=>some (0,[])
  | .slc id off n _=>if n=0 then some (0,[]) else (zQ r id off (n*esz)).map (n,·)
  | .str s=>if esz=1 then some (s.size,s.data.toList.map fun b=>.int .u8 b.toNat) else none
  | _=>none
theorem Qg8 {r:RH} (o:r.Ok) (esz:Nat) (s:SV):rsrc r esz s=Xi r.h esz s:=by
  cases s <;> first | rfl | (simp only [rsrc,Xi];rw [yz o])
def rapp (r:RH) (esz:ESz) (bytes:Nat) (s:SV) (m:Nat) (vs:List SV):Option (SV × RH) :=
  match s with
  | .nilS=>if m=0 then some (.nilS,r) else if m*(bytes+1)≤XQ then some (.slc r.1 0 m none,Jm r (.cells vs true esz)) else none
  | .slc id off n cap =>
    if m=0 then some (.slc id off n cap,r) else
    if (n+m)*(bytes+1)≤XQ then
      match qK r id with
      | some (.cells cs rw e) =>
        if e=esz then
          match cut cs off (n*esz.n) with
          | some old =>
            match cap with
            | some c =>
              if c < n+m then some (.slc r.1 0 (n+m) none,Jm r (.cells (old++vs) true esz))
              else (zi r id (off+n*esz.n) vs).map fun h'=>(.slc id off (n+m) (some c),h')
            | none=>if rw=true∧(esz.ty=none∨off=0) then some (.slc r.1 0 (n+m) none,Jm (Qaj r id (.dead esz)) (.cells (old++vs) true esz)) else none
          | none=>none
        else none
      | _=>none
    else none
  | _=>none
theorem Qhv {r r':RH} (o:r.Ok) {esz:ESz} {bytes m:Nat} {s s':SV} {vs:List SV} (h:rapp r esz bytes s m vs=some (s',r')):r'.Ok∧YP r.h esz bytes s m vs=some (s',r'.h):=by
  have el:=o.len
  unfold rapp at h
  split at h
  · split at h
    · rename_i h0;cases h;exact ⟨o,by unfold YP;simp only;rw [if_pos h0]⟩
    · rename_i h0
      split at h
      · rename_i h1;cases h
        exact ⟨Zb o _,by unfold YP;simp only;rw [if_neg h0,if_pos h1,ZG,el]⟩
      · cases h
  · rename_i id off n cap
    unfold YP
    simp only
    split at h
    · rename_i h0;cases h;rw [if_pos h0];exact ⟨o,rfl⟩
    · rename_i h0
      rw [if_neg h0]
      split at h
      · rename_i h1
        rw [if_pos h1]
        split at h
        · rename_i cs rw' e hg
          rw [← Zp o,hg]
          simp only
          split at h
          · rename_i h2
            rw [if_pos h2]
            split at h
            · rename_i old h3
              rw [h3]
              simp only
              split at h
              · rename_i c
                simp only
                split at h
                · rename_i h4;cases h
                  rw [if_pos h4,ZG,el];exact ⟨Zb o _,rfl⟩
                · rename_i h4
                  rw [if_neg h4]
                  rw [Option.map_eq_some_iff] at h
                  obtain ⟨q,hq,e⟩:=h
                  cases e
                  obtain ⟨k1,k2⟩:=zN o hq
                  rw [k2];exact ⟨k1,rfl⟩
              · simp only
                split at h
                · rename_i h4;cases h
                  rw [if_pos h4,ZG,Vl o (zl hg),el]
                  exact ⟨Zb (zk o _ _) _,rfl⟩
                · cases h
            · cases h
          · cases h
        · cases h
      · cases h
  · cases h
def Qbl (r:RH) (esz:ESz) (lo hi:Nat):SV→Option SV
  | .nilS=>if lo=0∧hi=0 then some .nilS else none
  | .slc id off n cap=>match qK r id with
    | some b=>if b.esz=esz∧lo≤hi∧hi≤n then some (.slc id (off+lo*esz.n) (hi-lo) (cap.map (· - lo))) else none
    | _=>none
  | _=>none
theorem Qc5 {r:RH} (o:r.Ok) (esz:ESz) (lo hi:Nat) (s:SV):Qbl r esz lo hi s=YE r.h esz lo hi s:=by
  cases s <;> first | rfl | (simp only [Qbl,YE];rw [Zp o];rfl)
abbrev CR:=FuncId→List AV→RH→Option (AV × RH)
def UA (cr:CR) (cf:CF):Prop:=∀ f args r v r',r.Ok→cr f args r=some (v,r')→r'.Ok∧cf f args r.h=some (v,r'.h)
def Vs:AK→Bool
  | .mm _ _ _ | .bld _ _ | .ext _ _ | .mkf _ _ | .nilc _ | .isnil _ _ _ | .beq _ _ _ | .seq2 _ _ _ | .idxS _ _ | .car _ _ _ _ | .sl1 _ _ _ | .usd _=>true
  | _=>false
theorem Qdt {cf:CF} {E:Env} {k:AK} (hp:Vs k=true) {h:Qa} {v:Option AV} {h2:Qa} (hr:Ql E [] k=some (v,h2)):Q0 cf E h k=some (v,h):=by
  cases k <;> simp only [Vs] at hp <;> try exact absurd hp (by decide)
  all_goals simp only [Ql,Q0] at hr ⊢
  case mm=>simp only [Option.bind_eq_some_iff,Option.map_eq_some_iff] at hr ⊢;obtain ⟨a,h1,b,h2,c,h3,e⟩:=hr;cases e;exact ⟨a,h1,b,h2,c,h3,rfl⟩
  case bld=>simp only [Option.bind_eq_some_iff,Option.map_eq_some_iff] at hr ⊢;obtain ⟨a,h1,b,h2,e⟩:=hr;cases e;exact ⟨a,h1,b,h2,rfl⟩
  case isnil=>simp only [Option.bind_eq_some_iff,Option.map_eq_some_iff] at hr ⊢;obtain ⟨a,h1,b,h2,e⟩:=hr;cases e;exact ⟨a,h1,b,h2,rfl⟩
  case mkf=>simp only [Option.bind_eq_some_iff,Option.map_eq_some_iff] at hr ⊢;obtain ⟨a,h1,b,h2,e⟩:=hr;cases e;exact ⟨a,h1,b,h2,rfl⟩
  case sl1=>simp only [Option.bind_eq_some_iff,Option.map_eq_some_iff] at hr ⊢;obtain ⟨a,h1,b,h2,c,h3,d,h4,f,h5,e⟩:=hr;cases e;exact ⟨a,h1,b,h2,c,h3,d,h4,f,h5,rfl⟩
  case idxS x i =>
    split at hr
    · rename_i s kd j e1 e2
      split at hr
      · rename_i hj
        rw [Option.map_eq_some_iff] at hr
        obtain ⟨b,h1,e⟩:=hr
        cases e
        rw [if_pos hj,h1];rfl
      · cases hr
    · cases hr
  all_goals repeat' split at hr
  all_goals first
    | (cases hr;done)
    | (simp only [Option.bind_eq_some_iff,Option.map_eq_some_iff] at hr ⊢;obtain ⟨a,h1,b,h2,e⟩:=hr;cases e;exact ⟨a,h1,b,h2,rfl⟩)
    | (simp only [Option.map_eq_some_iff] at hr ⊢;obtain ⟨a,h1,e⟩:=hr;cases e;exact ⟨a,h1,rfl⟩)
    | (cases hr;simp only [*,and_self,if_true,if_false];done)
    | (cases hr;rfl)
    | (cases hr;simp [*];done)
def opR (cr:CR) (E:Env) (r:RH) (k:AK):Option (Option AV × RH):=match k with
  | .mv x=>(evQ E x).map fun v=>(some v,r)
  | .pick c a b=>match ZC E c with
    | some (.bool t)=>if t=true then (evQ E a).map fun v=>(some v,r) else (evQ E b).map fun v=>(some v,r)
    | _=>none
  | .bin op x y=>(ZC E x).bind fun a=>(ZC E y).bind fun b=>(Zl op a b).map fun v=>(some (.sc v),r)
  | .un op x=>(ZC E x).bind fun a=>(unS op a).map fun v=>(some (.sc v),r)
  | .conv k x=>match ZC E x with
    | some (.int _ n)=>some (some (.sc (X4 k n)),r)
    | _=>none
  | .len s x=>(ZC E x).bind fun a=>(Ys s a).map fun n=>(some (.sc (.int .i64 n)),r)
  | .idxA esz x i=>match ZC E x,ZC E i with
    | some (.slc id off n _),some (.int _ j)=>if 0≤j∧j < n then some (some (.sc (.ptr id (off+j.toNat*esz))),r) else none
    | _,_=>none
  | .fldA off x=>match ZC E x with
    | some (.ptr id o)=>some (some (.sc (.ptr id (o+off))),r)
    | _=>none
  | .ld n g x=>match ZC E x with
    | some (.ptr id off)=>(zQ r id off n).bind fun vs=>(Yw g vs).map fun v=>(some v,r)
    | _=>none
  | .st n a x=>match ZC E a with
    | some (.ptr id off)=>(evQ E x).bind fun v=>v.cells.bind fun vs=>if vs.length=n then (zi r id off vs).map fun h'=>(none,h') else none
    | _=>none
  | .new z=>some (some (.sc (.ptr r.1 0)),Jm r (.cells z true 0))
  | .box x=>(evQ E x).bind fun v=>v.cells.map fun vs=>(some (.sc (.ptr r.1 0)),Jm r (.cells vs true 0))
  | .newT t z=>some (some (.sc (.ptr r.1 0)),Jm r (.cells z true ⟨0,some t⟩))
  | .bsl esz zero len parts=>if len*esz.n≤16777216 then
      (XJ E (parts.map fun p=>(p.1*esz.n,esz.n,p.2))).bind fun ps=>(YL (rep zero len) ps).map fun cs=>(some (.sc (.slc r.1 0 len (some len))),Jm r (.cells cs true esz))
    else none
  | .mk esz bytes zero l c=>match ZC E l,ZC E c with
    | some (.int _ n),some (.int _ m)=>if 0≤n∧n≤m∧m*(bytes+1:Nat)≤XQ then
        some (some (.sc (.slc r.1 0 n.toNat (some m.toNat))),Jm r (.cells (rep zero m.toNat) true esz)) else none
    | _,_=>none
  | .sl esz x lo hi=>(ZC E x).bind fun v=>(Ys false v).bind fun n=>(bnd E 0 lo).bind fun l=>(bnd E n.toNat hi).bind fun u=>(Qbl r esz l u v).map fun s=>(some (.sc s),r)
  | .app esz bytes _ x y=>(ZC E x).bind fun s=>(ZC E y).bind fun t=>(rsrc r esz.n t).bind fun p=>(rapp r esz bytes s p.1 p.2).map fun q=>(some (.sc q.1),q.2)
  | .ustr t x n=>match ZC E x,ZC E n with
    | some (.ptr id 0),some (.int .i64 m)=>match qK r id with
      | some (.cells cs true z)=>if 0 < m∧m≤9223372036854775807∧z=⟨1,some t⟩ then (cut cs 0 m.toNat).bind fun vs=>(Za vs).map fun l=>(some (.sc (.str ⟨l.toArray⟩)),Qaj r id (.cells cs false z)) else none
      | _=>none
    | some .nilP,some (.int .i64 m)=>if m=0 then some (some (.sc (.str .empty)),r) else none
    | _,_=>none
  | .call f args=>(Qfm E args).bind fun vs=>(cr f vs r).map fun q=>(some q.1,q.2)
  | .callv x args=>match ZC E x with
    | some (.fn f caps)=>(Qfm E args).bind fun vs=>(cr f (vs++caps.map fun p=>AV.sc (.ptr p.1 p.2)) r).map fun q=>(some q.1,q.2)
    | _=>none
  | k=>if Vs k then (Ql E [] k).map fun q=>(q.1,r) else none
theorem Qkr {cr:CR} {cf:CF} (sim:UA cr cf) {E:Env} {r:RH} (o:r.Ok) {k:AK} {v:Option AV} {r':RH} (h:opR cr E r k=some (v,r')):r'.Ok∧Q0 cf E r.h k=some (v,r'.h):=by
  have el:=o.len
  have gen:(if Vs k then (Ql E [] k).map fun q=>(q.1,r) else none)=some (v,r')→r'.Ok∧Q0 cf E r.h k=some (v,r'.h):=fun h=>by
    split at h
    · rename_i hp
      rw [Option.map_eq_some_iff] at h
      obtain ⟨⟨v2,h2⟩,e1,e2⟩:=h
      cases e2
      exact ⟨o,Qdt hp e1⟩
    · cases h
  cases k
  case mv x =>
    simp only [opR,yI,Option.map_eq_some_iff] at h
    obtain ⟨a,h1,e⟩:=h;cases e
    exact ⟨o,by simp only [Q0,Ql,h1,Option.map_some]⟩
  case pick c a b =>
    simp only [opR,yI,Yk] at h
    split at h
    · rename_i t ht
      split at h
      · rename_i hb
        rw [Option.map_eq_some_iff] at h;obtain ⟨a,h1,e⟩:=h;cases e
        exact ⟨o,by simp only [Q0,Ql,ht];rw [if_pos hb,h1];rfl⟩
      · rename_i hb
        rw [Option.map_eq_some_iff] at h;obtain ⟨a,h1,e⟩:=h;cases e
        exact ⟨o,by simp only [Q0,Ql,ht];rw [if_neg hb,h1];rfl⟩
    · cases h
  case bin op x y =>
    simp only [opR,Yk,Option.bind_eq_some_iff,Option.map_eq_some_iff] at h
    obtain ⟨a,h1,b,h2,c,h3,e⟩:=h;cases e
    exact ⟨o,by simp only [Q0,Ql,h1,h2,h3,Option.bind_some,Option.map_some]⟩
  case un op x =>
    simp only [opR,Yk,Option.bind_eq_some_iff,Option.map_eq_some_iff] at h
    obtain ⟨a,h1,c,h3,e⟩:=h;cases e
    exact ⟨o,by simp only [Q0,Ql,h1,h3,Option.bind_some,Option.map_some]⟩
  case conv kd x =>
    simp only [opR,Yk] at h
    split at h
    · rename_i h1;cases h
      exact ⟨o,by simp only [Q0,Ql,h1]⟩
    · cases h
  case len s x =>
    simp only [opR,Yk,Option.bind_eq_some_iff,Option.map_eq_some_iff] at h
    obtain ⟨a,h1,c,h3,e⟩:=h;cases e
    exact ⟨o,by simp only [Q0,Ql,h1,h3,Option.bind_some,Option.map_some]⟩
  case idxA esz x i =>
    simp only [opR,Yk] at h
    split at h
    · rename_i h1 h2
      split at h
      · rename_i h3;cases h
        exact ⟨o,by simp only [Q0,Ql,h1,h2];rw [if_pos h3]⟩
      · cases h
    · cases h
  case fldA off x =>
    simp only [opR,Yk] at h
    split at h
    · rename_i h1;cases h
      exact ⟨o,by simp only [Q0,Ql,h1]⟩
    · cases h
  case ld n g x =>
    simp only [opR,Yk] at h
    split at h
    · rename_i h1
      simp only [Option.bind_eq_some_iff,Option.map_eq_some_iff] at h
      obtain ⟨a,h2,c,h3,e⟩:=h;cases e
      rw [yz o] at h2
      exact ⟨o,by simp only [Q0,Ql,h1,h2,h3,Option.bind_some,Option.map_some]⟩
    · cases h
  case st n a x =>
    simp only [opR,Yk,yI] at h
    split at h
    · rename_i h1
      simp only [Option.bind_eq_some_iff] at h
      obtain ⟨a,h2,c,h3,h4⟩:=h
      split at h4
      · rename_i h5
        rw [Option.map_eq_some_iff] at h4
        obtain ⟨q,h6,e⟩:=h4;cases e
        obtain ⟨k1,k2⟩:=zN o h6
        exact ⟨k1,by simp only [Q0,Ql,h1,h2,h3,Option.bind_some];rw [if_pos h5,k2];rfl⟩
      · cases h4
    · cases h
  case new z =>
    simp only [opR,Option.some.injEq,Prod.mk.injEq] at h
    obtain ⟨rfl,rfl⟩:=h
    exact ⟨Zb o _,by simp only [Q0,Ql];rw [ZG,el]⟩
  case newT t z =>
    simp only [opR,Option.some.injEq,Prod.mk.injEq] at h
    obtain ⟨rfl,rfl⟩:=h
    exact ⟨Zb o _,by simp only [Q0,Ql];rw [ZG,el]⟩
  case box x =>
    simp only [opR,yI,Option.bind_eq_some_iff,Option.map_eq_some_iff] at h
    obtain ⟨a,h1,b,h2,e⟩:=h;cases e
    exact ⟨Zb o _,by simp only [Q0,Ql,h1,h2,Option.bind_some,Option.map_some];rw [ZG,el]⟩
  case bsl esz zero len parts =>
    simp only [opR] at h
    split at h
    · rename_i h0
      simp only [Option.bind_eq_some_iff,Option.map_eq_some_iff] at h
      obtain ⟨a,h1,b,h2,e⟩:=h;cases e
      exact ⟨Zb o _,by simp only [Q0,Ql];rw [if_pos h0];simp only [h1,h2,Option.bind_some,Option.map_some];rw [ZG,el]⟩
    · cases h
  case mk esz bytes zero l c =>
    simp only [opR,Yk] at h
    split at h
    · rename_i h1 h2
      split at h
      · rename_i h3;cases h
        exact ⟨Zb o _,by simp only [Q0,Ql,h1,h2];rw [if_pos h3,ZG,el]⟩
      · cases h
    · cases h
  case sl esz x lo hi =>
    simp only [opR,Yk,Option.bind_eq_some_iff,Option.map_eq_some_iff] at h
    obtain ⟨a,h1,b,h2,c,h3,d,h4,f,h5,e⟩:=h;cases e
    rw [Qc5 o] at h5
    exact ⟨o,by simp only [Q0,Ql,h1,h2,h3,h4,h5,Option.bind_some,Option.map_some]⟩
  case app esz bytes z x y =>
    simp only [opR,Yk,Option.bind_eq_some_iff,Option.map_eq_some_iff] at h
    obtain ⟨a,h1,b,h2,c,h3,⟨s',r2⟩,h5,e⟩:=h;cases e
    rw [Qg8 o] at h3
    obtain ⟨k1,k2⟩:=Qhv o h5
    exact ⟨k1,by simp only [Q0,Ql,h1,h2,h3,Option.bind_some];rw [k2];rfl⟩
  case ustr t x n =>
    simp only [opR,Yk] at h
    split at h
    · rename_i id m h1 h2
      split at h
      · rename_i cs z hg
        split at h
        · rename_i h3
          simp only [Option.bind_eq_some_iff,Option.map_eq_some_iff] at h
          obtain ⟨a,h4,b,h5,e⟩:=h;cases e
          refine ⟨zk o _ _,?_⟩
          have hg2:=hg
          rw [Zp o] at hg2
          simp only [Q0,Ql,h1,h2,hg2]
          rw [if_pos h3,h4,Option.bind_some,h5,Vl o (zl hg)];rfl
        · cases h
      · cases h
    · rename_i m h1 h2
      split at h
      · rename_i h3;cases h
        exact ⟨o,by simp only [Q0,Ql,h1,h2];rw [if_pos h3]⟩
      · cases h
    · cases h
  case call f args =>
    simp only [opR,VQ,Option.bind_eq_some_iff,Option.map_eq_some_iff] at h
    obtain ⟨a,h1,⟨q1,q2⟩,h2,e⟩:=h;cases e
    obtain ⟨k1,k2⟩:=sim _ _ _ _ _ o h2
    exact ⟨k1,by simp only [Q0,h1,Option.bind_some,k2,Option.map_some]⟩
  case callv x args =>
    simp only [opR,Yk,VQ] at h
    split at h
    · rename_i h0
      simp only [Option.bind_eq_some_iff,Option.map_eq_some_iff] at h
      obtain ⟨a,h1,⟨q1,q2⟩,h2,e⟩:=h;cases e
      obtain ⟨k1,k2⟩:=sim _ _ _ _ _ o h2
      exact ⟨k1,by simp only [Q0,h0,h1,Option.bind_some,k2,Option.map_some]⟩
    · cases h
  all_goals exact gen h
def J9 (cr:CR) (o:AOp) (E:Env) (r:RH):Option (Env × RH) :=
  match X8 E o.guard with
  | some true=>(opR cr E r o.k).map fun q=>(Qr o.dst q.1 E,q.2)
  | some false=>some (Qr o.dst (some (.tup [])) E,r)
  | none=>none
theorem yy {cr:CR} {cf:CF} (sim:UA cr cf) {o:AOp} {E E':Env} {r r':RH} (ok:r.Ok) (h:J9 cr o E r=some (E',r')):r'.Ok∧Yn cf o E r.h=some (E',r'.h):=by
  unfold J9 at h
  unfold Yn
  split at h
  · rename_i hw
    rw [hw]
    rw [Option.map_eq_some_iff] at h
    obtain ⟨⟨v,q⟩,h1,e⟩:=h;cases e
    obtain ⟨k1,k2⟩:=Qkr sim ok h1
    exact ⟨k1,by simp only [k2,Option.map_some]⟩
  · rename_i hw
    rw [hw];cases h
    exact ⟨ok,rfl⟩
  · cases h
def zj (cr:CR):List AOp→Env→RH→Option (Env × RH)
  | [],E,r=>some (E,r)
  | o::rs,E,r=>match J9 cr o E r with
    | some (E',r')=>zj cr rs E' r'
    | none=>none
theorem zO {cr:CR} {cf:CF} (sim:UA cr cf):∀ {ops:List AOp} {E E':Env} {r r':RH},r.Ok→zj cr ops E r=some (E',r')→r'.Ok∧Zh cf ops E r.h=some (E',r'.h)
  | [],E,E',r,r',ok,h=>by cases h;exact ⟨ok,rfl⟩
  | o::rs,E,E',r,r',ok,h=>by
    unfold zj at h
    split at h
    · rename_i E1 r1 h1
      obtain ⟨k1,k2⟩:=yy sim ok h1
      unfold Zh
      rw [k2]
      exact zO sim k1 h
    · cases h
def Qb2 (r' r:RH):Bool:=decide (r.1≤r'.1) && decide (r'.2.drop (r'.1-r.1)=r.2)
theorem Qac {r r':RH} (o:r.Ok) (o':r'.Ok) (h:Qb2 r' r=true):(r'.h.take r.h.length == r.h)=true:=by
  unfold Qb2 at h
  rw [Bool.and_eq_true,decide_eq_true_iff,decide_eq_true_iff] at h
  have e:r'.h.take r.h.length=r.h:=by
    unfold RH.Ok at o o'
    unfold RH.h
    rw [List.length_reverse,List.take_reverse,← o,← o',h.2]
  rw [e];exact beq_self_eq_true _
def qI (ph:FuncId→Bool) (cr:CR):List (AOp × Bool)→Env→RH→Option (Env × RH)
  | [],E,r=>some (E,r)
  | (o,ord)::rs,E,r=>match J9 cr o E r with
    | some (E',r')=>if ord || Qck ph o.k || Qb2 r' r then qI ph cr rs E' r' else none
    | none=>none
theorem yS {ph:FuncId→Bool} {cr:CR} {cf:CF} (sim:UA cr cf) (hph:∀ f args h r,ph f=true→cf f args h=some r→r.2=h):∀ {ops:List (AOp × Bool)} {E E':Env} {r r':RH},r.Ok→qI ph cr ops E r=some (E',r')→r'.Ok∧Y9 cf ops E r.h=some (E',r'.h)
  | [],E,E',r,r',ok,h=>by cases h;exact ⟨ok,rfl⟩
  | (o,ord)::rs,E,E',r,r',ok,h=>by
    unfold qI at h
    split at h
    · rename_i E1 r1 h1
      obtain ⟨k1,k2⟩:=yy sim ok h1
      split at h
      · rename_i hc
        unfold Y9
        rw [k2]
        have hc2:(ord || r1.h.take r.h.length == r.h)=true:=by
          rw [Bool.or_eq_true,Bool.or_eq_true] at hc
          rw [Bool.or_eq_true]
          rcases hc with (hc | hc) | hc
          · exact .inl hc
          · refine .inr ?_
            unfold Yn at k2
            split at k2
            · rw [Option.map_eq_some_iff] at k2
              obtain ⟨q,hq2,e⟩:=k2
              have:=QeB hph hc hq2
              have e2:q.2=r1.h:=congrArg Prod.snd e
              rw [← e2]
              exact this
            · simp only [Option.some.injEq,Prod.mk.injEq] at k2
              rw [← k2.2];exact X0 _
            · cases k2
          · exact .inr (Qac ok k1 hc)
        simp only
        rw [if_pos hc2]
        exact yS sim hph k1 h
      · cases h
    · cases h
def VB (cr:CR):List (AOp × Nat × Bool)→Env→RH→List Nat
  | [],_,_=>[]
  | (o,_,ord)::rs,E,r=>match J9 cr o E r with
    | some (E',r')=>ldL (ldX E ord o.k)++VB cr rs E' r'
    | none=>[]
def V0 (cr:CR) (fr:List Nat):List (AOp × Nat × Bool)→Env→RH→List Nat
  | [],_,_=>[]
  | (o,i,_)::rs,E,r=>match J9 cr o E r with
    | some (E',r')=>(if fr.contains (1000+i) then List.range' r.1 (r'.1-r.1) else [])++V0 cr fr rs E' r'
    | none=>[]
def qH (cr:CR) (S A fr:List Nat):List (AOp × Nat × Bool)→Env→RH→Option (Env × RH)
  | [],E,r=>some (E,r)
  | (o,i,ord)::rs,E,r=>match J9 cr o E r with
    | some (E',r')=>if (ord || Qb2 r' r) && ((fr.contains i || (S.all (fun id=>qK r' id == qK r id) && A.all (fun id=>decide (r.1≤id) || qK r' id == qK r id))) && QhL S (ldX E ord o.k)) then qH cr S A fr rs E' r' else none
    | none=>none
theorem yR {cr:CR} {cf:CF} (sim:UA cr cf) {S A fr:List Nat}:∀ {ops:List (AOp × Nat × Bool)} {E E':Env} {r r':RH},r.Ok→qH cr S A fr ops E r=some (E',r') →
    r'.Ok∧Yv cf S A fr ops E r.h=some (E',r'.h)∧VB cr ops E r=qY cf ops E r.h∧V0 cr fr ops E r=JO cf fr ops E r.h
  | [],E,E',r,r',ok,h=>by cases h;exact ⟨ok,rfl,rfl,rfl⟩
  | (o,i,ord)::rs,E,E',r,r',ok,h=>by
    unfold qH at h
    split at h
    · rename_i E1 r1 h1
      obtain ⟨k1,k2⟩:=yy sim ok h1
      split at h
      · rename_i hc
        obtain ⟨j1,j2,j3,j4⟩:=yR sim k1 h
        refine ⟨j1,?_,?_,?_⟩
        · unfold Yv
          rw [k2]
          simp only
          rw [if_pos ?_]
          · exact j2
          · simp only [Zp ok,Zp k1] at hc
            rw [← ok.len] at hc
            rw [Bool.and_eq_true,Bool.or_eq_true] at hc
            rw [Bool.and_eq_true,Bool.or_eq_true]
            exact ⟨hc.1.imp id fun h=>Qac ok k1 h,hc.2⟩
        · unfold VB qY
          rw [h1,k2]
          simp only
          rw [j3]
        · unfold V0 JO
          rw [h1,k2]
          simp only
          rw [j4,ok.len,k1.len]
      · cases h
    · cases h
abbrev QdP:=Option (Ex × Env × RH)
def QcD (keep:List Nat) (step:Env→RH→QdP):Nat→Env→RH→QdP
  | 0,_,_=>none
  | n+1,E,r=>match step (UY E keep) r with
    | some (.nm,E',r')=>QcD keep step n E' r'
    | q=>q
def YR (ph:FuncId→Bool) (cr:CR) (n:Nat):AC→Env→RH→QdP
  | .skip,E,h=>some (.nm,E,h)
  | .ret,E,h=>some (.rt,E,h)
  | .exit id,E,h=>some (.ex id,E,h)
  | .reg ops keep,E,h=>(zj cr ops E h).map fun r=>(.nm,UY r.1 keep,r.2)
  | .regd ops keep,E,h=>(qI ph cr (ops.map fun p=>(p.1,p.2.2)) E h).map fun r=>(.nm,UY r.1 keep,r.2)
  | .regs ops fr keep,E,h=>(qH cr (VB cr ops E h) (V0 cr fr ops E h) fr ops E h).map fun r=>(.nm,UY r.1 keep,r.2)
  | .seq a b,E,h=>match YR ph cr n a E h with
    | some (.nm,E',h')=>YR ph cr n b E' h'
    | r=>r
  | .cond c a b,E,h=>match ZC E c with
    | some (.bool t)=>if t=true then YR ph cr n a E h else YR ph cr n b E h
    | _=>none
  | .block id a,E,h=>match YR ph cr n a E h with
    | some (.ex i,E',h')=>if i=id then some (.nm,E',h') else some (.ex i,E',h')
    | r=>r
  | .loop keep a,E,h=>QcD keep (YR ph cr n a) n E h
  | .scope a,E,h=>YR ph cr n a E h
def SimX (fR:Env→RH→QdP) (f:Env→Qa→Out):Prop:=∀ E r ex E' r',r.Ok→fR E r=some (ex,E',r')→r'.Ok∧f E r.h=some (ex,E',r'.h)
theorem QaN {keep:List Nat} {sR:Env→RH→QdP} {s:Env→Qa→Out} (sim:SimX sR s):∀ n,SimX (QcD keep sR n) (JF keep s n)
  | 0=>fun E r ex E' r' ok h=>by cases h
  | n+1=>fun E r ex E' r' ok h=>by
    unfold QcD at h
    unfold JF
    rw [ya] at h
    cases hs:sR (E.keep keep) r with
    | none=>rw [hs] at h;cases h
    | some q =>
      obtain ⟨x,E1,r1⟩:=q
      obtain ⟨k1,k2⟩:=sim _ _ _ _ _ ok hs
      rw [hs] at h
      rw [k2]
      cases x with
      | nm=>exact QaN sim n _ _ _ _ _ k1 h
      | ex i=>cases h;exact ⟨k1,rfl⟩
      | rt=>cases h;exact ⟨k1,rfl⟩
theorem Ze {ph:FuncId→Bool} {cr:CR} {cf:CF} (sim:UA cr cf) (hph:∀ f args h r,ph f=true→cf f args h=some r→r.2=h) (n:Nat):∀ c:AC,SimX (YR ph cr n c) (Xx cf n c)
  | .skip=>fun E r ex E' r' ok h=>by cases h;exact ⟨ok,rfl⟩
  | .ret=>fun E r ex E' r' ok h=>by cases h;exact ⟨ok,rfl⟩
  | .exit id=>fun E r ex E' r' ok h=>by cases h;exact ⟨ok,rfl⟩
  | .reg ops keep=>fun E r ex E' r' ok h=>by
    unfold YR at h
    rw [Option.map_eq_some_iff] at h
    obtain ⟨⟨E1,r1⟩,h1,e⟩:=h
    cases e
    obtain ⟨k1,k2⟩:=zO sim ok h1
    exact ⟨k1,by unfold Xx;rw [k2,ya];rfl⟩
  | .regd ops keep=>fun E r ex E' r' ok h=>by
    unfold YR at h
    rw [Option.map_eq_some_iff] at h
    obtain ⟨⟨E1,r1⟩,h1,e⟩:=h
    cases e
    obtain ⟨k1,k2⟩:=yS sim hph ok h1
    exact ⟨k1,by unfold Xx;rw [k2,ya];rfl⟩
  | .regs ops fr keep=>fun E r ex E' r' ok h=>by
    unfold YR at h
    rw [Option.map_eq_some_iff] at h
    obtain ⟨⟨E1,r1⟩,h1,e⟩:=h
    cases e
    obtain ⟨k1,k2,k3,k4⟩:=yR sim ok h1
    rw [k3,k4] at k2
    exact ⟨k1,by unfold Xx;rw [k2,ya];rfl⟩
  | .seq a b=>fun E r ex E' r' ok h=>by
    unfold YR at h
    unfold Xx
    cases hs:YR ph cr n a E r with
    | none=>rw [hs] at h;cases h
    | some q =>
      obtain ⟨x,E1,r1⟩:=q
      obtain ⟨k1,k2⟩:=Ze sim hph n a _ _ _ _ _ ok hs
      rw [hs] at h
      rw [k2]
      cases x with
      | nm=>exact Ze sim hph n b _ _ _ _ _ k1 h
      | ex i=>cases h;exact ⟨k1,rfl⟩
      | rt=>cases h;exact ⟨k1,rfl⟩
  | .cond c a b=>fun E r ex E' r' ok h=>by
    unfold YR at h
    unfold Xx
    rw [Yk] at h
    split at h
    · rename_i t ht
      rw [ht]
      simp only
      split at h
      · rename_i hb;rw [if_pos hb];exact Ze sim hph n a _ _ _ _ _ ok h
      · rename_i hb;rw [if_neg hb];exact Ze sim hph n b _ _ _ _ _ ok h
    · cases h
  | .block id a=>fun E r ex E' r' ok h=>by
    unfold YR at h
    unfold Xx
    cases hs:YR ph cr n a E r with
    | none=>rw [hs] at h;cases h
    | some q =>
      obtain ⟨x,E1,r1⟩:=q
      obtain ⟨k1,k2⟩:=Ze sim hph n a _ _ _ _ _ ok hs
      rw [hs] at h
      rw [k2]
      cases x with
      | nm=>cases h;exact ⟨k1,rfl⟩
      | ex i =>
        simp only at h ⊢
        split at h
        · rename_i hi;cases h;rw [if_pos hi];exact ⟨k1,rfl⟩
        · rename_i hi;cases h;rw [if_neg hi];exact ⟨k1,rfl⟩
      | rt=>cases h;exact ⟨k1,rfl⟩
  | .loop keep a=>fun E r ex E' r' ok h=>by
    unfold YR at h
    unfold Xx
    exact QaN (Ze sim hph n a) n _ _ _ _ _ ok h
  | .scope a=>fun E r ex E' r' ok h=>by
    unfold YR at h
    unfold Xx
    exact Ze sim hph n a _ _ _ _ _ ok h
def Qez (E:Env) (r:RH):ARes→Option PV
  | .t n=>(QbE E n).bind AV.pv
  | .cell a n agg=>match QbE E a with
    | some (.sc (.ptr id off))=>(zQ r id off n).bind fun vs=>(Yw agg vs).bind AV.pv
    | _=>none
def Qch (E:Env) (r:RH):List ARes→Option (List PV)
  | []=>some []
  | x::rs=>(Qez E r x).bind fun v=>(Qch E r rs).map (v::·)
theorem Qci {E:Env} {r:RH} (o:r.Ok) (x:ARes):Qez E r x=ZO E r.h x:=by
  cases x with
  | t n=>simp only [Qez,ZO,ye]
  | cell a n agg =>
    simp only [Qez,ZO,ye]
    split <;> simp only [*]
    rw [yz o]
theorem Qam {E:Env} {r:RH} (o:r.Ok):∀ xs,Qch E r xs=Zi E r.h xs
  | []=>rfl
  | x::xs=>by unfold Qch Zi;rw [Qci o,Qam o xs]
def Jw (rs:List ARes) (E:Env) (h:RH):Option AV :=
  match rs with
  | [r]=>(Qez E h r).map PV.av
  | rs=>(Qch E h rs).map AV.tup
theorem yT {E:Env} {r:RH} (o:r.Ok) (rs:List ARes):Jw rs E r=XF rs E r.h:=by
  cases rs with
  | nil=>rfl
  | cons x xs =>
    cases xs with
    | nil=>unfold Jw XF;simp only;rw [Qci o]
    | cons y ys=>unfold Jw XF;simp only;rw [Qam o]
def VO (F:AFun):QdP→Option (AV × RH)
  | some (.nm,E,h')=>(Jw F.res E h').map fun v=>(v,h')
  | some (.rt,E,h')=>(Jw F.res E h').map fun v=>(v,h')
  | _=>none
abbrev Vd:=List AV→RH→Option (AV × RH)
def Qa5 (ph:FuncId→Bool) (FT:FuncId→Option AFun) (HR:FuncId→Option Vd):Nat→CR
  | 0=>fun _ _ _=>none
  | n+1=>fun f args h =>
    match HR f with
    | some g=>g args h
    | none =>
      match FT f with
      | none=>none
      | some F=>if args.length=F.np then VO F (YR ph (Qa5 ph FT HR n) n F.body (params 0 args) h) else none
def Qjx (HR:FuncId→Option Vd) (HK:FuncId→Option Xe):Prop:=∀ f,match HR f with
  | some g=>∃ g',HK f=some g'∧∀ args r v r',r.Ok→g args r=some (v,r')→r'.Ok∧g' args r.h=some (v,r'.h)
  | none=>HK f=none
theorem Qa4 {ph:FuncId→Bool} {FT:FuncId→Option AFun} {HR:FuncId→Option Vd} {HK:FuncId→Option Xe} (hs:Qjx HR HK) (hp:Qgw ph HK):∀ n,UA (Qa5 ph FT HR n) (XW FT HK n)
  | 0=>fun f args r v r' ok h=>by cases h
  | n+1=>fun f args r v r' ok h=>by
    have hf:=hs f
    unfold Qa5 at h
    unfold XW
    cases hg:HR f with
    | some g =>
      rw [hg] at h hf
      obtain ⟨g',e1,e2⟩:=hf
      rw [e1]
      exact e2 _ _ _ _ ok h
    | none =>
      rw [hg] at h hf
      rw [show HK f=none from hf]
      simp only at h ⊢
      split at h
      · cases h
      · rename_i F hF
        rw [hF]
        simp only
        split at h
        · rename_i hl
          rw [if_pos hl]
          have hph:∀ f args h r,ph f=true→XW FT HK n f args h=some r→r.2=h:=fun f args h r hf hr=>by
            obtain ⟨g2,hg2,hs2⟩:=hp f hf
            cases n with
            | zero=>simp [XW] at hr
            | succ n =>
              simp only [XW,hg2] at hr
              exact hs2 _ _ _ hr
          cases hx:YR ph (Qa5 ph FT HR n) n F.body (params 0 args) r with
          | none=>rw [hx] at h;cases h
          | some q =>
            obtain ⟨x,E1,r1⟩:=q
            obtain ⟨k1,k2⟩:=Ze (Qa4 hs hp n) hph n F.body _ _ _ _ _ ok hx
            rw [hx] at h
            rw [k2]
            cases x with
            | ex i=>cases h
            | nm =>
              simp only [VO] at h
              rw [Option.map_eq_some_iff] at h
              obtain ⟨u,h1,e⟩:=h;cases e
              rw [yT k1] at h1
              exact ⟨k1,by simp only [qh,h1,Option.map_some]⟩
            | rt =>
              simp only [VO] at h
              rw [Option.map_eq_some_iff] at h
              obtain ⟨u,h1,e⟩:=h;cases e
              rw [yT k1] at h1
              exact ⟨k1,by simp only [qh,h1,Option.map_some]⟩
        · cases h
def Qcz (g:Xe):Vd:=fun args r=>(g args []).map fun q=>(q.1,r)
def ccR (T:Nat):Vd:=fun args h=>match args with
  | [.sc (.ptr id 0)]=>match qK h id with
    | some (.cells [.nilP,x] true z)=>if z=⟨0,some T⟩ then some (.tup [],Qaj h id (.cells [.ptr id 0,x] true z)) else none
    | some (.cells [.ptr j 0,x] true z)=>if z=⟨0,some T⟩∧j=id then some (.tup [],h) else none
    | _=>none
  | _=>none
theorem Qk1 {T:Nat} {args:List AV} {r r':RH} {v:AV} (o:r.Ok) (h:ccR T args r=some (v,r')):r'.Ok∧Zy T args r.h=some (v,r'.h):=by
  unfold ccR at h
  unfold Zy
  split at h
  · split at h
    · rename_i hg
      split at h
      · rename_i hz;cases h
        have hg2:=hg
        rw [Zp o] at hg2
        refine ⟨zk o _ _,?_⟩
        simp only [hg2]
        rw [if_pos hz,Vl o (zl hg)]
      · cases h
    · rename_i hg
      split at h
      · rename_i hz;cases h
        have hg2:=hg
        rw [Zp o] at hg2
        refine ⟨o,?_⟩
        simp only [hg2]
        rw [if_pos hz]
      · cases h
    · cases h
  · cases h
end Go.Ab

