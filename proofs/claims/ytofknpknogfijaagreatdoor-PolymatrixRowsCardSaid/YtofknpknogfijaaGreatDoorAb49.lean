import Derived.Test.YtofknpknogfijaaGreatDoorAb47
/- The same reckoning,quicker: an operation that plainly leaves the memory as it is (or lays a block behind it) needs no comparison. -/
namespace Go.Ab
set_option linter.all false
def Qdc (ph:FuncId→Bool):AK→Bool
 | .mv _ | .pick _ _ _ | .bin _ _ _ | .un _ _ | .conv _ _ | .len _ _ | .idxA _ _ _ | .fldA _ _ | .ld _ _ _ | .new _ | .ext _ _=>true
 | .call f _=>ph f
 | _=>false
theorem X4 (h:Qa):((h.take h.length == h):Bool)=true:=by rw [Gx];exact beq_self_eq_true h
theorem QfX {ph:FuncId→Bool} {cf:CF} (hph:∀ f args h r,ph f=true→cf f args h=some r→r.2=h) {E:Env} {h:Qa} {k:AK} {r:Option AV × Qa} (hq:Qdc ph k=true) (hr:Q3 cf E h k=some r):(r.2.take h.length == h)=true:=by
 have same:r.2=h→(r.2.take h.length == h)=true:=fun e=>by rw [e];exact X4 h
 cases k <;> simp only [Qdc] at hq <;> try exact absurd hq (by decide)
 case mv x=>simp only [Q3,Qm,Gc] at hr;obtain ⟨v,-,rfl⟩:=hr;exact X4 h
 case pick c a b =>
  simp only [Q3,Qm] at hr
  split at hr
  ·split at hr <;> (rw [Gc] at hr;obtain ⟨v,-,rfl⟩:=hr;exact X4 h)
  ·cases hr
 case bin op x y =>
  simp only [Q3,Qm,Gd,Gc] at hr
  obtain ⟨a,-,b,-,v,-,rfl⟩:=hr;exact X4 h
 case un op x =>
  simp only [Q3,Qm,Gd,Gc] at hr
  obtain ⟨a,-,v,-,rfl⟩:=hr;exact X4 h
 case conv kd x =>
  simp only [Q3,Qm] at hr
  split at hr
  ·cases hr;exact X4 h
  ·cases hr
 case len s x =>
  simp only [Q3,Qm,Gd,Gc] at hr
  obtain ⟨a,-,v,-,rfl⟩:=hr;exact X4 h
 case idxA z x i =>
  simp only [Q3,Qm] at hr
  split at hr
  ·split at hr
   ·cases hr;exact X4 h
   ·cases hr
  ·cases hr
 case fldA o x =>
  simp only [Q3,Qm] at hr
  split at hr
  ·cases hr;exact X4 h
  ·cases hr
 case ld n g x =>
  simp only [Q3,Qm] at hr
  split at hr
  ·simp only [Gd,Gc] at hr
   obtain ⟨a,-,v,-,rfl⟩:=hr;exact X4 h
  ·cases hr
 case new z =>
  simp only [Q3,Qm,Option.some.injEq] at hr
  subst hr
  show ((h++_).take h.length == h)=true
  rw [List.take_left];exact beq_self_eq_true h
 case ext x i =>
  simp only [Q3,Qm] at hr
  split at hr
  ·rw [Gc] at hr;obtain ⟨v,-,rfl⟩:=hr;exact X4 h
  ·cases hr
 case call f args =>
  simp only [Q3,Gd,Gc] at hr
  obtain ⟨vs,-,q,hq2,rfl⟩:=hr
  exact same (hph f vs h q hq hq2)
def fMv (E:Env) (h:Qa) (x:AO):Option (Option AV × Qa):=(ev E x).map fun v=>(some v,h)
def fPick (E:Env) (h:Qa) (c a b:AO):Option (Option AV × Qa):=match evS E c with
 | some (.bool t)=>if t=true then (ev E a).map fun v=>(some v,h) else (ev E b).map fun v=>(some v,h)
 | _=>none
def fBin (E:Env) (h:Qa) (op:BinOp) (x y:AO):Option (Option AV × Qa):=(evS E x).bind fun a=>(evS E y).bind fun b=>(Z3 op a b).map fun v=>(some (.sc v),h)
def fUn (E:Env) (h:Qa) (op:UnOp) (x:AO):Option (Option AV × Qa):=(evS E x).bind fun a=>(unS op a).map fun v=>(some (.sc v),h)
def fConv (E:Env) (h:Qa) (k:IntKind) (x:AO):Option (Option AV × Qa):=match evS E x with
 | some (.int _ n)=>some (some (.sc (X5 k n)),h)
 | _=>none
def fLen (E:Env) (h:Qa) (str:Bool) (x:AO):Option (Option AV × Qa):=(evS E x).bind fun a=>(Yi str a).map fun n=>(some (.sc (.int .i64 n)),h)
def fIdx (E:Env) (h:Qa) (esz:Nat) (x i:AO):Option (Option AV × Qa):=match evS E x,evS E i with
 | some (.slc id off n _),some (.int _ j)=>if 0≤j∧j < n then some (some (.sc (.ptr id (off+j.toNat*esz))),h) else none
 | _,_=>none
def fFldA (E:Env) (h:Qa) (off:Nat) (x:AO):Option (Option AV × Qa):=match evS E x with
 | some (.ptr id o)=>some (some (.sc (.ptr id (o+off))),h)
 | _=>none
def fLd (E:Env) (h:Qa) (n:Nat) (agg:Bool) (x:AO):Option (Option AV × Qa):=match evS E x with
 | some (.ptr id off)=>(QZ h id off n).bind fun vs=>(YB agg vs).map fun v=>(some v,h)
 | _=>none
def fSt (E:Env) (h:Qa) (n:Nat) (a x:AO):Option (Option AV × Qa):=match evS E a with
 | some (.ptr id off)=>(ev E x).bind fun v=>v.cells.bind fun vs=>if vs.length=n then (Xx h id off vs).map fun h'=>(none,h') else none
 | _=>none
def fBox (E:Env) (h:Qa) (x:AO):Option (Option AV × Qa):=(ev E x).bind fun v=>v.cells.map fun vs=>(some (.sc (.ptr h.length 0)),h++[.cells vs true 0])
def fNew (h:Qa) (zero:List SV):Option (Option AV × Qa):=some (some (.sc (.ptr h.length 0)),h++[.cells zero true 0])
def fMk (E:Env) (h:Qa) (esz:ESz) (bytes:Nat) (zero:List SV) (l c:AO):Option (Option AV × Qa):=match evS E l,evS E c with
 | some (.int _ n),some (.int _ m)=>if 0≤n∧n≤m∧m*(bytes+1:Nat)≤Yu then
  some (some (.sc (.slc h.length 0 n.toNat (some m.toNat))),h++[.cells (rep zero m.toNat) true esz]) else none
 | _,_=>none
def fExt (E:Env) (h:Qa) (x:AO) (i:Nat):Option (Option AV × Qa):=match ev E x with
 | some (.tup xs)=>(xs[i]?).map fun p=>(some p.av,h)
 | _=>none
def fCall (cf:CF) (E:Env) (h:Qa) (f:FuncId) (args:List AO):Option (Option AV × Qa):=(evs E args).bind fun vs=>(cf f vs h).map fun r=>(some r.1,r.2)
def Qf3 (cf:CF) (E:Env) (h:Qa) (k:AK):Option (Option AV × Qa):=match k with
 | .mv x=>fMv E h x
 | .pick c a b=>fPick E h c a b
 | .bin op x y=>fBin E h op x y
 | .un op x=>fUn E h op x
 | .conv k x=>fConv E h k x
 | .len s x=>fLen E h s x
 | .idxA z x i=>fIdx E h z x i
 | .fldA o x=>fFldA E h o x
 | .ld n g x=>fLd E h n g x
 | .st n a x=>fSt E h n a x
 | .box x=>fBox E h x
 | .new z=>fNew h z
 | .mk z b zero l c=>fMk E h z b zero l c
 | .ext x i=>fExt E h x i
 | .call f args=>fCall cf E h f args
 | k=>Q3 cf E h k
theorem opRunF_eq (cf:CF) (E:Env) (h:Qa) (k:AK):Qf3 cf E h k=Q3 cf E h k:=by cases k <;> rfl
def bindR (d:Option Nat) (E:Env) (r:Option AV × Qa):Env × Qa:=(Qr d r.1 E,r.2)
def QfD (cf:CF) (o:AOp) (E:Env) (h:Qa):Option (Env × Qa) :=
 match Yc E o.guard with
 | some true=>(Qf3 cf E h o.k).map (bindR o.dst E)
 | some false=>some (Qr o.dst (some (.tup [])) E,h)
 | none=>none
def Qc2 (cf:CF):List AOp→Env→Qa→Option (Env × Qa)
 | [],E,h=>some (E,h)
 | o :: r, E, h => match QfD cf o E h with
   | some (E',h')=>Qc2 cf r E' h'
   | none=>none
def Qc3 (ph:FuncId→Bool) (cf:CF):List (AOp × Bool)→Env→Qa→Option (Env × Qa)
 | [],E,h=>some (E,h)
 | (o, ord) :: r, E, h => match QfD cf o E h with
   | some (E',h')=>if ord || Qdc ph o.k || h'.take h.length == h then Qc3 ph cf r E' h' else none
   | none=>none
def zB (ph:FuncId→Bool) (cf:CF) (n:Nat):AC→Env→Qa→Out
 | .skip,E,h=>some (.nm,E,h)
 | .ret,E,h=>some (.rt,E,h)
 | .exit id,E,h=>some (.ex id,E,h)
 | .reg ops keep,E,h=>(Qc2 cf ops E h).map fun r=>(.nm,r.1.keep keep,r.2)
 | .regd ops keep,E,h=>(Qc3 ph cf (ops.map fun p=>(p.1,p.2.2)) E h).map fun r=>(.nm,r.1.keep keep,r.2)
 | .regs ops fr keep,E,h=>(YA cf (yl cf ops E h) (J2 cf fr ops E h) fr ops E h).map fun r=>(.nm,r.1.keep keep,r.2)
 | .seq a b, E, h => match zB ph cf n a E h with
   | some (.nm,E',h')=>zB ph cf n b E' h'
   | r=>r
 | .cond c a b, E, h => match evS E c with
   | some (.bool t)=>if t=true then zB ph cf n a E h else zB ph cf n b E h
   | _=>none
 | .block id a, E, h => match zB ph cf n a E h with
   | some (.ex i,E',h')=>if i=id then some (.nm,E',h') else some (.ex i,E',h')
   | r=>r
 | .loop keep a,E,h=>JU keep (zB ph cf n a) n E h
 | .scope a,E,h=>zB ph cf n a E h
def callF (ph:FuncId→Bool) (FT:FuncId→Option AFun) (HK:FuncId→Option Xj):Nat→CF
 | 0=>fun _ _ _=>none
 | n+1=>fun f args h =>
  match HK f with
  | some g=>g args h
  | none =>
   match FT f with
   | none=>none
   | some F=>if args.length=F.np then qE F (zB ph (callF ph FT HK n) n F.body (params 0 args) h) else none
def Qh3 (ph:FuncId→Bool) (HK:FuncId→Option Xj):Prop:=∀ f,ph f=true→∃ g,HK f=some g∧∀ args h r,g args h=some r→r.2=h
def Qcu:Env→Nat→Option AV
 | [],_=>none
 | (k,v)::r,t=>bif Nat.beq k t then v else Qcu r t
theorem yq:∀ (E:Env) (t:Nat),Qcu E t=E.get t
 | [],_=>rfl
 | (k,v)::r,t=>by
  unfold Qcu Env.get
  rw [yq r t]
  by_cases h:k=t
  ·rw [if_pos h,h,Nat.beq_refl];rfl
  ·rw [if_neg h,show Nat.beq k t=false by cases hb:Nat.beq k t;rfl;exact absurd (Nat.eq_of_beq_eq_true hb) h];rfl
def VB (E:Env) (ks:List Nat):Env:=ks.map fun t=>(t,Qcu E t)
theorem yn (E:Env) (ks:List Nat):VB E ks=E.keep ks:=by unfold VB Env.keep;simp only [yq]
def evQ (E:Env):AO→Option AV
 | .t n=>Qcu E n
 | .k v=>some v
theorem y7 (E:Env) (x:AO):evQ E x=ev E x:=by cases x;exact yq _ _;rfl
def ZF (E:Env) (x:AO):Option SV:=match evQ E x with
 | some (.sc v)=>some v
 | _=>none
theorem Yo (E:Env) (x:AO):ZF E x=evS E x:=by unfold ZF evS;rw [y7];rfl
def QgM (E:Env):List AO→Option (List AV)
 | []=>some []
 | x::r=>(evQ E x).bind fun v=>(QgM E r).map (v::·)
theorem Qax (E:Env):∀ xs,QgM E xs=evs E xs
 | []=>rfl
 | x::r=>by unfold QgM evs;rw [y7,Qax E r]
abbrev RH:=Nat × List Blk
def RH.h (r:RH):Qa:=r.2.reverse
def RH.Ok (r:RH):Prop:=r.1=r.2.length
theorem RH.Ok.len {r:RH} (o:r.Ok):r.h.length=r.1:=by unfold RH.h;rw [List.length_reverse];exact o.symm
def qZ (r:RH) (id:Nat):Option Blk:=if id < r.1 then r.2[r.1-1-id]? else none
theorem Zp {r:RH} (o:r.Ok) (id:Nat):qZ r id=r.h[id]?:=by
 unfold qZ RH.h
 unfold RH.Ok at o
 split
 ·rw [List.getElem?_reverse (by omega),o]
 ·rw [Gp (by simp;omega)]
def Qa4 (r:RH) (id:Nat) (b:Blk):RH:=(r.1,r.2.set (r.1-1-id) b)
theorem zR {r:RH} (o:r.Ok) (id:Nat) (b:Blk):(Qa4 r id b).Ok:=by unfold RH.Ok Qa4 at *;simpa using o
theorem V3 {r:RH} (o:r.Ok) {id:Nat} (h:id < r.1) (b:Blk):(Qa4 r id b).h=r.h.set id b:=by
 unfold RH.h Qa4
 unfold RH.Ok at o
 apply Gr
 intro i
 rcases Gw i r.2.length with hi | hi
 ·rw [List.getElem?_reverse (by simpa using hi),GH,GH,G1,List.getElem?_reverse hi,List.length_reverse]
  by_cases e:id=i
  ·subst e
   rw [if_pos (by omega),if_pos rfl,if_pos (by omega),if_pos hi]
  ·rw [if_neg (by omega),if_neg e]
 ·rw [Gp (by simpa using hi),Gp (by simpa using hi)]
def JD (r:RH) (b:Blk):RH:=frc (r.1+1) fun m=>(m,b::r.2)
theorem Za {r:RH} (o:r.Ok) (b:Blk):(JD r b).Ok:=by unfold JD;rw [Yn];unfold RH.Ok at *;simp [o]
theorem ZJ (r:RH) (b:Blk):(JD r b).h=r.h++[b]:=by unfold JD;rw [Yn];simp [RH.h]
theorem zS {r:RH} {id:Nat} {b:Blk} (h:qZ r id=some b):id < r.1:=by
 unfold qZ at h
 split at h
 ·assumption
 ·cases h
def Um (r:RH) (id off n:Nat):Option (List SV):=match qZ r id with
 | some (.cells cs _ _)=>cut cs off n
 | _=>none
theorem yT {r:RH} (o:r.Ok) (id off n:Nat):Um r id off n=QZ r.h id off n:=by unfold Um QZ;rw [Zp o];rfl
def zP (r:RH) (id off:Nat) (vs:List SV):Option RH:=match qZ r id with
 | some (.cells cs true esz)=>if off+vs.length≤cs.length then some (Qa4 r id (.cells (Xh cs off vs) true esz)) else none
 | _=>none
theorem Uk {r r':RH} (o:r.Ok) {id off:Nat} {vs:List SV} (h:zP r id off vs=some r'):r'.Ok∧Xx r.h id off vs=some r'.h:=by
 unfold zP at h
 split at h
 ·rename_i cs esz hg
  split at h
  ·rename_i hl
   cases h
   refine ⟨zR o _ _,?_⟩
   unfold Xx
   rw [← Zp o,hg]
   simp only
   rw [if_pos hl,V3 o (zS hg)]
  ·cases h
 ·cases h
def rsrc (r:RH) (esz:Nat):SV→Option (Nat × List SV)
 | .nilS=>some (0,[])
 | .slc id off n _=>if n=0 then some (0,[]) else (Um r id off (n*esz)).map (n,·)
 | .str s=>if esz=1 then some (s.size,s.data.toList.map fun b=>.int .u8 b.toNat) else none
 | _=>none
theorem QiM {r:RH} (o:r.Ok) (esz:Nat) (s:SV):rsrc r esz s=X7 r.h esz s:=by
 cases s <;> first | rfl | (simp only [rsrc,X7];rw [yT o])
def rapp (r:RH) (esz:ESz) (bytes:Nat) (s:SV) (m:Nat) (vs:List SV):Option (SV × RH) :=
 match s with
 | .nilS=>if m=0 then some (.nilS,r) else if m*(bytes+1)≤Yu then some (.slc r.1 0 m none,JD r (.cells vs true esz)) else none
 | .slc id off n cap =>
  if m=0 then some (.slc id off n cap,r) else
  if (n+m)*(bytes+1)≤Yu then
   match qZ r id with
   | some (.cells cs rw e) =>
    if e=esz then
     match cut cs off (n*esz.n) with
     | some old =>
      match cap with
      | some c =>
       if c < n+m then some (.slc r.1 0 (n+m) none,JD r (.cells (old++vs) true esz))
       else (zP r id (off+n*esz.n) vs).map fun h'=>(.slc id off (n+m) (some c),h')
      | none=>if rw=true∧(esz.ty=none∨off=0) then some (.slc r.1 0 (n+m) none,JD (Qa4 r id (.dead esz)) (.cells (old++vs) true esz)) else none
     | none=>none
    else none
   | _=>none
  else none
 | _=>none
theorem Qi5 {r r':RH} (o:r.Ok) {esz:ESz} {bytes m:Nat} {s s':SV} {vs:List SV} (h:rapp r esz bytes s m vs=some (s',r')):r'.Ok∧Z4 r.h esz bytes s m vs=some (s',r'.h):=by
 have el:=o.len
 unfold rapp at h
 split at h
 ·split at h
  ·rename_i h0;cases h;exact ⟨o,by unfold Z4;simp only;rw [if_pos h0]⟩
  ·rename_i h0
   split at h
   ·rename_i h1;cases h
    exact ⟨Za o _,by unfold Z4;simp only;rw [if_neg h0,if_pos h1,ZJ,el]⟩
   ·cases h
 ·rename_i id off n cap
  unfold Z4
  simp only
  split at h
  ·rename_i h0;cases h;rw [if_pos h0];exact ⟨o,rfl⟩
  ·rename_i h0
   rw [if_neg h0]
   split at h
   ·rename_i h1
    rw [if_pos h1]
    split at h
    ·rename_i cs rw' e hg
     rw [← Zp o,hg]
     simp only
     split at h
     ·rename_i h2
      rw [if_pos h2]
      split at h
      ·rename_i old h3
       rw [h3]
       simp only
       split at h
       ·rename_i c
        simp only
        split at h
        ·rename_i h4;cases h
         rw [if_pos h4,ZJ,el];exact ⟨Za o _,rfl⟩
        ·rename_i h4
         rw [if_neg h4]
         rw [Gc] at h
         obtain ⟨q,hq,e⟩:=h
         cases e
         obtain ⟨k1,k2⟩:=Uk o hq
         rw [k2];exact ⟨k1,rfl⟩
       ·simp only
        split at h
        ·rename_i h4;cases h
         rw [if_pos h4,ZJ,V3 o (zS hg),el]
         exact ⟨Za (zR o _ _) _,rfl⟩
        ·cases h
      ·cases h
     ·cases h
    ·cases h
   ·cases h
 ·cases h
def Qcb (r:RH) (esz:ESz) (lo hi:Nat):SV→Option SV
 | .nilS=>if lo=0∧hi=0 then some .nilS else none
 | .slc id off n cap => match qZ r id with
   | some b=>if b.esz=esz∧lo≤hi∧hi≤n then some (.slc id (off+lo*esz.n) (hi-lo) (cap.map (· - lo))) else none
   | _=>none
 | _=>none
theorem Qei {r:RH} (o:r.Ok) (esz:ESz) (lo hi:Nat) (s:SV):Qcb r esz lo hi s=JL r.h esz lo hi s:=by
 cases s <;> first | rfl | (simp only [Qcb,JL];rw [Zp o];rfl)
abbrev CR:=FuncId→List AV→RH→Option (AV × RH)
def U9 (cr:CR) (cf:CF):Prop:=∀ f args r v r',r.Ok→cr f args r=some (v,r')→r'.Ok∧cf f args r.h=some (v,r'.h)
def Qaa:AK→Bool
 | .mm _ _ _ | .bld _ _ | .ext _ _ | .mkf _ _ | .nilc _ | .isnil _ _ _ | .beq _ _ _ | .seq2 _ _ _ | .idxS _ _ | .car _ _ _ _ | .sl1 _ _ _ | .usd _=>true
 | _=>false
theorem QeG {cf:CF} {E:Env} {k:AK} (hp:Qaa k=true) {h:Qa} {v:Option AV} {h2:Qa} (hr:Qm E [] k=some (v,h2)):Q3 cf E h k=some (v,h):=by
 cases k <;> simp only [Qaa] at hp <;> try exact absurd hp (by decide)
 all_goals simp only [Qm,Q3] at hr ⊢
 case mm=>simp only [Gd,Gc] at hr ⊢;obtain ⟨a,h1,b,h2,c,h3,e⟩:=hr;cases e;exact ⟨a,h1,b,h2,c,h3,rfl⟩
 case bld=>simp only [Gd,Gc] at hr ⊢;obtain ⟨a,h1,b,h2,e⟩:=hr;cases e;exact ⟨a,h1,b,h2,rfl⟩
 case isnil=>simp only [Gd,Gc] at hr ⊢;obtain ⟨a,h1,b,h2,e⟩:=hr;cases e;exact ⟨a,h1,b,h2,rfl⟩
 case mkf=>simp only [Gd,Gc] at hr ⊢;obtain ⟨a,h1,b,h2,e⟩:=hr;cases e;exact ⟨a,h1,b,h2,rfl⟩
 case sl1=>simp only [Gd,Gc] at hr ⊢;obtain ⟨a,h1,b,h2,c,h3,d,h4,f,h5,e⟩:=hr;cases e;exact ⟨a,h1,b,h2,c,h3,d,h4,f,h5,rfl⟩
 case idxS x i =>
  split at hr
  ·rename_i s kd j e1 e2
   split at hr
   ·rename_i hj
    rw [Gc] at hr
    obtain ⟨b,h1,e⟩:=hr
    cases e
    rw [if_pos hj,h1];rfl
   ·cases hr
  ·cases hr
 all_goals repeat' split at hr
 all_goals first
  | (cases hr;done)
  | (simp only [Gd,Gc] at hr ⊢;obtain ⟨a,h1,b,h2,e⟩:=hr;cases e;exact ⟨a,h1,b,h2,rfl⟩)
  | (simp only [Gc] at hr ⊢;obtain ⟨a,h1,e⟩:=hr;cases e;exact ⟨a,h1,rfl⟩)
  | (cases hr;simp only [*,and_self,if_true,if_false];done)
  | (cases hr;rfl)
  | (cases hr;simp [*];done)
def opR (cr:CR) (E:Env) (r:RH) (k:AK):Option (Option AV × RH):=match k with
 | .mv x=>(evQ E x).map fun v=>(some v,r)
 | .pick c a b => match ZF E c with
   | some (.bool t)=>if t=true then (evQ E a).map fun v=>(some v,r) else (evQ E b).map fun v=>(some v,r)
   | _=>none
 | .bin op x y=>(ZF E x).bind fun a=>(ZF E y).bind fun b=>(Z3 op a b).map fun v=>(some (.sc v),r)
 | .un op x=>(ZF E x).bind fun a=>(unS op a).map fun v=>(some (.sc v),r)
 | .conv k x => match ZF E x with
   | some (.int _ n)=>some (some (.sc (X5 k n)),r)
   | _=>none
 | .len s x=>(ZF E x).bind fun a=>(Yi s a).map fun n=>(some (.sc (.int .i64 n)),r)
 | .idxA esz x i => match ZF E x, ZF E i with
   | some (.slc id off n _),some (.int _ j)=>if 0≤j∧j < n then some (some (.sc (.ptr id (off+j.toNat*esz))),r) else none
   | _,_=>none
 | .fldA off x => match ZF E x with
   | some (.ptr id o)=>some (some (.sc (.ptr id (o+off))),r)
   | _=>none
 | .ld n g x => match ZF E x with
   | some (.ptr id off)=>(Um r id off n).bind fun vs=>(YB g vs).map fun v=>(some v,r)
   | _=>none
 | .st n a x => match ZF E a with
   | some (.ptr id off)=>(evQ E x).bind fun v=>v.cells.bind fun vs=>if vs.length=n then (zP r id off vs).map fun h'=>(none,h') else none
   | _=>none
 | .new z=>some (some (.sc (.ptr r.1 0)),JD r (.cells z true 0))
 | .box x=>(evQ E x).bind fun v=>v.cells.map fun vs=>(some (.sc (.ptr r.1 0)),JD r (.cells vs true 0))
 | .newT t z=>some (some (.sc (.ptr r.1 0)),JD r (.cells z true ⟨0,some t⟩))
 | .bsl esz zero len parts=>if len*esz.n≤16777216 then
   (Yp E (parts.map fun p=>(p.1*esz.n,esz.n,p.2))).bind fun ps=>(ZB (rep zero len) ps).map fun cs=>(some (.sc (.slc r.1 0 len (some len))),JD r (.cells cs true esz))
  else none
 | .mk esz bytes zero l c => match ZF E l, ZF E c with
   | some (.int _ n),some (.int _ m)=>if 0≤n∧n≤m∧m*(bytes+1:Nat)≤Yu then
    some (some (.sc (.slc r.1 0 n.toNat (some m.toNat))),JD r (.cells (rep zero m.toNat) true esz)) else none
   | _,_=>none
 | .sl esz x lo hi=>(ZF E x).bind fun v=>(Yi false v).bind fun n=>(bnd E 0 lo).bind fun l=>(bnd E n.toNat hi).bind fun u=>(Qcb r esz l u v).map fun s=>(some (.sc s),r)
 | .app esz bytes _ x y=>(ZF E x).bind fun s=>(ZF E y).bind fun t=>(rsrc r esz.n t).bind fun p=>(rapp r esz bytes s p.1 p.2).map fun q=>(some (.sc q.1),q.2)
 | .ustr t x n => match ZF E x, ZF E n with
   | some (.ptr id 0), some (.int .i64 m) => match qZ r id with
     | some (.cells cs true z)=>if 0 < m∧m≤9223372036854775807∧z=⟨1,some t⟩ then (cut cs 0 m.toNat).bind fun vs=>(ZQ vs).map fun l=>(some (.sc (.str ⟨l.toArray⟩)),Qa4 r id (.cells cs false z)) else none
     | _=>none
   | some .nilP,some (.int .i64 m)=>if m=0 then some (some (.sc (.str .empty)),r) else none
   | _,_=>none
 | .call f args=>(QgM E args).bind fun vs=>(cr f vs r).map fun q=>(some q.1,q.2)
 | .callv x args => match ZF E x with
   | some (.fn f caps)=>(QgM E args).bind fun vs=>(cr f (vs++caps.map fun p=>AV.sc (.ptr p.1 p.2)) r).map fun q=>(some q.1,q.2)
   | _=>none
 | k=>if Qaa k then (Qm E [] k).map fun q=>(q.1,r) else none
theorem QlO {cr:CR} {cf:CF} (sim:U9 cr cf) {E:Env} {r:RH} (o:r.Ok) {k:AK} {v:Option AV} {r':RH} (h:opR cr E r k=some (v,r')):r'.Ok∧Q3 cf E r.h k=some (v,r'.h):=by
 have el:=o.len
 have gen:(if Qaa k then (Qm E [] k).map fun q=>(q.1,r) else none)=some (v,r')→r'.Ok∧Q3 cf E r.h k=some (v,r'.h):=fun h=>by
  split at h
  ·rename_i hp
   rw [Gc] at h
   obtain ⟨⟨v2,h2⟩,e1,e2⟩:=h
   cases e2
   exact ⟨o,QeG hp e1⟩
  ·cases h
 cases k
 case mv x =>
  simp only [opR,y7,Gc] at h
  obtain ⟨a,h1,e⟩:=h;cases e
  exact ⟨o,by simp only [Q3,Qm,h1,Gl]⟩
 case pick c a b =>
  simp only [opR,y7,Yo] at h
  split at h
  ·rename_i t ht
   split at h
   ·rename_i hb
    rw [Gc] at h;obtain ⟨a,h1,e⟩:=h;cases e
    exact ⟨o,by simp only [Q3,Qm,ht];rw [if_pos hb,h1];rfl⟩
   ·rename_i hb
    rw [Gc] at h;obtain ⟨a,h1,e⟩:=h;cases e
    exact ⟨o,by simp only [Q3,Qm,ht];rw [if_neg hb,h1];rfl⟩
  ·cases h
 case bin op x y =>
  simp only [opR,Yo,Gd,Gc] at h
  obtain ⟨a,h1,b,h2,c,h3,e⟩:=h;cases e
  exact ⟨o,by simp only [Q3,Qm,h1,h2,h3,Gm,Gl]⟩
 case un op x =>
  simp only [opR,Yo,Gd,Gc] at h
  obtain ⟨a,h1,c,h3,e⟩:=h;cases e
  exact ⟨o,by simp only [Q3,Qm,h1,h3,Gm,Gl]⟩
 case conv kd x =>
  simp only [opR,Yo] at h
  split at h
  ·rename_i h1;cases h
   exact ⟨o,by simp only [Q3,Qm,h1]⟩
  ·cases h
 case len s x =>
  simp only [opR,Yo,Gd,Gc] at h
  obtain ⟨a,h1,c,h3,e⟩:=h;cases e
  exact ⟨o,by simp only [Q3,Qm,h1,h3,Gm,Gl]⟩
 case idxA esz x i =>
  simp only [opR,Yo] at h
  split at h
  ·rename_i h1 h2
   split at h
   ·rename_i h3;cases h
    exact ⟨o,by simp only [Q3,Qm,h1,h2];rw [if_pos h3]⟩
   ·cases h
  ·cases h
 case fldA off x =>
  simp only [opR,Yo] at h
  split at h
  ·rename_i h1;cases h
   exact ⟨o,by simp only [Q3,Qm,h1]⟩
  ·cases h
 case ld n g x =>
  simp only [opR,Yo] at h
  split at h
  ·rename_i h1
   simp only [Gd,Gc] at h
   obtain ⟨a,h2,c,h3,e⟩:=h;cases e
   rw [yT o] at h2
   exact ⟨o,by simp only [Q3,Qm,h1,h2,h3,Gm,Gl]⟩
  ·cases h
 case st n a x =>
  simp only [opR,Yo,y7] at h
  split at h
  ·rename_i h1
   simp only [Gd] at h
   obtain ⟨a,h2,c,h3,h4⟩:=h
   split at h4
   ·rename_i h5
    rw [Gc] at h4
    obtain ⟨q,h6,e⟩:=h4;cases e
    obtain ⟨k1,k2⟩:=Uk o h6
    exact ⟨k1,by simp only [Q3,Qm,h1,h2,h3,Gm];rw [if_pos h5,k2];rfl⟩
   ·cases h4
  ·cases h
 case new z =>
  simp only [opR,Option.some.injEq,Prod.mk.injEq] at h
  obtain ⟨rfl,rfl⟩:=h
  exact ⟨Za o _,by simp only [Q3,Qm];rw [ZJ,el]⟩
 case newT t z =>
  simp only [opR,Option.some.injEq,Prod.mk.injEq] at h
  obtain ⟨rfl,rfl⟩:=h
  exact ⟨Za o _,by simp only [Q3,Qm];rw [ZJ,el]⟩
 case box x =>
  simp only [opR,y7,Gd,Gc] at h
  obtain ⟨a,h1,b,h2,e⟩:=h;cases e
  exact ⟨Za o _,by simp only [Q3,Qm,h1,h2,Gm,Gl];rw [ZJ,el]⟩
 case bsl esz zero len parts =>
  simp only [opR] at h
  split at h
  ·rename_i h0
   simp only [Gd,Gc] at h
   obtain ⟨a,h1,b,h2,e⟩:=h;cases e
   exact ⟨Za o _,by simp only [Q3,Qm];rw [if_pos h0];simp only [h1,h2,Gm,Gl];rw [ZJ,el]⟩
  ·cases h
 case mk esz bytes zero l c =>
  simp only [opR,Yo] at h
  split at h
  ·rename_i h1 h2
   split at h
   ·rename_i h3;cases h
    exact ⟨Za o _,by simp only [Q3,Qm,h1,h2];rw [if_pos h3,ZJ,el]⟩
   ·cases h
  ·cases h
 case sl esz x lo hi =>
  simp only [opR,Yo,Gd,Gc] at h
  obtain ⟨a,h1,b,h2,c,h3,d,h4,f,h5,e⟩:=h;cases e
  rw [Qei o] at h5
  exact ⟨o,by simp only [Q3,Qm,h1,h2,h3,h4,h5,Gm,Gl]⟩
 case app esz bytes z x y =>
  simp only [opR,Yo,Gd,Gc] at h
  obtain ⟨a,h1,b,h2,c,h3,⟨s',r2⟩,h5,e⟩:=h;cases e
  rw [QiM o] at h3
  obtain ⟨k1,k2⟩:=Qi5 o h5
  exact ⟨k1,by simp only [Q3,Qm,h1,h2,h3,Gm];rw [k2];rfl⟩
 case ustr t x n =>
  simp only [opR,Yo] at h
  split at h
  ·rename_i id m h1 h2
   split at h
   ·rename_i cs z hg
    split at h
    ·rename_i h3
     simp only [Gd,Gc] at h
     obtain ⟨a,h4,b,h5,e⟩:=h;cases e
     refine ⟨zR o _ _,?_⟩
     have hg2:=hg
     rw [Zp o] at hg2
     simp only [Q3,Qm,h1,h2,hg2]
     rw [if_pos h3,h4,Gm,h5,V3 o (zS hg)];rfl
    ·cases h
   ·cases h
  ·rename_i m h1 h2
   split at h
   ·rename_i h3;cases h
    exact ⟨o,by simp only [Q3,Qm,h1,h2];rw [if_pos h3]⟩
   ·cases h
  ·cases h
 case call f args =>
  simp only [opR,Qax,Gd,Gc] at h
  obtain ⟨a,h1,⟨q1,q2⟩,h2,e⟩:=h;cases e
  obtain ⟨k1,k2⟩:=sim _ _ _ _ _ o h2
  exact ⟨k1,by simp only [Q3,h1,Gm,k2,Gl]⟩
 case callv x args =>
  simp only [opR,Yo,Qax] at h
  split at h
  ·rename_i h0
   simp only [Gd,Gc] at h
   obtain ⟨a,h1,⟨q1,q2⟩,h2,e⟩:=h;cases e
   obtain ⟨k1,k2⟩:=sim _ _ _ _ _ o h2
   exact ⟨k1,by simp only [Q3,h0,h1,Gm,k2,Gl]⟩
  ·cases h
 all_goals exact gen h
def qx (cr:CR) (o:AOp) (E:Env) (r:RH):Option (Env × RH) :=
 match Yc E o.guard with
 | some true=>(opR cr E r o.k).map fun q=>(Qr o.dst q.1 E,q.2)
 | some false=>some (Qr o.dst (some (.tup [])) E,r)
 | none=>none
theorem yS {cr:CR} {cf:CF} (sim:U9 cr cf) {o:AOp} {E E':Env} {r r':RH} (ok:r.Ok) (h:qx cr o E r=some (E',r')):r'.Ok∧Ys cf o E r.h=some (E',r'.h):=by
 unfold qx at h
 unfold Ys
 split at h
 ·rename_i hw
  rw [hw]
  rw [Gc] at h
  obtain ⟨⟨v,q⟩,h1,e⟩:=h;cases e
  obtain ⟨k1,k2⟩:=QlO sim ok h1
  exact ⟨k1,by simp only [k2,Gl]⟩
 ·rename_i hw
  rw [hw];cases h
  exact ⟨ok,rfl⟩
 ·cases h
def zQ (cr:CR):List AOp→Env→RH→Option (Env × RH)
 | [],E,r=>some (E,r)
 | o :: rs, E, r => match qx cr o E r with
   | some (E',r')=>zQ cr rs E' r'
   | none=>none
theorem Ul {cr:CR} {cf:CF} (sim:U9 cr cf):∀ {ops:List AOp} {E E':Env} {r r':RH},r.Ok→zQ cr ops E r=some (E',r')→r'.Ok∧Zi cf ops E r.h=some (E',r'.h)
 | [],E,E',r,r',ok,h=>by cases h;exact ⟨ok,rfl⟩
 | o::rs,E,E',r,r',ok,h=>by
  unfold zQ at h
  split at h
  ·rename_i E1 r1 h1
   obtain ⟨k1,k2⟩:=yS sim ok h1
   unfold Zi
   rw [k2]
   exact Ul sim k1 h
  ·cases h
def QcT (r' r:RH):Bool:=decide (r.1≤r'.1) && decide (r'.2.drop (r'.1-r.1)=r.2)
theorem QaY {r r':RH} (o:r.Ok) (o':r'.Ok) (h:QcT r' r=true):(r'.h.take r.h.length == r.h)=true:=by
 unfold QcT at h
 rw [Bool.and_eq_true,decide_eq_true_iff,decide_eq_true_iff] at h
 have e:r'.h.take r.h.length=r.h:=by
  unfold RH.Ok at o o'
  unfold RH.h
  rw [List.length_reverse,List.take_reverse,← o,← o',h.2]
 rw [e];exact beq_self_eq_true _
def qX (ph:FuncId→Bool) (cr:CR):List (AOp × Bool)→Env→RH→Option (Env × RH)
 | [],E,r=>some (E,r)
 | (o, ord) :: rs, E, r => match qx cr o E r with
   | some (E',r')=>if ord || Qdc ph o.k || QcT r' r then qX ph cr rs E' r' else none
   | none=>none
theorem zp {ph:FuncId→Bool} {cr:CR} {cf:CF} (sim:U9 cr cf) (hph:∀ f args h r,ph f=true→cf f args h=some r→r.2=h):∀ {ops:List (AOp × Bool)} {E E':Env} {r r':RH},r.Ok→qX ph cr ops E r=some (E',r')→r'.Ok∧Y6 cf ops E r.h=some (E',r'.h)
 | [],E,E',r,r',ok,h=>by cases h;exact ⟨ok,rfl⟩
 | (o,ord)::rs,E,E',r,r',ok,h=>by
  unfold qX at h
  split at h
  ·rename_i E1 r1 h1
   obtain ⟨k1,k2⟩:=yS sim ok h1
   split at h
   ·rename_i hc
    unfold Y6
    rw [k2]
    have hc2:(ord || r1.h.take r.h.length == r.h)=true:=by
     rw [Bool.or_eq_true,Bool.or_eq_true] at hc
     rw [Bool.or_eq_true]
     rcases hc with (hc | hc) | hc
     ·exact .inl hc
     ·refine .inr ?_
      unfold Ys at k2
      split at k2
      ·rw [Gc] at k2
       obtain ⟨q,hq2,e⟩:=k2
       have:=QfX hph hc hq2
       have e2:q.2=r1.h:=congrArg Prod.snd e
       rw [← e2]
       exact this
      ·simp only [Option.some.injEq,Prod.mk.injEq] at k2
       rw [← k2.2];exact X4 _
      ·cases k2
     ·exact .inr (QaY ok k1 hc)
    simp only
    rw [if_pos hc2]
    exact zp sim hph k1 h
   ·cases h
  ·cases h
def Qan (cr:CR):List (AOp × Nat × Bool)→Env→RH→List Nat
 | [],_,_=>[]
 | (o, _, ord) :: rs, E, r => match qx cr o E r with
   | some (E',r')=>ldL (ldX E ord o.k)++Qan cr rs E' r'
   | none=>[]
def QaK (cr:CR) (fr:List Nat):List (AOp × Nat × Bool)→Env→RH→List Nat
 | [],_,_=>[]
 | (o, i, _) :: rs, E, r => match qx cr o E r with
   | some (E',r')=>(if fr.contains (1000+i) then List.range' r.1 (r'.1-r.1) else [])++QaK cr fr rs E' r'
   | none=>[]
def qW (cr:CR) (S A fr:List Nat):List (AOp × Nat × Bool)→Env→RH→Option (Env × RH)
 | [],E,r=>some (E,r)
 | (o, i, ord) :: rs, E, r => match qx cr o E r with
   | some (E',r')=>if (ord || QcT r' r) && ((fr.contains i || (S.all (fun id=>qZ r' id == qZ r id) && A.all (fun id=>decide (r.1≤id) || qZ r' id == qZ r id))) && Qjh S (ldX E ord o.k)) then qW cr S A fr rs E' r' else none
   | none=>none
theorem zn {cr:CR} {cf:CF} (sim:U9 cr cf) {S A fr:List Nat}:∀ {ops:List (AOp × Nat × Bool)} {E E':Env} {r r':RH},r.Ok→qW cr S A fr ops E r=some (E',r') →
  r'.Ok∧YA cf S A fr ops E r.h=some (E',r'.h)∧Qan cr ops E r=yl cf ops E r.h∧QaK cr fr ops E r=J2 cf fr ops E r.h
 | [],E,E',r,r',ok,h=>by cases h;exact ⟨ok,rfl,rfl,rfl⟩
 | (o,i,ord)::rs,E,E',r,r',ok,h=>by
  unfold qW at h
  split at h
  ·rename_i E1 r1 h1
   obtain ⟨k1,k2⟩:=yS sim ok h1
   split at h
   ·rename_i hc
    obtain ⟨j1,j2,j3,j4⟩:=zn sim k1 h
    refine ⟨j1,?_,?_,?_⟩
    ·unfold YA
     rw [k2]
     simp only
     rw [if_pos ?_]
     ·exact j2
     ·simp only [Zp ok,Zp k1] at hc
      rw [← ok.len] at hc
      rw [Bool.and_eq_true,Bool.or_eq_true] at hc
      rw [Bool.and_eq_true,Bool.or_eq_true]
      exact ⟨hc.1.imp id fun h=>QaY ok k1 h,hc.2⟩
    ·unfold Qan yl
     rw [h1,k2]
     simp only
     rw [j3]
    ·unfold QaK J2
     rw [h1,k2]
     simp only
     rw [j4,ok.len,k1.len]
   ·cases h
  ·cases h
abbrev Qfb:=Option (Ex × Env × RH)
def QdD (keep:List Nat) (step:Env→RH→Qfb):Nat→Env→RH→Qfb
 | 0,_,_=>none
 | n + 1, E, r => match step (VB E keep) r with
   | some (.nm,E',r')=>QdD keep step n E' r'
   | q=>q
def YS (ph:FuncId→Bool) (cr:CR) (n:Nat):AC→Env→RH→Qfb
 | .skip,E,h=>some (.nm,E,h)
 | .ret,E,h=>some (.rt,E,h)
 | .exit id,E,h=>some (.ex id,E,h)
 | .reg ops keep,E,h=>(zQ cr ops E h).map fun r=>(.nm,VB r.1 keep,r.2)
 | .regd ops keep,E,h=>(qX ph cr (ops.map fun p=>(p.1,p.2.2)) E h).map fun r=>(.nm,VB r.1 keep,r.2)
 | .regs ops fr keep,E,h=>(qW cr (Qan cr ops E h) (QaK cr fr ops E h) fr ops E h).map fun r=>(.nm,VB r.1 keep,r.2)
 | .seq a b, E, h => match YS ph cr n a E h with
   | some (.nm,E',h')=>YS ph cr n b E' h'
   | r=>r
 | .cond c a b, E, h => match ZF E c with
   | some (.bool t)=>if t=true then YS ph cr n a E h else YS ph cr n b E h
   | _=>none
 | .block id a, E, h => match YS ph cr n a E h with
   | some (.ex i,E',h')=>if i=id then some (.nm,E',h') else some (.ex i,E',h')
   | r=>r
 | .loop keep a,E,h=>QdD keep (YS ph cr n a) n E h
 | .scope a,E,h=>YS ph cr n a E h
def SimX (fR:Env→RH→Qfb) (f:Env→Qa→Out):Prop:=∀ E r ex E' r',r.Ok→fR E r=some (ex,E',r')→r'.Ok∧f E r.h=some (ex,E',r'.h)
theorem QbG {keep:List Nat} {sR:Env→RH→Qfb} {s:Env→Qa→Out} (sim:SimX sR s):∀ n,SimX (QdD keep sR n) (JU keep s n)
 | 0=>fun E r ex E' r' ok h=>by cases h
 | n+1=>fun E r ex E' r' ok h=>by
  unfold QdD at h
  unfold JU
  rw [yn] at h
  cases hs:sR (E.keep keep) r with
  | none=>rw [hs] at h;cases h
  | some q =>
   obtain ⟨x,E1,r1⟩:=q
   obtain ⟨k1,k2⟩:=sim _ _ _ _ _ ok hs
   rw [hs] at h
   rw [k2]
   cases x with
   | nm=>exact QbG sim n _ _ _ _ _ k1 h
   | ex i=>cases h;exact ⟨k1,rfl⟩
   | rt=>cases h;exact ⟨k1,rfl⟩
theorem Zf {ph:FuncId→Bool} {cr:CR} {cf:CF} (sim:U9 cr cf) (hph:∀ f args h r,ph f=true→cf f args h=some r→r.2=h) (n:Nat):∀ c:AC,SimX (YS ph cr n c) (XF cf n c)
 | .skip=>fun E r ex E' r' ok h=>by cases h;exact ⟨ok,rfl⟩
 | .ret=>fun E r ex E' r' ok h=>by cases h;exact ⟨ok,rfl⟩
 | .exit id=>fun E r ex E' r' ok h=>by cases h;exact ⟨ok,rfl⟩
 | .reg ops keep=>fun E r ex E' r' ok h=>by
  unfold YS at h
  rw [Gc] at h
  obtain ⟨⟨E1,r1⟩,h1,e⟩:=h
  cases e
  obtain ⟨k1,k2⟩:=Ul sim ok h1
  exact ⟨k1,by unfold XF;rw [k2,yn];rfl⟩
 | .regd ops keep=>fun E r ex E' r' ok h=>by
  unfold YS at h
  rw [Gc] at h
  obtain ⟨⟨E1,r1⟩,h1,e⟩:=h
  cases e
  obtain ⟨k1,k2⟩:=zp sim hph ok h1
  exact ⟨k1,by unfold XF;rw [k2,yn];rfl⟩
 | .regs ops fr keep=>fun E r ex E' r' ok h=>by
  unfold YS at h
  rw [Gc] at h
  obtain ⟨⟨E1,r1⟩,h1,e⟩:=h
  cases e
  obtain ⟨k1,k2,k3,k4⟩:=zn sim ok h1
  rw [k3,k4] at k2
  exact ⟨k1,by unfold XF;rw [k2,yn];rfl⟩
 | .seq a b=>fun E r ex E' r' ok h=>by
  unfold YS at h
  unfold XF
  cases hs:YS ph cr n a E r with
  | none=>rw [hs] at h;cases h
  | some q =>
   obtain ⟨x,E1,r1⟩:=q
   obtain ⟨k1,k2⟩:=Zf sim hph n a _ _ _ _ _ ok hs
   rw [hs] at h
   rw [k2]
   cases x with
   | nm=>exact Zf sim hph n b _ _ _ _ _ k1 h
   | ex i=>cases h;exact ⟨k1,rfl⟩
   | rt=>cases h;exact ⟨k1,rfl⟩
 | .cond c a b=>fun E r ex E' r' ok h=>by
  unfold YS at h
  unfold XF
  rw [Yo] at h
  split at h
  ·rename_i t ht
   rw [ht]
   simp only
   split at h
   ·rename_i hb;rw [if_pos hb];exact Zf sim hph n a _ _ _ _ _ ok h
   ·rename_i hb;rw [if_neg hb];exact Zf sim hph n b _ _ _ _ _ ok h
  ·cases h
 | .block id a=>fun E r ex E' r' ok h=>by
  unfold YS at h
  unfold XF
  cases hs:YS ph cr n a E r with
  | none=>rw [hs] at h;cases h
  | some q =>
   obtain ⟨x,E1,r1⟩:=q
   obtain ⟨k1,k2⟩:=Zf sim hph n a _ _ _ _ _ ok hs
   rw [hs] at h
   rw [k2]
   cases x with
   | nm=>cases h;exact ⟨k1,rfl⟩
   | ex i =>
    simp only at h ⊢
    split at h
    ·rename_i hi;cases h;rw [if_pos hi];exact ⟨k1,rfl⟩
    ·rename_i hi;cases h;rw [if_neg hi];exact ⟨k1,rfl⟩
   | rt=>cases h;exact ⟨k1,rfl⟩
 | .loop keep a=>fun E r ex E' r' ok h=>by
  unfold YS at h
  unfold XF
  exact QbG (Zf sim hph n a) n _ _ _ _ _ ok h
 | .scope a=>fun E r ex E' r' ok h=>by
  unfold YS at h
  unfold XF
  exact Zf sim hph n a _ _ _ _ _ ok h
def QfV (E:Env) (r:RH):ARes→Option PV
 | .t n=>(Qcu E n).bind AV.pv
 | .cell a n agg => match Qcu E a with
   | some (.sc (.ptr id off))=>(Um r id off n).bind fun vs=>(YB agg vs).bind AV.pv
   | _=>none
def Qc9 (E:Env) (r:RH):List ARes→Option (List PV)
 | []=>some []
 | x::rs=>(QfV E r x).bind fun v=>(Qc9 E r rs).map (v::·)
theorem Qda {E:Env} {r:RH} (o:r.Ok) (x:ARes):QfV E r x=ZS E r.h x:=by
 cases x with
 | t n=>simp only [QfV,ZS,yq]
 | cell a n agg =>
  simp only [QfV,ZS,yq]
  split <;> simp only [*]
  rw [yT o]
theorem Qa7 {E:Env} {r:RH} (o:r.Ok):∀ xs,Qc9 E r xs=Zj E r.h xs
 | []=>rfl
 | x::xs=>by unfold Qc9 Zj;rw [Qda o,Qa7 o xs]
def JN (rs:List ARes) (E:Env) (h:RH):Option AV :=
 match rs with
 | [r]=>(QfV E h r).map PV.av
 | rs=>(Qc9 E h rs).map AV.tup
theorem zq {E:Env} {r:RH} (o:r.Ok) (rs:List ARes):JN rs E r=XL rs E r.h:=by
 cases rs with
 | nil=>rfl
 | cons x xs =>
  cases xs with
  | nil=>unfold JN XL;simp only;rw [Qda o]
  | cons y ys=>unfold JN XL;simp only;rw [Qa7 o]
def Qav (F:AFun):Qfb→Option (AV × RH)
 | some (.nm,E,h')=>(JN F.res E h').map fun v=>(v,h')
 | some (.rt,E,h')=>(JN F.res E h').map fun v=>(v,h')
 | _=>none
abbrev VR:=List AV→RH→Option (AV × RH)
def QbY (ph:FuncId→Bool) (FT:FuncId→Option AFun) (HR:FuncId→Option VR):Nat→CR
 | 0=>fun _ _ _=>none
 | n+1=>fun f args h =>
  match HR f with
  | some g=>g args h
  | none =>
   match FT f with
   | none=>none
   | some F=>if args.length=F.np then Qav F (YS ph (QbY ph FT HR n) n F.body (params 0 args) h) else none
def QkO (HR:FuncId→Option VR) (HK:FuncId→Option Xj):Prop:=∀ f,match HR f with
 | some g=>∃ g',HK f=some g'∧∀ args r v r',r.Ok→g args r=some (v,r')→r'.Ok∧g' args r.h=some (v,r'.h)
 | none=>HK f=none
theorem QbX {ph:FuncId→Bool} {FT:FuncId→Option AFun} {HR:FuncId→Option VR} {HK:FuncId→Option Xj} (hs:QkO HR HK) (hp:Qh3 ph HK):∀ n,U9 (QbY ph FT HR n) (X0 FT HK n)
 | 0=>fun f args r v r' ok h=>by cases h
 | n+1=>fun f args r v r' ok h=>by
  have hf:=hs f
  unfold QbY at h
  unfold X0
  cases hg:HR f with
  | some g =>
   rw [hg] at h hf
   obtain ⟨g',e1,e2⟩:=hf
   rw [e1]
   exact e2 _ _ _ _ ok h
  | none =>
   rw [hg] at h hf
   rw [show HK f=none from hf]
   simp only at h ⊢
   split at h
   ·cases h
   ·rename_i F hF
    rw [hF]
    simp only
    split at h
    ·rename_i hl
     rw [if_pos hl]
     have hph:∀ f args h r,ph f=true→X0 FT HK n f args h=some r→r.2=h:=fun f args h r hf hr=>by
      obtain ⟨g2,hg2,hs2⟩:=hp f hf
      cases n with
      | zero=>simp [X0] at hr
      | succ n =>
       simp only [X0,hg2] at hr
       exact hs2 _ _ _ hr
     cases hx:YS ph (QbY ph FT HR n) n F.body (params 0 args) r with
     | none=>rw [hx] at h;cases h
     | some q =>
      obtain ⟨x,E1,r1⟩:=q
      obtain ⟨k1,k2⟩:=Zf (QbX hs hp n) hph n F.body _ _ _ _ _ ok hx
      rw [hx] at h
      rw [k2]
      cases x with
      | ex i=>cases h
      | nm =>
       simp only [Qav] at h
       rw [Gc] at h
       obtain ⟨u,h1,e⟩:=h;cases e
       rw [zq k1] at h1
       exact ⟨k1,by simp only [qE,h1,Gl]⟩
      | rt =>
       simp only [Qav] at h
       rw [Gc] at h
       obtain ⟨u,h1,e⟩:=h;cases e
       rw [zq k1] at h1
       exact ⟨k1,by simp only [qE,h1,Gl]⟩
    ·cases h
def Qdx (g:Xj):VR:=fun args r=>(g args []).map fun q=>(q.1,r)
def ccR (T:Nat):VR:=fun args h=>match args with
 | [.sc (.ptr id 0)] => match qZ h id with
   | some (.cells [.nilP,x] true z)=>if z=⟨0,some T⟩ then some (.tup [],Qa4 h id (.cells [.ptr id 0,x] true z)) else none
   | some (.cells [.ptr j 0,x] true z)=>if z=⟨0,some T⟩∧j=id then some (.tup [],h) else none
   | _=>none
 | _=>none
theorem Qmi {T:Nat} {args:List AV} {r r':RH} {v:AV} (o:r.Ok) (h:ccR T args r=some (v,r')):r'.Ok∧qI T args r.h=some (v,r'.h):=by
 unfold ccR at h
 unfold qI
 split at h
 ·split at h
  ·rename_i hg
   split at h
   ·rename_i hz;cases h
    have hg2:=hg
    rw [Zp o] at hg2
    refine ⟨zR o _ _,?_⟩
    simp only [hg2]
    rw [if_pos hz,V3 o (zS hg)]
   ·cases h
  ·rename_i hg
   split at h
   ·rename_i hz;cases h
    have hg2:=hg
    rw [Zp o] at hg2
    refine ⟨o,?_⟩
    simp only [hg2]
    rw [if_pos hz]
   ·cases h
  ·cases h
 ·cases h
