import Derived.Test.YtofknpknogfijaaGreatDoorAb47
/- The same reckoning,quicker: an operation that plainly leaves the memory as it is (or lays a block behind it) needs no comparison. -/
namespace Go.Ab
set_option linter.all false
def QgY(ph:FuncId->Bool):AK->Bool
 | .mv _ | .pick _ _ _ | .bin _ _ _ | .un _ _ | .conv _ _ | .len _ _ | .idxA _ _ _ | .fldA _ _ | .ld _ _ _ | .new _ | .ext _ _=>true
 | .call f _=>ph f
 | _=>false
theorem Yb(h:Qa):((h.take h.length==h):Bool)=true:=by rw[Gx];exact beq_self_eq_true h
theorem QgX{ph:FuncId->Bool}{cf:CF}(hph:∀ f args h r,ph f=true->cf f args h=some r->r.2=h){E:Env}{h:Qa}{k:AK}{r:Option AV×Qa}(hq:QgY ph k=true)(hr:Xb cf E h k=some r):(r.2.take h.length==h)=true:=by
 have same:r.2=h->(r.2.take h.length==h)=true:=fun e=>by rw[e];exact Yb h
 cases k <;> simp only[QgY]at hq <;> try exact absurd hq (by decide)
 case mv x=>simp only[Xb,Qo,Gc]at hr;obtain⟨v,-,rfl⟩:=hr;exact Yb h
 case pick c a b =>
  simp only[Xb,Qo]at hr
  split at hr
  ·split at hr <;> (rw[Gc]at hr;obtain⟨v,-,rfl⟩:=hr;exact Yb h)
  ·cases hr
 case bin op x y =>
  simp only[Xb,Qo,Gf,Gc]at hr
  obtain⟨a,-,b,-,v,-,rfl⟩:=hr;exact Yb h
 case un op x =>
  simp only[Xb,Qo,Gf,Gc]at hr
  obtain⟨a,-,v,-,rfl⟩:=hr;exact Yb h
 case conv kd x =>
  simp only[Xb,Qo]at hr
  split at hr
  ·cases hr;exact Yb h
  ·cases hr
 case len s x =>
  simp only[Xb,Qo,Gf,Gc]at hr
  obtain⟨a,-,v,-,rfl⟩:=hr;exact Yb h
 case idxA z x i =>
  simp only[Xb,Qo]at hr
  split at hr
  ·split at hr
   ·cases hr;exact Yb h
   ·cases hr
  ·cases hr
 case fldA o x =>
  simp only[Xb,Qo]at hr
  split at hr
  ·cases hr;exact Yb h
  ·cases hr
 case ld n g x =>
  simp only[Xb,Qo]at hr
  split at hr
  ·simp only[Gf,Gc]at hr
   obtain⟨a,-,v,-,rfl⟩:=hr;exact Yb h
  ·cases hr
 case new z =>
  simp only[Xb,Qo,Option.some.injEq]at hr
  subst hr
  show ((h++_).take h.length==h)=true
  rw[List.take_left];exact beq_self_eq_true h
 case ext x i =>
  simp only[Xb,Qo]at hr
  split at hr
  ·rw[Gc]at hr;obtain⟨v,-,rfl⟩:=hr;exact Yb h
  ·cases hr
 case call f args =>
  simp only[Xb,Gf,Gc]at hr
  obtain⟨vs,-,q,hq2,rfl⟩:=hr
  exact same (hph f vs h q hq hq2)
def Qja(ph:FuncId->Bool)(HK:zzH):Prop:=∀ f,ph f=true->∃ g,HK f=some g/\∀ args h r,g args h=some r->r.2=h
def Qdc:Env->Nat->Option AV
 | [],_=>none
 | (k,v)::r,t=>bif Nat.beq k t then v else Qdc r t
theorem yN:∀(E:Env) (t:Nat),Qdc E t=E.get t
 | [],_=>rfl
 | (k,v)::r,t=>by
  unfold Qdc Env.get
  rw[yN r t]
  by_cases h:k=t
  ·rw[if_pos h,h,Nat.beq_refl];rfl
  ·rw[if_neg h,show Nat.beq k t=false by cases hb:Nat.beq k t;rfl;exact absurd (Nat.eq_of_beq_eq_true hb) h];rfl
def Qac(E:Env)(ks:List Nat):Env:=ks.map fun t=>(t,Qdc E t)
theorem yJ(E:Env)(ks:List Nat):Qac E ks=E.keep ks:=by unfold Qac Env.keep;simp only[yN]
def evQ(E:Env):AO->Option AV
 | .t n=>Qdc E n
 | .k v=>some v
theorem zy(E:Env)(x:AO):evQ E x=ev E x:=by cases x;exact yN _ _;rfl
def ZV(E:Env)(x:AO):Option SV:=match evQ E x with
 | some (.sc v)=>some v
 | _=>none
theorem Yv(E:Env)(x:AO):ZV E x=evS E x:=by unfold ZV evS;rw[zy];rfl
def QhT(E:Env):List AO->Option (List AV)
 | []=>some []
 | x::r=>(evQ E x).bind fun v=>(QhT E r).map (v::·)
theorem Qba(E:Env):∀ xs,QhT E xs=evs E xs
 | []=>rfl
 | x::r=>by unfold QhT evs;rw[zy,Qba E r]
abbrev RH:=Nat×List Blk
def RH.h(r:RH):Qa:=r.2.reverse
def RH.Ok(r:RH):Prop:=r.1=r.2.length
theorem RH.Ok.len{r:RH}(o:r.Ok):r.h.length=r.1:=by unfold RH.h;rw[List.length_reverse];exact o.symm
def yp(r:RH)(id:Nat):Option Blk:=if id<r.1 then r.2[r.1-1-id]? else none
theorem ZD{r:RH}(o:r.Ok)(id:Nat):yp r id=r.h[id]?:=by
 unfold yp RH.h
 unfold RH.Ok at o
 split
 ·rw[List.getElem?_reverse (by omega),o]
 ·rw[Gr (by simp;omega)]
def QbJ(r:RH)(id:Nat)(b:Blk):RH:=(r.1,r.2.set (r.1-1-id) b)
theorem Uv{r:RH}(o:r.Ok)(id:Nat)(b:Blk):(QbJ r id b).Ok:=by unfold RH.Ok QbJ at *;simpa using o
theorem QaG{r:RH}(o:r.Ok){id:Nat}(h:id<r.1)(b:Blk):(QbJ r id b).h=r.h.set id b:=by
 unfold RH.h QbJ
 unfold RH.Ok at o
 apply Gt
 intro i
 rcases GD i r.2.length with hi|hi
 ·rw[List.getElem?_reverse (by simpa using hi),GQ,GQ,G9,List.getElem?_reverse hi,List.length_reverse]
  by_cases e:id=i
  ·subst e
   rw[if_pos (by omega),if_pos rfl,if_pos (by omega),if_pos hi]
  ·rw[if_neg (by omega),if_neg e]
 ·rw[Gr (by simpa using hi),Gr (by simpa using hi)]
def JQ(r:RH)(b:Blk):RH:=frc (r.1+1) fun m=>(m,b::r.2)
theorem Zq{r:RH}(o:r.Ok)(b:Blk):(JQ r b).Ok:=by unfold JQ;rw[Yu];unfold RH.Ok at *;simp[o]
theorem ZZ(r:RH)(b:Blk):(JQ r b).h=r.h++[b]:=by unfold JQ;rw[Yu];simp[RH.h]
theorem Uw{r:RH}{id:Nat}{b:Blk}(h:yp r id=some b):id<r.1:=by
 unfold yp at h
 split at h
 ·assumption
 ·cases h
def UX(r:RH)(id off n:Nat):Option (List SV):=match yp r id with
 | some (.cells cs _ _)=>cut cs off n
 | _=>none
theorem za{r:RH}(o:r.Ok)(id off n:Nat):UX r id off n=Q3 r.h id off n:=by unfold UX Q3;rw[ZD o];rfl
def Ut(r:RH)(id off:Nat)(vs:List SV):Option RH:=match yp r id with
 | some (.cells cs true esz)=>if off+vs.length<=cs.length then some (QbJ r id (.cells (Q8 cs off vs) true esz)) else none
 | _=>none
theorem UV{r r':RH}(o:r.Ok){id off:Nat}{vs:List SV}(h:Ut r id off vs=some r'):r'.Ok/\Xx r.h id off vs=some r'.h:=by
 unfold Ut at h
 split at h
 ·rename_i cs esz hg
  split at h
  ·rename_i hl
   cases h
   refine⟨Uv o _ _,?_⟩
   unfold Xx
   rw[← ZD o,hg]
   simp only
   rw[if_pos hl,QaG o (Uw hg)]
  ·cases h
 ·cases h
def rsrc(r:RH)(esz:Nat):SV->Option (Nat×List SV)
 | .nilS=>some (0,[])
 | .slc id off n _=>if n=0 then some (0,[]) else (UX r id off (n*esz)).map (n,·)
 | .str s=>if esz=1 then some (s.size,s.data.toList.map fun b => .int .u8 b.toNat) else none
 | _=>none
theorem QjZ{r:RH}(o:r.Ok)(esz:Nat)(s:SV):rsrc r esz s=Xs r.h esz s:=by
 cases s <;> first|rfl|(simp only[rsrc,Xs];rw[za o])
def rapp(r:RH)(esz:ESz)(bytes:Nat)(s:SV)(m:Nat)(vs:List SV):Option (SV×RH) :=
 match s with
 | .nilS=>if m=0 then some (.nilS,r) else if m*(bytes+1)<=XS then some (.slc r.1 0 m none,JQ r (.cells vs true esz)) else none
 | .slc id off n cap =>
  if m=0 then some (.slc id off n cap,r) else
  if (n+m)*(bytes+1)<=XS then
   match yp r id with
   | some (.cells cs rw e) =>
    if e=esz then
     match cut cs off (n*esz.n) with
     | some old =>
      match cap with
      | some c =>
       if c<n+m then some (.slc r.1 0 (n+m) none,JQ r (.cells (old++vs) true esz))
       else (Ut r id (off+n*esz.n) vs).map fun h'=>(.slc id off (n+m) (some c),h')
      | none=>if rw=true/\(esz.ty=none∨off=0) then some (.slc r.1 0 (n+m) none,JQ (QbJ r id (.dead esz)) (.cells (old++vs) true esz)) else none
     | none=>none
    else none
   | _=>none
  else none
 | _=>none
theorem Qkq{r r':RH}(o:r.Ok){esz:ESz}{bytes m:Nat}{s s':SV}{vs:List SV}(h:rapp r esz bytes s m vs=some (s',r')):r'.Ok/\Y0 r.h esz bytes s m vs=some (s',r'.h):=by
 have el:=o.len
 unfold rapp at h
 split at h
 ·split at h
  ·rename_i h0;cases h;exact⟨o,by unfold Y0;simp only;rw[if_pos h0]⟩
  ·rename_i h0
   split at h
   ·rename_i h1;cases h
    exact⟨Zq o _,by unfold Y0;simp only;rw[if_neg h0,if_pos h1,ZZ,el]⟩
   ·cases h
 ·rename_i id off n cap
  unfold Y0
  simp only
  split at h
  ·rename_i h0;cases h;rw[if_pos h0];exact⟨o,rfl⟩
  ·rename_i h0
   rw[if_neg h0]
   split at h
   ·rename_i h1
    rw[if_pos h1]
    split at h
    ·rename_i cs rw' e hg
     rw[← ZD o,hg]
     simp only
     split at h
     ·rename_i h2
      rw[if_pos h2]
      split at h
      ·rename_i old h3
       rw[h3]
       simp only
       split at h
       ·rename_i c
        simp only
        split at h
        ·rename_i h4;cases h
         rw[if_pos h4,ZZ,el];exact⟨Zq o _,rfl⟩
        ·rename_i h4
         rw[if_neg h4]
         rw[Gc]at h
         obtain⟨q,hq,e⟩:=h
         cases e
         obtain⟨k1,k2⟩:=UV o hq
         rw[k2];exact⟨k1,rfl⟩
       ·simp only
        split at h
        ·rename_i h4;cases h
         rw[if_pos h4,ZZ,QaG o (Uw hg),el]
         exact⟨Zq (Uv o _ _) _,rfl⟩
        ·cases h
      ·cases h
     ·cases h
    ·cases h
   ·cases h
 ·cases h
def QcR(r:RH)(esz:ESz)(lo hi:Nat):SV->Option SV
 | .nilS=>if lo=0/\hi=0 then some .nilS else none
 | .slc id off n cap => match yp r id with
   | some b=>if b.esz=esz/\lo<=hi/\hi<=n then some (.slc id (off+lo*esz.n) (hi-lo) (cap.map (· - lo))) else none
   | _=>none
 | _=>none
theorem Qfb{r:RH}(o:r.Ok)(esz:ESz)(lo hi:Nat)(s:SV):QcR r esz lo hi s=YR r.h esz lo hi s:=by
 cases s <;> first|rfl|(simp only[QcR,YR];rw[ZD o];rfl)
abbrev CR:=FuncId->List AV->RH->Option (AV×RH)
def VK(cr:CR)(cf:CF):Prop:=∀ f args r v r',r.Ok->cr f args r=some (v,r')->r'.Ok/\cf f args r.h=some (v,r'.h)
def QaL:AK->Bool
 | .mm _ _ _ | .bld _ _ | .ext _ _ | .mkf _ _ | .nilc _ | .isnil _ _ _ | .beq _ _ _ | .seq2 _ _ _ | .idxS _ _ | .car _ _ _ _ | .sl1 _ _ _ | .usd _=>true
 | _=>false
theorem Qfz{cf:CF}{E:Env}{k:AK}(hp:QaL k=true){h:Qa}{v:Option AV}{h2:Qa}(hr:Qo E [] k=some (v,h2)):Xb cf E h k=some (v,h):=by
 cases k <;> simp only[QaL]at hp <;> try exact absurd hp (by decide)
 all_goals simp only[Qo,Xb]at hr ⊢
 case mm=>simp only[Gf,Gc]at hr ⊢;obtain⟨a,h1,b,h2,c,h3,e⟩:=hr;cases e;exact⟨a,h1,b,h2,c,h3,rfl⟩
 case bld=>simp only[Gf,Gc]at hr ⊢;obtain⟨a,h1,b,h2,e⟩:=hr;cases e;exact⟨a,h1,b,h2,rfl⟩
 case isnil=>simp only[Gf,Gc]at hr ⊢;obtain⟨a,h1,b,h2,e⟩:=hr;cases e;exact⟨a,h1,b,h2,rfl⟩
 case mkf=>simp only[Gf,Gc]at hr ⊢;obtain⟨a,h1,b,h2,e⟩:=hr;cases e;exact⟨a,h1,b,h2,rfl⟩
 case sl1=>simp only[Gf,Gc]at hr ⊢;obtain⟨a,h1,b,h2,c,h3,d,h4,f,h5,e⟩:=hr;cases e;exact⟨a,h1,b,h2,c,h3,d,h4,f,h5,rfl⟩
 case idxS x i =>
  split at hr
  ·rename_i s kd j e1 e2
   split at hr
   ·rename_i hj
    rw[Gc]at hr
    obtain⟨b,h1,e⟩:=hr
    cases e
    rw[if_pos hj,h1];rfl
   ·cases hr
  ·cases hr
 all_goals repeat' split at hr
 all_goals first
  | (cases hr;done)
  | (simp only[Gf,Gc]at hr ⊢;obtain⟨a,h1,b,h2,e⟩:=hr;cases e;exact⟨a,h1,b,h2,rfl⟩)
  | (simp only[Gc]at hr ⊢;obtain⟨a,h1,e⟩:=hr;cases e;exact⟨a,h1,rfl⟩)
  | (cases hr;simp only[*,and_self,if_true,if_false];done)
  | (cases hr;rfl)
  | (cases hr;simp[*];done)
def opR(cr:CR)(E:Env)(r:RH)(k:AK):Option (Option AV×RH):=match k with
 | .mv x=>(evQ E x).map fun v=>(some v,r)
 | .pick c a b => match ZV E c with
   | some (.bool t)=>if t=true then (evQ E a).map fun v=>(some v,r) else (evQ E b).map fun v=>(some v,r)
   | _=>none
 | .bin op x y=>(ZV E x).bind fun a=>(ZV E y).bind fun b=>(ZI op a b).map fun v=>(some (.sc v),r)
 | .un op x=>(ZV E x).bind fun a=>(unS op a).map fun v=>(some (.sc v),r)
 | .conv k x => match ZV E x with
   | some (.int _ n)=>some (some (.sc (Yf k n)),r)
   | _=>none
 | .len s x=>(ZV E x).bind fun a=>(Yh s a).map fun n=>(some (.sc (.int .i64 n)),r)
 | .idxA esz x i => match ZV E x, ZV E i with
   | some (.slc id off n _),some (.int _ j)=>if 0<=j/\j<n then some (some (.sc (.ptr id (off+j.toNat*esz))),r) else none
   | _,_=>none
 | .fldA off x => match ZV E x with
   | some (.ptr id o)=>some (some (.sc (.ptr id (o+off))),r)
   | _=>none
 | .ld n g x => match ZV E x with
   | some (.ptr id off)=>(UX r id off n).bind fun vs=>(YP g vs).map fun v=>(some v,r)
   | _=>none
 | .st n a x => match ZV E a with
   | some (.ptr id off)=>(evQ E x).bind fun v=>v.cells.bind fun vs=>if vs.length=n then (Ut r id off vs).map fun h'=>(none,h') else none
   | _=>none
 | .new z=>some (some (.sc (.ptr r.1 0)),JQ r (.cells z true 0))
 | .box x=>(evQ E x).bind fun v=>v.cells.map fun vs=>(some (.sc (.ptr r.1 0)),JQ r (.cells vs true 0))
 | .newT t z=>some (some (.sc (.ptr r.1 0)),JQ r (.cells z true ⟨0,some t⟩))
 | .bsl esz zero len parts=>if len*esz.n<=16777216 then
   (XR E (parts.map fun p=>(p.1*esz.n,esz.n,p.2))).bind fun ps=>(YX (rep zero len) ps).map fun cs=>(some (.sc (.slc r.1 0 len (some len))),JQ r (.cells cs true esz))
  else none
 | .mk esz bytes zero l c => match ZV E l, ZV E c with
   | some (.int _ n),some (.int _ m)=>if 0<=n/\n<=m/\m*(bytes+1:Nat)<=XS then
    some (some (.sc (.slc r.1 0 n.toNat (some m.toNat))),JQ r (.cells (rep zero m.toNat) true esz)) else none
   | _,_=>none
 | .sl esz x lo hi=>(ZV E x).bind fun v=>(Yh false v).bind fun n=>(bnd E 0 lo).bind fun l=>(bnd E n.toNat hi).bind fun u=>(QcR r esz l u v).map fun s=>(some (.sc s),r)
 | .app esz bytes _ x y=>(ZV E x).bind fun s=>(ZV E y).bind fun t=>(rsrc r esz.n t).bind fun p=>(rapp r esz bytes s p.1 p.2).map fun q=>(some (.sc q.1),q.2)
 | .ustr t x n => match ZV E x, ZV E n with
   | some (.ptr id 0), some (.int .i64 m) => match yp r id with
     | some (.cells cs true z)=>if 0<m/\m<=9223372036854775807/\z=⟨1,some t⟩ then (cut cs 0 m.toNat).bind fun vs=>(Zn vs).map fun l=>(some (.sc (.str ⟨l.toArray⟩)),QbJ r id (.cells cs false z)) else none
     | _=>none
   | some .nilP,some (.int .i64 m)=>if m=0 then some (some (.sc (.str .empty)),r) else none
   | _,_=>none
 | .call f args=>(QhT E args).bind fun vs=>(cr f vs r).map fun q=>(some q.1,q.2)
 | .callv x args => match ZV E x with
   | some (.fn f caps)=>(QhT E args).bind fun vs=>(cr f (vs++caps.map fun p=>AV.sc (.ptr p.1 p.2)) r).map fun q=>(some q.1,q.2)
   | _=>none
 | k=>if QaL k then (Qo E [] k).map fun q=>(q.1,r) else none
theorem QnE{cr:CR}{cf:CF}(sim:VK cr cf){E:Env}{r:RH}(o:r.Ok){k:AK}{v:Option AV}{r':RH}(h:opR cr E r k=some (v,r')):r'.Ok/\Xb cf E r.h k=some (v,r'.h):=by
 have el:=o.len
 have gen:(if QaL k then (Qo E [] k).map fun q=>(q.1,r) else none)=some (v,r')->r'.Ok/\Xb cf E r.h k=some (v,r'.h):=fun h=>by
  split at h
  ·rename_i hp
   rw[Gc]at h
   obtain⟨⟨v2,h2⟩,e1,e2⟩:=h
   cases e2
   exact⟨o,Qfz hp e1⟩
  ·cases h
 cases k
 case mv x =>
  simp only[opR,zy,Gc]at h
  obtain⟨a,h1,e⟩:=h;cases e
  exact⟨o,by simp only[Xb,Qo,h1,Gp]⟩
 case pick c a b =>
  simp only[opR,zy,Yv]at h
  split at h
  ·rename_i t ht
   split at h
   ·rename_i hb
    rw[Gc]at h;obtain⟨a,h1,e⟩:=h;cases e
    exact⟨o,by simp only[Xb,Qo,ht];rw[if_pos hb,h1];rfl⟩
   ·rename_i hb
    rw[Gc]at h;obtain⟨a,h1,e⟩:=h;cases e
    exact⟨o,by simp only[Xb,Qo,ht];rw[if_neg hb,h1];rfl⟩
  ·cases h
 case bin op x y =>
  simp only[opR,Yv,Gf,Gc]at h
  obtain⟨a,h1,b,h2,c,h3,e⟩:=h;cases e
  exact⟨o,by simp only[Xb,Qo,h1,h2,h3,Gl,Gp]⟩
 case un op x =>
  simp only[opR,Yv,Gf,Gc]at h
  obtain⟨a,h1,c,h3,e⟩:=h;cases e
  exact⟨o,by simp only[Xb,Qo,h1,h3,Gl,Gp]⟩
 case conv kd x =>
  simp only[opR,Yv]at h
  split at h
  ·rename_i h1;cases h
   exact⟨o,by simp only[Xb,Qo,h1]⟩
  ·cases h
 case len s x =>
  simp only[opR,Yv,Gf,Gc]at h
  obtain⟨a,h1,c,h3,e⟩:=h;cases e
  exact⟨o,by simp only[Xb,Qo,h1,h3,Gl,Gp]⟩
 case idxA esz x i =>
  simp only[opR,Yv]at h
  split at h
  ·rename_i h1 h2
   split at h
   ·rename_i h3;cases h
    exact⟨o,by simp only[Xb,Qo,h1,h2];rw[if_pos h3]⟩
   ·cases h
  ·cases h
 case fldA off x =>
  simp only[opR,Yv]at h
  split at h
  ·rename_i h1;cases h
   exact⟨o,by simp only[Xb,Qo,h1]⟩
  ·cases h
 case ld n g x =>
  simp only[opR,Yv]at h
  split at h
  ·rename_i h1
   simp only[Gf,Gc]at h
   obtain⟨a,h2,c,h3,e⟩:=h;cases e
   rw[za o]at h2
   exact⟨o,by simp only[Xb,Qo,h1,h2,h3,Gl,Gp]⟩
  ·cases h
 case st n a x =>
  simp only[opR,Yv,zy]at h
  split at h
  ·rename_i h1
   simp only[Gf]at h
   obtain⟨a,h2,c,h3,h4⟩:=h
   split at h4
   ·rename_i h5
    rw[Gc]at h4
    obtain⟨q,h6,e⟩:=h4;cases e
    obtain⟨k1,k2⟩:=UV o h6
    exact⟨k1,by simp only[Xb,Qo,h1,h2,h3,Gl];rw[if_pos h5,k2];rfl⟩
   ·cases h4
  ·cases h
 case new z =>
  simp only[opR,Option.some.injEq,Prod.mk.injEq]at h
  obtain⟨rfl,rfl⟩:=h
  exact⟨Zq o _,by simp only[Xb,Qo];rw[ZZ,el]⟩
 case newT t z =>
  simp only[opR,Option.some.injEq,Prod.mk.injEq]at h
  obtain⟨rfl,rfl⟩:=h
  exact⟨Zq o _,by simp only[Xb,Qo];rw[ZZ,el]⟩
 case box x =>
  simp only[opR,zy,Gf,Gc]at h
  obtain⟨a,h1,b,h2,e⟩:=h;cases e
  exact⟨Zq o _,by simp only[Xb,Qo,h1,h2,Gl,Gp];rw[ZZ,el]⟩
 case bsl esz zero len parts =>
  simp only[opR]at h
  split at h
  ·rename_i h0
   simp only[Gf,Gc]at h
   obtain⟨a,h1,b,h2,e⟩:=h;cases e
   exact⟨Zq o _,by simp only[Xb,Qo];rw[if_pos h0];simp only[h1,h2,Gl,Gp];rw[ZZ,el]⟩
  ·cases h
 case mk esz bytes zero l c =>
  simp only[opR,Yv]at h
  split at h
  ·rename_i h1 h2
   split at h
   ·rename_i h3;cases h
    exact⟨Zq o _,by simp only[Xb,Qo,h1,h2];rw[if_pos h3,ZZ,el]⟩
   ·cases h
  ·cases h
 case sl esz x lo hi =>
  simp only[opR,Yv,Gf,Gc]at h
  obtain⟨a,h1,b,h2,c,h3,d,h4,f,h5,e⟩:=h;cases e
  rw[Qfb o]at h5
  exact⟨o,by simp only[Xb,Qo,h1,h2,h3,h4,h5,Gl,Gp]⟩
 case app esz bytes z x y =>
  simp only[opR,Yv,Gf,Gc]at h
  obtain⟨a,h1,b,h2,c,h3,⟨s',r2⟩,h5,e⟩:=h;cases e
  rw[QjZ o]at h3
  obtain⟨k1,k2⟩:=Qkq o h5
  exact⟨k1,by simp only[Xb,Qo,h1,h2,h3,Gl];rw[k2];rfl⟩
 case ustr t x n =>
  simp only[opR,Yv]at h
  split at h
  ·rename_i id m h1 h2
   split at h
   ·rename_i cs z hg
    split at h
    ·rename_i h3
     simp only[Gf,Gc]at h
     obtain⟨a,h4,b,h5,e⟩:=h;cases e
     refine⟨Uv o _ _,?_⟩
     have hg2:=hg
     rw[ZD o]at hg2
     simp only[Xb,Qo,h1,h2,hg2]
     rw[if_pos h3,h4,Gl,h5,QaG o (Uw hg)];rfl
    ·cases h
   ·cases h
  ·rename_i m h1 h2
   split at h
   ·rename_i h3;cases h
    exact⟨o,by simp only[Xb,Qo,h1,h2];rw[if_pos h3]⟩
   ·cases h
  ·cases h
 case call f args =>
  simp only[opR,Qba,Gf,Gc]at h
  obtain⟨a,h1,⟨q1,q2⟩,h2,e⟩:=h;cases e
  obtain⟨k1,k2⟩:=sim _ _ _ _ _ o h2
  exact⟨k1,by simp only[Xb,h1,Gl,k2,Gp]⟩
 case callv x args =>
  simp only[opR,Yv,Qba]at h
  split at h
  ·rename_i h0
   simp only[Gf,Gc]at h
   obtain⟨a,h1,⟨q1,q2⟩,h2,e⟩:=h;cases e
   obtain⟨k1,k2⟩:=sim _ _ _ _ _ o h2
   exact⟨k1,by simp only[Xb,h0,h1,Gl,k2,Gp]⟩
  ·cases h
 all_goals exact gen h
def qO(cr:CR)(o:AOp)(E:Env)(r:RH):Option (Env×RH) :=
 match Yk E o.guard with
 | some true=>(opR cr E r o.k).map fun q=>(Qv o.dst q.1 E,q.2)
 | some false=>some (Qv o.dst (some (.tup [])) E,r)
 | none=>none
theorem y9{cr:CR}{cf:CF}(sim:VK cr cf){o:AOp}{E E':Env}{r r':RH}(ok:r.Ok)(h:qO cr o E r=some (E',r')):r'.Ok/\Yx cf o E r.h=some (E',r'.h):=by
 unfold qO at h
 unfold Yx
 split at h
 ·rename_i hw
  rw[hw]
  rw[Gc]at h
  obtain⟨⟨v,q⟩,h1,e⟩:=h;cases e
  obtain⟨k1,k2⟩:=QnE sim ok h1
  exact⟨k1,by simp only[k2,Gp]⟩
 ·rename_i hw
  rw[hw];cases h
  exact⟨ok,rfl⟩
 ·cases h
def Uu(cr:CR):List AOp->Env->RH->Option (Env×RH)
 | [],E,r=>some (E,r)
 | o :: rs, E, r => match qO cr o E r with
   | some (E',r')=>Uu cr rs E' r'
   | none=>none
theorem UW{cr:CR}{cf:CF}(sim:VK cr cf):∀ {ops:List AOp} {E E':Env} {r r':RH},r.Ok->Uu cr ops E r=some (E',r')->r'.Ok/\Zw cf ops E r.h=some (E',r'.h)
 | [],E,E',r,r',ok,h=>by cases h;exact⟨ok,rfl⟩
 | o::rs,E,E',r,r',ok,h=>by
  unfold Uu at h
  split at h
  ·rename_i E1 r1 h1
   obtain⟨k1,k2⟩:=y9 sim ok h1
   unfold Zw
   rw[k2]
   exact UW sim k1 h
  ·cases h
def QdG(r' r:RH):Bool:=decide (r.1<=r'.1)&&decide (r'.2.drop (r'.1-r.1)=r.2)
theorem QbD{r r':RH}(o:r.Ok)(o':r'.Ok)(h:QdG r' r=true):(r'.h.take r.h.length==r.h)=true:=by
 unfold QdG at h
 rw[Bool.and_eq_true,decide_eq_true_iff,decide_eq_true_iff]at h
 have e:r'.h.take r.h.length=r.h:=by
  unfold RH.Ok at o o'
  unfold RH.h
  rw[List.length_reverse,List.take_reverse,← o,← o',h.2]
 rw[e];exact beq_self_eq_true _
def yn(ph:FuncId->Bool)(cr:CR):List (AOp×Bool)->Env->RH->Option (Env×RH)
 | [],E,r=>some (E,r)
 | (o, ord) :: rs, E, r => match qO cr o E r with
   | some (E',r')=>if ord || QgY ph o.k || QdG r' r then yn ph cr rs E' r' else none
   | none=>none
theorem zV{ph:FuncId->Bool}{cr:CR}{cf:CF}(sim:VK cr cf)(hph:∀ f args h r,ph f=true->cf f args h=some r->r.2=h):∀ {ops:List (AOp×Bool)} {E E':Env} {r r':RH},r.Ok->yn ph cr ops E r=some (E',r')->r'.Ok/\Zj cf ops E r.h=some (E',r'.h)
 | [],E,E',r,r',ok,h=>by cases h;exact⟨ok,rfl⟩
 | (o,ord)::rs,E,E',r,r',ok,h=>by
  unfold yn at h
  split at h
  ·rename_i E1 r1 h1
   obtain⟨k1,k2⟩:=y9 sim ok h1
   split at h
   ·rename_i hc
    unfold Zj
    rw[k2]
    have hc2:(ord || r1.h.take r.h.length==r.h)=true:=by
     rw[Bool.or_eq_true,Bool.or_eq_true]at hc
     rw[Bool.or_eq_true]
     rcases hc with (hc|hc)|hc
     ·exact .inl hc
     ·refine .inr ?_
      unfold Yx at k2
      split at k2
      ·rw[Gc]at k2
       obtain⟨q,hq2,e⟩:=k2
       have:=QgX hph hc hq2
       have e2:q.2=r1.h:=congrArg Prod.snd e
       rw[← e2]
       exact this
      ·simp only[Option.some.injEq,Prod.mk.injEq]at k2
       rw[← k2.2];exact Yb _
      ·cases k2
     ·exact .inr (QbD ok k1 hc)
    simp only
    rw[if_pos hc2]
    exact zV sim hph k1 h
   ·cases h
  ·cases h
def QaX(cr:CR):List (AOp×Nat×Bool)->Env->RH->List Nat
 | [],_,_=>[]
 | (o, _, ord) :: rs, E, r => match qO cr o E r with
   | some (E',r')=>ldL (ldX E ord o.k)++QaX cr rs E' r'
   | none=>[]
def Qbq(cr:CR)(fr:List Nat):List (AOp×Nat×Bool)->Env->RH->List Nat
 | [],_,_=>[]
 | (o, i, _) :: rs, E, r => match qO cr o E r with
   | some (E',r')=>(if fr.contains (1000+i) then List.range' r.1 (r'.1-r.1) else [])++Qbq cr fr rs E' r'
   | none=>[]
def ym(cr:CR)(S A fr:List Nat):List (AOp×Nat×Bool)->Env->RH->Option (Env×RH)
 | [],E,r=>some (E,r)
 | (o, i, ord) :: rs, E, r => match qO cr o E r with
   | some (E',r')=>if (ord || QdG r' r)&&((fr.contains i || (S.all (fun id=>yp r' id==yp r id)&&A.all (fun id=>decide (r.1<=id) || yp r' id==yp r id)))&&QkD S (ldX E ord o.k)) then ym cr S A fr rs E' r' else none
   | none=>none
theorem zU{cr:CR}{cf:CF}(sim:VK cr cf){S A fr:List Nat}:∀ {ops:List (AOp×Nat×Bool)} {E E':Env} {r r':RH},r.Ok->ym cr S A fr ops E r=some (E',r') ->
  r'.Ok/\YL cf S A fr ops E r.h=some (E',r'.h)/\QaX cr ops E r=z6 cf ops E r.h/\Qbq cr fr ops E r=qJ cf fr ops E r.h
 | [],E,E',r,r',ok,h=>by cases h;exact⟨ok,rfl,rfl,rfl⟩
 | (o,i,ord)::rs,E,E',r,r',ok,h=>by
  unfold ym at h
  split at h
  ·rename_i E1 r1 h1
   obtain⟨k1,k2⟩:=y9 sim ok h1
   split at h
   ·rename_i hc
    obtain⟨j1,j2,j3,j4⟩:=zU sim k1 h
    refine⟨j1,?_,?_,?_⟩
    ·unfold YL
     rw[k2]
     simp only
     rw[if_pos ?_]
     ·exact j2
     ·simp only[ZD ok,ZD k1]at hc
      rw[← ok.len]at hc
      rw[Bool.and_eq_true,Bool.or_eq_true]at hc
      rw[Bool.and_eq_true,Bool.or_eq_true]
      exact⟨hc.1.imp id fun h=>QbD ok k1 h,hc.2⟩
    ·unfold QaX z6
     rw[h1,k2]
     simp only
     rw[j3]
    ·unfold Qbq qJ
     rw[h1,k2]
     simp only
     rw[j4,ok.len,k1.len]
   ·cases h
  ·cases h
abbrev Qf1:=Option (Ex×Env×RH)
def Qeu(keep:List Nat)(step:Env->RH->Qf1):Nat->Env->RH->Qf1
 | 0,_,_=>none
 | n + 1, E, r => match step (Qac E keep) r with
   | some (.nm,E',r')=>Qeu keep step n E' r'
   | q=>q
def Y3(ph:FuncId->Bool)(cr:CR)(n:Nat):AC->Env->RH->Qf1
 | .skip,E,h=>some (.nm,E,h)
 | .ret,E,h=>some (.rt,E,h)
 | .exit id,E,h=>some (.ex id,E,h)
 | .reg ops keep,E,h=>(Uu cr ops E h).map fun r=>(.nm,Qac r.1 keep,r.2)
 | .regd ops keep,E,h=>(yn ph cr (ops.map fun p=>(p.1,p.2.2)) E h).map fun r=>(.nm,Qac r.1 keep,r.2)
 | .regs ops fr keep,E,h=>(ym cr (QaX cr ops E h) (Qbq cr fr ops E h) fr ops E h).map fun r=>(.nm,Qac r.1 keep,r.2)
 | .seq a b, E, h => match Y3 ph cr n a E h with
   | some (.nm,E',h')=>Y3 ph cr n b E' h'
   | r=>r
 | .cond c a b, E, h => match ZV E c with
   | some (.bool t)=>if t=true then Y3 ph cr n a E h else Y3 ph cr n b E h
   | _=>none
 | .block id a, E, h => match Y3 ph cr n a E h with
   | some (.ex i,E',h')=>if i=id then some (.nm,E',h') else some (.ex i,E',h')
   | r=>r
 | .loop keep a,E,h=>Qeu keep (Y3 ph cr n a) n E h
 | .scope a,E,h=>Y3 ph cr n a E h
def SimX(fR:Env->RH->Qf1)(f:Env->Qa->Out):Prop:=∀ E r ex E' r',r.Ok->fR E r=some (ex,E',r')->r'.Ok/\f E r.h=some (ex,E',r'.h)
theorem Qcl{keep:List Nat}{sR:Env->RH->Qf1}{s:Env->Qa->Out}(sim:SimX sR s):∀ n,SimX (Qeu keep sR n) (qy keep s n)
 | 0=>fun E r ex E' r' ok h=>by cases h
 | n+1=>fun E r ex E' r' ok h=>by
  unfold Qeu at h
  unfold qy
  rw[yJ]at h
  cases hs:sR (E.keep keep) r with
  | none=>rw[hs]at h;cases h
  | some q =>
   obtain⟨x,E1,r1⟩:=q
   obtain⟨k1,k2⟩:=sim _ _ _ _ _ ok hs
   rw[hs]at h
   rw[k2]
   cases x with
   | nm=>exact Qcl sim n _ _ _ _ _ k1 h
   | ex i=>cases h;exact⟨k1,rfl⟩
   | rt=>cases h;exact⟨k1,rfl⟩
theorem Zu{ph:FuncId->Bool}{cr:CR}{cf:CF}(sim:VK cr cf)(hph:∀ f args h r,ph f=true->cf f args h=some r->r.2=h)(n:Nat):∀ c:AC,SimX (Y3 ph cr n c) (XE cf n c)
 | .skip=>fun E r ex E' r' ok h=>by cases h;exact⟨ok,rfl⟩
 | .ret=>fun E r ex E' r' ok h=>by cases h;exact⟨ok,rfl⟩
 | .exit id=>fun E r ex E' r' ok h=>by cases h;exact⟨ok,rfl⟩
 | .reg ops keep=>fun E r ex E' r' ok h=>by
  unfold Y3 at h
  rw[Gc]at h
  obtain⟨⟨E1,r1⟩,h1,e⟩:=h
  cases e
  obtain⟨k1,k2⟩:=UW sim ok h1
  exact⟨k1,by unfold XE;rw[k2,yJ];rfl⟩
 | .regd ops keep=>fun E r ex E' r' ok h=>by
  unfold Y3 at h
  rw[Gc]at h
  obtain⟨⟨E1,r1⟩,h1,e⟩:=h
  cases e
  obtain⟨k1,k2⟩:=zV sim hph ok h1
  exact⟨k1,by unfold XE;rw[k2,yJ];rfl⟩
 | .regs ops fr keep=>fun E r ex E' r' ok h=>by
  unfold Y3 at h
  rw[Gc]at h
  obtain⟨⟨E1,r1⟩,h1,e⟩:=h
  cases e
  obtain⟨k1,k2,k3,k4⟩:=zU sim ok h1
  rw[k3,k4]at k2
  exact⟨k1,by unfold XE;rw[k2,yJ];rfl⟩
 | .seq a b=>fun E r ex E' r' ok h=>by
  unfold Y3 at h
  unfold XE
  cases hs:Y3 ph cr n a E r with
  | none=>rw[hs]at h;cases h
  | some q =>
   obtain⟨x,E1,r1⟩:=q
   obtain⟨k1,k2⟩:=Zu sim hph n a _ _ _ _ _ ok hs
   rw[hs]at h
   rw[k2]
   cases x with
   | nm=>exact Zu sim hph n b _ _ _ _ _ k1 h
   | ex i=>cases h;exact⟨k1,rfl⟩
   | rt=>cases h;exact⟨k1,rfl⟩
 | .cond c a b=>fun E r ex E' r' ok h=>by
  unfold Y3 at h
  unfold XE
  rw[Yv]at h
  split at h
  ·rename_i t ht
   rw[ht]
   simp only
   split at h
   ·rename_i hb;rw[if_pos hb];exact Zu sim hph n a _ _ _ _ _ ok h
   ·rename_i hb;rw[if_neg hb];exact Zu sim hph n b _ _ _ _ _ ok h
  ·cases h
 | .block id a=>fun E r ex E' r' ok h=>by
  unfold Y3 at h
  unfold XE
  cases hs:Y3 ph cr n a E r with
  | none=>rw[hs]at h;cases h
  | some q =>
   obtain⟨x,E1,r1⟩:=q
   obtain⟨k1,k2⟩:=Zu sim hph n a _ _ _ _ _ ok hs
   rw[hs]at h
   rw[k2]
   cases x with
   | nm=>cases h;exact⟨k1,rfl⟩
   | ex i =>
    simp only at h ⊢
    split at h
    ·rename_i hi;cases h;rw[if_pos hi];exact⟨k1,rfl⟩
    ·rename_i hi;cases h;rw[if_neg hi];exact⟨k1,rfl⟩
   | rt=>cases h;exact⟨k1,rfl⟩
 | .loop keep a=>fun E r ex E' r' ok h=>by
  unfold Y3 at h
  unfold XE
  exact Qcl (Zu sim hph n a) n _ _ _ _ _ ok h
 | .scope a=>fun E r ex E' r' ok h=>by
  unfold Y3 at h
  unfold XE
  exact Zu sim hph n a _ _ _ _ _ ok h
def QgV(E:Env)(r:RH):ARes->Option PV
 | .t n=>(Qdc E n).bind AV.pv
 | .cell a n agg => match Qdc E a with
   | some (.sc (.ptr id off))=>(UX r id off n).bind fun vs=>(YP agg vs).bind AV.pv
   | _=>none
def QdX(E:Env)(r:RH):List ARes->Option (List PV)
 | []=>some []
 | x::rs=>(QgV E r x).bind fun v=>(QdX E r rs).map (v::·)
theorem QdY{E:Env}{r:RH}(o:r.Ok)(x:ARes):QgV E r x=Z8 E r.h x:=by
 cases x with
 | t n=>simp only[QgV,Z8,yN]
 | cell a n agg =>
  simp only[QgV,Z8,yN]
  split <;> simp only[*]
  rw[za o]
theorem QbN{E:Env}{r:RH}(o:r.Ok):∀ xs,QdX E r xs=Zx E r.h xs
 | []=>rfl
 | x::xs=>by unfold QdX Zx;rw[QdY o,QbN o xs]
def JY(rs:List ARes)(E:Env)(h:RH):Option AV :=
 match rs with
 | [r]=>(QgV E h r).map PV.av
 | rs=>(QdX E h rs).map AV.tup
theorem zW{E:Env}{r:RH}(o:r.Ok)(rs:List ARes):JY rs E r=XO rs E r.h:=by
 cases rs with
 | nil=>rfl
 | cons x xs =>
  cases xs with
  | nil=>unfold JY XO;simp only;rw[QdY o]
  | cons y ys=>unfold JY XO;simp only;rw[QbN o]
def Qa8(F:AFun):Qf1->Option (AV×RH)
 | some (.nm,E,h')=>(JY F.res E h').map fun v=>(v,h')
 | some (.rt,E,h')=>(JY F.res E h').map fun v=>(v,h')
 | _=>none
abbrev Qas:=List AV->RH->Option (AV×RH)
def QcF(ph:FuncId->Bool)(FT:zzA)(HR:FuncId->Option Qas):Nat->CR
 | 0=>fun _ _ _=>none
 | n+1=>fun f args h =>
  match HR f with
  | some g=>g args h
  | none =>
   match FT f with
   | none=>none
   | some F=>if args.length=F.np then Qa8 F (Y3 ph (QcF ph FT HR n) n F.body (params 0 args) h) else none
def QmG(HR:FuncId->Option Qas)(HK:zzH):Prop:=∀ f,match HR f with
 | some g=>∃ g',HK f=some g'/\∀ args r v r',r.Ok->g args r=some (v,r')->r'.Ok/\g' args r.h=some (v,r'.h)
 | none=>HK f=none
theorem QcE{ph:FuncId->Bool}{FT:zzA}{HR:FuncId->Option Qas}{HK:zzH}(hs:QmG HR HK)(hp:Qja ph HK):∀ n,VK (QcF ph FT HR n) (X7 FT HK n)
 | 0=>fun f args r v r' ok h=>by cases h
 | n+1=>fun f args r v r' ok h=>by
  have hf:=hs f
  unfold QcF at h
  unfold X7
  cases hg:HR f with
  | some g =>
   rw[hg]at h hf
   obtain⟨g',e1,e2⟩:=hf
   rw[e1]
   exact e2 _ _ _ _ ok h
  | none =>
   rw[hg]at h hf
   rw[show HK f=none from hf]
   simp only at h ⊢
   split at h
   ·cases h
   ·rename_i F hF
    rw[hF]
    simp only
    split at h
    ·rename_i hl
     rw[if_pos hl]
     have hph:∀ f args h r,ph f=true->X7 FT HK n f args h=some r->r.2=h:=fun f args h r hf hr=>by
      obtain⟨g2,hg2,hs2⟩:=hp f hf
      cases n with
      | zero=>simp[X7]at hr
      | succ n =>
       simp only[X7,hg2]at hr
       exact hs2 _ _ _ hr
     cases hx:Y3 ph (QcF ph FT HR n) n F.body (params 0 args) r with
     | none=>rw[hx]at h;cases h
     | some q =>
      obtain⟨x,E1,r1⟩:=q
      obtain⟨k1,k2⟩:=Zu (QcE hs hp n) hph n F.body _ _ _ _ _ ok hx
      rw[hx]at h
      rw[k2]
      cases x with
      | ex i=>cases h
      | nm =>
       simp only[Qa8]at h
       rw[Gc]at h
       obtain⟨u,h1,e⟩:=h;cases e
       rw[zW k1]at h1
       exact⟨k1,by simp only[zr,h1,Gp]⟩
      | rt =>
       simp only[Qa8]at h
       rw[Gc]at h
       obtain⟨u,h1,e⟩:=h;cases e
       rw[zW k1]at h1
       exact⟨k1,by simp only[zr,h1,Gp]⟩
    ·cases h
def Qep(g:Xq):Qas:=fun args r=>(g args []).map fun q=>(q.1,r)
def ccR(T:Nat):Qas:=fun args h=>match args with
 | [.sc (.ptr id 0)] => match yp h id with
   | some (.cells [.nilP,x] true z)=>if z=⟨0,some T⟩ then some (.tup [],QbJ h id (.cells [.ptr id 0,x] true z)) else none
   | some (.cells [.ptr j 0,x] true z)=>if z=⟨0,some T⟩/\j=id then some (.tup [],h) else none
   | _=>none
 | _=>none
theorem Qok{T:Nat}{args:List AV}{r r':RH}{v:AV}(o:r.Ok)(h:ccR T args r=some (v,r')):r'.Ok/\ZR T args r.h=some (v,r'.h):=by
 unfold ccR at h
 unfold ZR
 split at h
 ·split at h
  ·rename_i hg
   split at h
   ·rename_i hz;cases h
    have hg2:=hg
    rw[ZD o]at hg2
    refine⟨Uv o _ _,?_⟩
    simp only[hg2]
    rw[if_pos hz,QaG o (Uw hg)]
   ·cases h
  ·rename_i hg
   split at h
   ·rename_i hz;cases h
    have hg2:=hg
    rw[ZD o]at hg2
    refine⟨o,?_⟩
    simp only[hg2]
    rw[if_pos hz]
   ·cases h
  ·cases h
 ·cases h
