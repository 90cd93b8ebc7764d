import Derived.Test.YtofknpknogfijaaGreatDoorAb47
/- The same reckoning,quicker: an operation that plainly leaves the memory as it is (or lays a block behind it) needs no comparison. -/
namespace Go.Ab
set_option linter.all false
def QfX(ph:FuncId->Bool):AK->Bool
 | .mv _ | .pick _ _ _ | .bin _ _ _ | .un _ _ | .conv _ _ | .len _ _ | .idxA _ _ _ | .fldA _ _ | .ld _ _ _ | .new _ | .ext _ _=>true
 | .call f _=>ph f
 | _=>false
theorem Ya(h:Qa):((h.take h.length==h):Bool)=true:=by rw[GH];exact beq_self_eq_true h
theorem QfW{ph:FuncId->Bool}{cf:CF}(hph:∀ f args h r,ph f=true->cf f args h=some r->r.2=h){E:Env}{h:Qa}{k:AK}{r:Option AV×Qa}(hq:QfX ph k=true)(hr:QX cf E h k=some r):(r.2.take h.length==h)=true:=by
 have same:r.2=h->(r.2.take h.length==h)=true:=fun e=>by rw[e];exact Ya h
 cases k <;> simp only[QfX]at hq <;> try exact absurd hq (by decide)
 case mv x=>simp only[QX,Ql,Ga]at hr;obtain⟨v,-,rfl⟩:=hr;exact Ya h
 case pick c a b =>
  simp only[QX,Ql]at hr
  split at hr
  ·split at hr <;> (rw[Ga]at hr;obtain⟨v,-,rfl⟩:=hr;exact Ya h)
  ·cases hr
 case bin op x y =>
  simp only[QX,Ql,Gd,Ga]at hr
  obtain⟨a,-,b,-,v,-,rfl⟩:=hr;exact Ya h
 case un op x =>
  simp only[QX,Ql,Gd,Ga]at hr
  obtain⟨a,-,v,-,rfl⟩:=hr;exact Ya h
 case conv kd x =>
  simp only[QX,Ql]at hr
  split at hr
  ·cases hr;exact Ya h
  ·cases hr
 case len s x =>
  simp only[QX,Ql,Gd,Ga]at hr
  obtain⟨a,-,v,-,rfl⟩:=hr;exact Ya h
 case idxA z x i =>
  simp only[QX,Ql]at hr
  split at hr
  ·split at hr
   ·cases hr;exact Ya h
   ·cases hr
  ·cases hr
 case fldA o x =>
  simp only[QX,Ql]at hr
  split at hr
  ·cases hr;exact Ya h
  ·cases hr
 case ld n g x =>
  simp only[QX,Ql]at hr
  split at hr
  ·simp only[Gd,Ga]at hr
   obtain⟨a,-,v,-,rfl⟩:=hr;exact Ya h
  ·cases hr
 case new z =>
  simp only[QX,Ql,Option.some.injEq]at hr
  subst hr
  show ((h++_).take h.length==h)=true
  rw[List.take_left];exact beq_self_eq_true h
 case ext x i =>
  simp only[QX,Ql]at hr
  split at hr
  ·rw[Ga]at hr;obtain⟨v,-,rfl⟩:=hr;exact Ya h
  ·cases hr
 case call f args =>
  simp only[QX,Gd,Ga]at hr
  obtain⟨vs,-,q,hq2,rfl⟩:=hr
  exact same (hph f vs h q hq hq2)
def QhF(ph:FuncId->Bool)(HK:zzH):Prop:=∀ f,ph f=true->∃ g,HK f=some g/\∀ args h r,g args h=some r->r.2=h
def QcQ:Env->Nat->Option AV
 | [],_=>none
 | (k,v)::r,t=>bif Nat.beq k t then v else QcQ r t
theorem yC:∀(E:Env) (t:Nat),QcQ E t=E.get t
 | [],_=>rfl
 | (k,v)::r,t=>by
  unfold QcQ Env.get
  rw[yC r t]
  by_cases h:k=t
  ·rw[if_pos h,h,Nat.beq_refl];rfl
  ·rw[if_neg h,show Nat.beq k t=false by cases hb:Nat.beq k t;rfl;exact absurd (Nat.eq_of_beq_eq_true hb) h];rfl
def VQ(E:Env)(ks:List Nat):Env:=ks.map fun t=>(t,QcQ E t)
theorem yB(E:Env)(ks:List Nat):VQ E ks=E.keep ks:=by unfold VQ Env.keep;simp only[yC]
def evQ(E:Env):AO->Option AV
 | .t n=>QcQ E n
 | .k v=>some v
theorem zg(E:Env)(x:AO):evQ E x=ev E x:=by cases x;exact yC _ _;rfl
def ZT(E:Env)(x:AO):Option SV:=match evQ E x with
 | some (.sc v)=>some v
 | _=>none
theorem Yx(E:Env)(x:AO):ZT E x=evS E x:=by unfold ZT evS;rw[zg];rfl
def QgP(E:Env):List AO->Option (List AV)
 | []=>some []
 | x::r=>(evQ E x).bind fun v=>(QgP E r).map (v::·)
theorem QaN(E:Env):∀ xs,QgP E xs=evs E xs
 | []=>rfl
 | x::r=>by unfold QgP evs;rw[zg,QaN E r]
abbrev RH:=Nat×List Blk
def RH.h(r:RH):Qa:=r.2.reverse
def RH.Ok(r:RH):Prop:=r.1=r.2.length
theorem RH.Ok.len{r:RH}(o:r.Ok):r.h.length=r.1:=by unfold RH.h;rw[List.length_reverse];exact o.symm
def yj(r:RH)(id:Nat):Option Blk:=if id<r.1 then r.2[r.1-1-id]? else none
theorem ZC{r:RH}(o:r.Ok)(id:Nat):yj r id=r.h[id]?:=by
 unfold yj RH.h
 unfold RH.Ok at o
 split
 ·rw[List.getElem?_reverse (by omega),o]
 ·rw[Gg (by simp;omega)]
def Qbg(r:RH)(id:Nat)(b:Blk):RH:=(r.1,r.2.set (r.1-1-id) b)
theorem Um{r:RH}(o:r.Ok)(id:Nat)(b:Blk):(Qbg r id b).Ok:=by unfold RH.Ok Qbg at *;simpa using o
theorem Qac{r:RH}(o:r.Ok){id:Nat}(h:id<r.1)(b:Blk):(Qbg r id b).h=r.h.set id b:=by
 unfold RH.h Qbg
 unfold RH.Ok at o
 apply Gr
 intro i
 rcases Gt i r.2.length with hi|hi
 ·rw[List.getElem?_reverse (by simpa using hi),G7,G7,Hb,List.getElem?_reverse hi,List.length_reverse]
  by_cases e:id=i
  ·subst e
   rw[if_pos (by omega),if_pos rfl,if_pos (by omega),if_pos hi]
  ·rw[if_neg (by omega),if_neg e]
 ·rw[Gg (by simpa using hi),Gg (by simpa using hi)]
def JP(r:RH)(b:Blk):RH:=frc (r.1+1) fun m=>(m,b::r.2)
theorem Zq{r:RH}(o:r.Ok)(b:Blk):(JP r b).Ok:=by unfold JP;rw[Yw];unfold RH.Ok at *;simp[o]
theorem ZU(r:RH)(b:Blk):(JP r b).h=r.h++[b]:=by unfold JP;rw[Yw];simp[RH.h]
theorem Un{r:RH}{id:Nat}{b:Blk}(h:yj r id=some b):id<r.1:=by
 unfold yj at h
 split at h
 ·assumption
 ·cases h
def UG(r:RH)(id off n:Nat):Option (List SV):=match yj r id with
 | some (.cells cs _ _)=>cut cs off n
 | _=>none
theorem yT{r:RH}(o:r.Ok)(id off n:Nat):UG r id off n=Q9 r.h id off n:=by unfold UG Q9;rw[ZC o];rfl
def Uk(r:RH)(id off:Nat)(vs:List SV):Option RH:=match yj r id with
 | some (.cells cs true esz)=>if off+vs.length<=cs.length then some (Qbg r id (.cells (Xf cs off vs) true esz)) else none
 | _=>none
theorem UE{r r':RH}(o:r.Ok){id off:Nat}{vs:List SV}(h:Uk r id off vs=some r'):r'.Ok/\Xz r.h id off vs=some r'.h:=by
 unfold Uk at h
 split at h
 ·rename_i cs esz hg
  split at h
  ·rename_i hl
   cases h
   refine⟨Um o _ _,?_⟩
   unfold Xz
   rw[← ZC o,hg]
   simp only
   rw[if_pos hl,Qac o (Un hg)]
  ·cases h
 ·cases h
def rsrc(r:RH)(esz:Nat):SV->Option (Nat×List SV)
 | .nilS=>some (0,[])
 | .slc id off n _=>if n=0 then some (0,[]) else (UG r id off (n*esz)).map (n,·)
 | .str s=>if esz=1 then some (s.size,s.data.toList.map fun b => .int .u8 b.toNat) else none
 | _=>none
theorem Qh4{r:RH}(o:r.Ok)(esz:Nat)(s:SV):rsrc r esz s=XZ r.h esz s:=by
 cases s <;> first|rfl|(simp only[rsrc,XZ];rw[yT o])
def rapp(r:RH)(esz:ESz)(bytes:Nat)(s:SV)(m:Nat)(vs:List SV):Option (SV×RH) :=
 match s with
 | .nilS=>if m=0 then some (.nilS,r) else if m*(bytes+1)<=Yh then some (.slc r.1 0 m none,JP r (.cells vs true esz)) else none
 | .slc id off n cap =>
  if m=0 then some (.slc id off n cap,r) else
  if (n+m)*(bytes+1)<=Yh then
   match yj r id with
   | some (.cells cs rw e) =>
    if e=esz then
     match cut cs off (n*esz.n) with
     | some old =>
      match cap with
      | some c =>
       if c<n+m then some (.slc r.1 0 (n+m) none,JP r (.cells (old++vs) true esz))
       else (Uk r id (off+n*esz.n) vs).map fun h'=>(.slc id off (n+m) (some c),h')
      | none=>if rw=true/\(esz.ty=none∨off=0) then some (.slc r.1 0 (n+m) none,JP (Qbg r id (.dead esz)) (.cells (old++vs) true esz)) else none
     | none=>none
    else none
   | _=>none
  else none
 | _=>none
theorem Qio{r r':RH}(o:r.Ok){esz:ESz}{bytes m:Nat}{s s':SV}{vs:List SV}(h:rapp r esz bytes s m vs=some (s',r')):r'.Ok/\ZG r.h esz bytes s m vs=some (s',r'.h):=by
 have el:=o.len
 unfold rapp at h
 split at h
 ·split at h
  ·rename_i h0;cases h;exact⟨o,by unfold ZG;simp only;rw[if_pos h0]⟩
  ·rename_i h0
   split at h
   ·rename_i h1;cases h
    exact⟨Zq o _,by unfold ZG;simp only;rw[if_neg h0,if_pos h1,ZU,el]⟩
   ·cases h
 ·rename_i id off n cap
  unfold ZG
  simp only
  split at h
  ·rename_i h0;cases h;rw[if_pos h0];exact⟨o,rfl⟩
  ·rename_i h0
   rw[if_neg h0]
   split at h
   ·rename_i h1
    rw[if_pos h1]
    split at h
    ·rename_i cs rw' e hg
     rw[← ZC o,hg]
     simp only
     split at h
     ·rename_i h2
      rw[if_pos h2]
      split at h
      ·rename_i old h3
       rw[h3]
       simp only
       split at h
       ·rename_i c
        simp only
        split at h
        ·rename_i h4;cases h
         rw[if_pos h4,ZU,el];exact⟨Zq o _,rfl⟩
        ·rename_i h4
         rw[if_neg h4]
         rw[Ga]at h
         obtain⟨q,hq,e⟩:=h
         cases e
         obtain⟨k1,k2⟩:=UE o hq
         rw[k2];exact⟨k1,rfl⟩
       ·simp only
        split at h
        ·rename_i h4;cases h
         rw[if_pos h4,ZU,Qac o (Un hg),el]
         exact⟨Zq (Um o _ _) _,rfl⟩
        ·cases h
      ·cases h
     ·cases h
    ·cases h
   ·cases h
 ·cases h
def Qcs(r:RH)(esz:ESz)(lo hi:Nat):SV->Option SV
 | .nilS=>if lo=0/\hi=0 then some .nilS else none
 | .slc id off n cap => match yj r id with
   | some b=>if b.esz=esz/\lo<=hi/\hi<=n then some (.slc id (off+lo*esz.n) (hi-lo) (cap.map (· - lo))) else none
   | _=>none
 | _=>none
theorem Qex{r:RH}(o:r.Ok)(esz:ESz)(lo hi:Nat)(s:SV):Qcs r esz lo hi s=YC r.h esz lo hi s:=by
 cases s <;> first|rfl|(simp only[Qcs,YC];rw[ZC o];rfl)
abbrev CR:=FuncId->List AV->RH->Option (AV×RH)
def Vl(cr:CR)(cf:CF):Prop:=∀ f args r v r',r.Ok->cr f args r=some (v,r')->r'.Ok/\cf f args r.h=some (v,r'.h)
def Qaj:AK->Bool
 | .mm _ _ _ | .bld _ _ | .ext _ _ | .mkf _ _ | .nilc _ | .isnil _ _ _ | .beq _ _ _ | .seq2 _ _ _ | .idxS _ _ | .car _ _ _ _ | .sl1 _ _ _ | .usd _=>true
 | _=>false
theorem QeL{cf:CF}{E:Env}{k:AK}(hp:Qaj k=true){h:Qa}{v:Option AV}{h2:Qa}(hr:Ql E [] k=some (v,h2)):QX cf E h k=some (v,h):=by
 cases k <;> simp only[Qaj]at hp <;> try exact absurd hp (by decide)
 all_goals simp only[Ql,QX]at hr ⊢
 case mm=>simp only[Gd,Ga]at hr ⊢;obtain⟨a,h1,b,h2,c,h3,e⟩:=hr;cases e;exact⟨a,h1,b,h2,c,h3,rfl⟩
 case bld=>simp only[Gd,Ga]at hr ⊢;obtain⟨a,h1,b,h2,e⟩:=hr;cases e;exact⟨a,h1,b,h2,rfl⟩
 case isnil=>simp only[Gd,Ga]at hr ⊢;obtain⟨a,h1,b,h2,e⟩:=hr;cases e;exact⟨a,h1,b,h2,rfl⟩
 case mkf=>simp only[Gd,Ga]at hr ⊢;obtain⟨a,h1,b,h2,e⟩:=hr;cases e;exact⟨a,h1,b,h2,rfl⟩
 case sl1=>simp only[Gd,Ga]at hr ⊢;obtain⟨a,h1,b,h2,c,h3,d,h4,f,h5,e⟩:=hr;cases e;exact⟨a,h1,b,h2,c,h3,d,h4,f,h5,rfl⟩
 case idxS x i =>
  split at hr
  ·rename_i s kd j e1 e2
   split at hr
   ·rename_i hj
    rw[Ga]at hr
    obtain⟨b,h1,e⟩:=hr
    cases e
    rw[if_pos hj,h1];rfl
   ·cases hr
  ·cases hr
 all_goals repeat' split at hr
 all_goals first
  | (cases hr;done)
  | (simp only[Gd,Ga]at hr ⊢;obtain⟨a,h1,b,h2,e⟩:=hr;cases e;exact⟨a,h1,b,h2,rfl⟩)
  | (simp only[Ga]at hr ⊢;obtain⟨a,h1,e⟩:=hr;cases e;exact⟨a,h1,rfl⟩)
  | (cases hr;simp only[*,and_self,if_true,if_false];done)
  | (cases hr;rfl)
  | (cases hr;simp[*];done)
def opR(cr:CR)(E:Env)(r:RH)(k:AK):Option (Option AV×RH):=match k with
 | .mv x=>(evQ E x).map fun v=>(some v,r)
 | .pick c a b => match ZT E c with
   | some (.bool t)=>if t=true then (evQ E a).map fun v=>(some v,r) else (evQ E b).map fun v=>(some v,r)
   | _=>none
 | .bin op x y=>(ZT E x).bind fun a=>(ZT E y).bind fun b=>(Je op a b).map fun v=>(some (.sc v),r)
 | .un op x=>(ZT E x).bind fun a=>(unS op a).map fun v=>(some (.sc v),r)
 | .conv k x => match ZT E x with
   | some (.int _ n)=>some (some (.sc (Yg k n)),r)
   | _=>none
 | .len s x=>(ZT E x).bind fun a=>(Yv s a).map fun n=>(some (.sc (.int .i64 n)),r)
 | .idxA esz x i => match ZT E x, ZT E i with
   | some (.slc id off n _),some (.int _ j)=>if 0<=j/\j<n then some (some (.sc (.ptr id (off+j.toNat*esz))),r) else none
   | _,_=>none
 | .fldA off x => match ZT E x with
   | some (.ptr id o)=>some (some (.sc (.ptr id (o+off))),r)
   | _=>none
 | .ld n g x => match ZT E x with
   | some (.ptr id off)=>(UG r id off n).bind fun vs=>(YU g vs).map fun v=>(some v,r)
   | _=>none
 | .st n a x => match ZT E a with
   | some (.ptr id off)=>(evQ E x).bind fun v=>v.cells.bind fun vs=>if vs.length=n then (Uk r id off vs).map fun h'=>(none,h') else none
   | _=>none
 | .new z=>some (some (.sc (.ptr r.1 0)),JP r (.cells z true 0))
 | .box x=>(evQ E x).bind fun v=>v.cells.map fun vs=>(some (.sc (.ptr r.1 0)),JP r (.cells vs true 0))
 | .newT t z=>some (some (.sc (.ptr r.1 0)),JP r (.cells z true ⟨0,some t⟩))
 | .bsl esz zero len parts=>if len*esz.n<=16777216 then
   (Yk E (parts.map fun p=>(p.1*esz.n,esz.n,p.2))).bind fun ps=>(ZA (rep zero len) ps).map fun cs=>(some (.sc (.slc r.1 0 len (some len))),JP r (.cells cs true esz))
  else none
 | .mk esz bytes zero l c => match ZT E l, ZT E c with
   | some (.int _ n),some (.int _ m)=>if 0<=n/\n<=m/\m*(bytes+1:Nat)<=Yh then
    some (some (.sc (.slc r.1 0 n.toNat (some m.toNat))),JP r (.cells (rep zero m.toNat) true esz)) else none
   | _,_=>none
 | .sl esz x lo hi=>(ZT E x).bind fun v=>(Yv false v).bind fun n=>(bnd E 0 lo).bind fun l=>(bnd E n.toNat hi).bind fun u=>(Qcs r esz l u v).map fun s=>(some (.sc s),r)
 | .app esz bytes _ x y=>(ZT E x).bind fun s=>(ZT E y).bind fun t=>(rsrc r esz.n t).bind fun p=>(rapp r esz bytes s p.1 p.2).map fun q=>(some (.sc q.1),q.2)
 | .ustr t x n => match ZT E x, ZT E n with
   | some (.ptr id 0), some (.int .i64 m) => match yj r id with
     | some (.cells cs true z)=>if 0<m/\m<=9223372036854775807/\z=⟨1,some t⟩ then (cut cs 0 m.toNat).bind fun vs=>(Z4 vs).map fun l=>(some (.sc (.str ⟨l.toArray⟩)),Qbg r id (.cells cs false z)) else none
     | _=>none
   | some .nilP,some (.int .i64 m)=>if m=0 then some (some (.sc (.str .empty)),r) else none
   | _,_=>none
 | .call f args=>(QgP E args).bind fun vs=>(cr f vs r).map fun q=>(some q.1,q.2)
 | .callv x args => match ZT E x with
   | some (.fn f caps)=>(QgP E args).bind fun vs=>(cr f (vs++caps.map fun p=>AV.sc (.ptr p.1 p.2)) r).map fun q=>(some q.1,q.2)
   | _=>none
 | k=>if Qaj k then (Ql E [] k).map fun q=>(q.1,r) else none
theorem QkS{cr:CR}{cf:CF}(sim:Vl cr cf){E:Env}{r:RH}(o:r.Ok){k:AK}{v:Option AV}{r':RH}(h:opR cr E r k=some (v,r')):r'.Ok/\QX cf E r.h k=some (v,r'.h):=by
 have el:=o.len
 have gen:(if Qaj k then (Ql E [] k).map fun q=>(q.1,r) else none)=some (v,r')->r'.Ok/\QX cf E r.h k=some (v,r'.h):=fun h=>by
  split at h
  ·rename_i hp
   rw[Ga]at h
   obtain⟨⟨v2,h2⟩,e1,e2⟩:=h
   cases e2
   exact⟨o,QeL hp e1⟩
  ·cases h
 cases k
 case mv x =>
  simp only[opR,zg,Ga]at h
  obtain⟨a,h1,e⟩:=h;cases e
  exact⟨o,by simp only[QX,Ql,h1,Gm]⟩
 case pick c a b =>
  simp only[opR,zg,Yx]at h
  split at h
  ·rename_i t ht
   split at h
   ·rename_i hb
    rw[Ga]at h;obtain⟨a,h1,e⟩:=h;cases e
    exact⟨o,by simp only[QX,Ql,ht];rw[if_pos hb,h1];rfl⟩
   ·rename_i hb
    rw[Ga]at h;obtain⟨a,h1,e⟩:=h;cases e
    exact⟨o,by simp only[QX,Ql,ht];rw[if_neg hb,h1];rfl⟩
  ·cases h
 case bin op x y =>
  simp only[opR,Yx,Gd,Ga]at h
  obtain⟨a,h1,b,h2,c,h3,e⟩:=h;cases e
  exact⟨o,by simp only[QX,Ql,h1,h2,h3,Gi,Gm]⟩
 case un op x =>
  simp only[opR,Yx,Gd,Ga]at h
  obtain⟨a,h1,c,h3,e⟩:=h;cases e
  exact⟨o,by simp only[QX,Ql,h1,h3,Gi,Gm]⟩
 case conv kd x =>
  simp only[opR,Yx]at h
  split at h
  ·rename_i h1;cases h
   exact⟨o,by simp only[QX,Ql,h1]⟩
  ·cases h
 case len s x =>
  simp only[opR,Yx,Gd,Ga]at h
  obtain⟨a,h1,c,h3,e⟩:=h;cases e
  exact⟨o,by simp only[QX,Ql,h1,h3,Gi,Gm]⟩
 case idxA esz x i =>
  simp only[opR,Yx]at h
  split at h
  ·rename_i h1 h2
   split at h
   ·rename_i h3;cases h
    exact⟨o,by simp only[QX,Ql,h1,h2];rw[if_pos h3]⟩
   ·cases h
  ·cases h
 case fldA off x =>
  simp only[opR,Yx]at h
  split at h
  ·rename_i h1;cases h
   exact⟨o,by simp only[QX,Ql,h1]⟩
  ·cases h
 case ld n g x =>
  simp only[opR,Yx]at h
  split at h
  ·rename_i h1
   simp only[Gd,Ga]at h
   obtain⟨a,h2,c,h3,e⟩:=h;cases e
   rw[yT o]at h2
   exact⟨o,by simp only[QX,Ql,h1,h2,h3,Gi,Gm]⟩
  ·cases h
 case st n a x =>
  simp only[opR,Yx,zg]at h
  split at h
  ·rename_i h1
   simp only[Gd]at h
   obtain⟨a,h2,c,h3,h4⟩:=h
   split at h4
   ·rename_i h5
    rw[Ga]at h4
    obtain⟨q,h6,e⟩:=h4;cases e
    obtain⟨k1,k2⟩:=UE o h6
    exact⟨k1,by simp only[QX,Ql,h1,h2,h3,Gi];rw[if_pos h5,k2];rfl⟩
   ·cases h4
  ·cases h
 case new z =>
  simp only[opR,Option.some.injEq,Prod.mk.injEq]at h
  obtain⟨rfl,rfl⟩:=h
  exact⟨Zq o _,by simp only[QX,Ql];rw[ZU,el]⟩
 case newT t z =>
  simp only[opR,Option.some.injEq,Prod.mk.injEq]at h
  obtain⟨rfl,rfl⟩:=h
  exact⟨Zq o _,by simp only[QX,Ql];rw[ZU,el]⟩
 case box x =>
  simp only[opR,zg,Gd,Ga]at h
  obtain⟨a,h1,b,h2,e⟩:=h;cases e
  exact⟨Zq o _,by simp only[QX,Ql,h1,h2,Gi,Gm];rw[ZU,el]⟩
 case bsl esz zero len parts =>
  simp only[opR]at h
  split at h
  ·rename_i h0
   simp only[Gd,Ga]at h
   obtain⟨a,h1,b,h2,e⟩:=h;cases e
   exact⟨Zq o _,by simp only[QX,Ql];rw[if_pos h0];simp only[h1,h2,Gi,Gm];rw[ZU,el]⟩
  ·cases h
 case mk esz bytes zero l c =>
  simp only[opR,Yx]at h
  split at h
  ·rename_i h1 h2
   split at h
   ·rename_i h3;cases h
    exact⟨Zq o _,by simp only[QX,Ql,h1,h2];rw[if_pos h3,ZU,el]⟩
   ·cases h
  ·cases h
 case sl esz x lo hi =>
  simp only[opR,Yx,Gd,Ga]at h
  obtain⟨a,h1,b,h2,c,h3,d,h4,f,h5,e⟩:=h;cases e
  rw[Qex o]at h5
  exact⟨o,by simp only[QX,Ql,h1,h2,h3,h4,h5,Gi,Gm]⟩
 case app esz bytes z x y =>
  simp only[opR,Yx,Gd,Ga]at h
  obtain⟨a,h1,b,h2,c,h3,⟨s',r2⟩,h5,e⟩:=h;cases e
  rw[Qh4 o]at h3
  obtain⟨k1,k2⟩:=Qio o h5
  exact⟨k1,by simp only[QX,Ql,h1,h2,h3,Gi];rw[k2];rfl⟩
 case ustr t x n =>
  simp only[opR,Yx]at h
  split at h
  ·rename_i id m h1 h2
   split at h
   ·rename_i cs z hg
    split at h
    ·rename_i h3
     simp only[Gd,Ga]at h
     obtain⟨a,h4,b,h5,e⟩:=h;cases e
     refine⟨Um o _ _,?_⟩
     have hg2:=hg
     rw[ZC o]at hg2
     simp only[QX,Ql,h1,h2,hg2]
     rw[if_pos h3,h4,Gi,h5,Qac o (Un hg)];rfl
    ·cases h
   ·cases h
  ·rename_i m h1 h2
   split at h
   ·rename_i h3;cases h
    exact⟨o,by simp only[QX,Ql,h1,h2];rw[if_pos h3]⟩
   ·cases h
  ·cases h
 case call f args =>
  simp only[opR,QaN,Gd,Ga]at h
  obtain⟨a,h1,⟨q1,q2⟩,h2,e⟩:=h;cases e
  obtain⟨k1,k2⟩:=sim _ _ _ _ _ o h2
  exact⟨k1,by simp only[QX,h1,Gi,k2,Gm]⟩
 case callv x args =>
  simp only[opR,Yx,QaN]at h
  split at h
  ·rename_i h0
   simp only[Gd,Ga]at h
   obtain⟨a,h1,⟨q1,q2⟩,h2,e⟩:=h;cases e
   obtain⟨k1,k2⟩:=sim _ _ _ _ _ o h2
   exact⟨k1,by simp only[QX,h0,h1,Gi,k2,Gm]⟩
  ·cases h
 all_goals exact gen h
def qP(cr:CR)(o:AOp)(E:Env)(r:RH):Option (Env×RH) :=
 match Yn E o.guard with
 | some true=>(opR cr E r o.k).map fun q=>(Qw o.dst q.1 E,q.2)
 | some false=>some (Qw o.dst (some (.tup [])) E,r)
 | none=>none
theorem yS{cr:CR}{cf:CF}(sim:Vl cr cf){o:AOp}{E E':Env}{r r':RH}(ok:r.Ok)(h:qP cr o E r=some (E',r')):r'.Ok/\Yz cf o E r.h=some (E',r'.h):=by
 unfold qP at h
 unfold Yz
 split at h
 ·rename_i hw
  rw[hw]
  rw[Ga]at h
  obtain⟨⟨v,q⟩,h1,e⟩:=h;cases e
  obtain⟨k1,k2⟩:=QkS sim ok h1
  exact⟨k1,by simp only[k2,Gm]⟩
 ·rename_i hw
  rw[hw];cases h
  exact⟨ok,rfl⟩
 ·cases h
def Ul(cr:CR):List AOp->Env->RH->Option (Env×RH)
 | [],E,r=>some (E,r)
 | o :: rs, E, r => match qP cr o E r with
   | some (E',r')=>Ul cr rs E' r'
   | none=>none
theorem UF{cr:CR}{cf:CF}(sim:Vl cr cf):∀ {ops:List AOp} {E E':Env} {r r':RH},r.Ok->Ul cr ops E r=some (E',r')->r'.Ok/\Zt cf ops E r.h=some (E',r'.h)
 | [],E,E',r,r',ok,h=>by cases h;exact⟨ok,rfl⟩
 | o::rs,E,E',r,r',ok,h=>by
  unfold Ul at h
  split at h
  ·rename_i E1 r1 h1
   obtain⟨k1,k2⟩:=yS sim ok h1
   unfold Zt
   rw[k2]
   exact UF sim k1 h
  ·cases h
def Qdn(r' r:RH):Bool:=decide (r.1<=r'.1)&&decide (r'.2.drop (r'.1-r.1)=r.2)
theorem Qa8{r r':RH}(o:r.Ok)(o':r'.Ok)(h:Qdn r' r=true):(r'.h.take r.h.length==r.h)=true:=by
 unfold Qdn at h
 rw[Bool.and_eq_true,decide_eq_true_iff,decide_eq_true_iff]at h
 have e:r'.h.take r.h.length=r.h:=by
  unfold RH.Ok at o o'
  unfold RH.h
  rw[List.length_reverse,List.take_reverse,← o,← o',h.2]
 rw[e];exact beq_self_eq_true _
def yi(ph:FuncId->Bool)(cr:CR):List (AOp×Bool)->Env->RH->Option (Env×RH)
 | [],E,r=>some (E,r)
 | (o, ord) :: rs, E, r => match qP cr o E r with
   | some (E',r')=>if ord || QfX ph o.k || Qdn r' r then yi ph cr rs E' r' else none
   | none=>none
theorem zJ{ph:FuncId->Bool}{cr:CR}{cf:CF}(sim:Vl cr cf)(hph:∀ f args h r,ph f=true->cf f args h=some r->r.2=h):∀ {ops:List (AOp×Bool)} {E E':Env} {r r':RH},r.Ok->yi ph cr ops E r=some (E',r')->r'.Ok/\Zm cf ops E r.h=some (E',r'.h)
 | [],E,E',r,r',ok,h=>by cases h;exact⟨ok,rfl⟩
 | (o,ord)::rs,E,E',r,r',ok,h=>by
  unfold yi at h
  split at h
  ·rename_i E1 r1 h1
   obtain⟨k1,k2⟩:=yS sim ok h1
   split at h
   ·rename_i hc
    unfold Zm
    rw[k2]
    have hc2:(ord || r1.h.take r.h.length==r.h)=true:=by
     rw[Bool.or_eq_true,Bool.or_eq_true]at hc
     rw[Bool.or_eq_true]
     rcases hc with (hc|hc)|hc
     ·exact .inl hc
     ·refine .inr ?_
      unfold Yz at k2
      split at k2
      ·rw[Ga]at k2
       obtain⟨q,hq2,e⟩:=k2
       have:=QfW hph hc hq2
       have e2:q.2=r1.h:=congrArg Prod.snd e
       rw[← e2]
       exact this
      ·simp only[Option.some.injEq,Prod.mk.injEq]at k2
       rw[← k2.2];exact Ya _
      ·cases k2
     ·exact .inr (Qa8 ok k1 hc)
    simp only
    rw[if_pos hc2]
    exact zJ sim hph k1 h
   ·cases h
  ·cases h
def Qax(cr:CR):List (AOp×Nat×Bool)->Env->RH->List Nat
 | [],_,_=>[]
 | (o, _, ord) :: rs, E, r => match qP cr o E r with
   | some (E',r')=>ldL (ldX E ord o.k)++Qax cr rs E' r'
   | none=>[]
def QaX(cr:CR)(fr:List Nat):List (AOp×Nat×Bool)->Env->RH->List Nat
 | [],_,_=>[]
 | (o, i, _) :: rs, E, r => match qP cr o E r with
   | some (E',r')=>(if fr.contains (1000+i) then List.range' r.1 (r'.1-r.1) else [])++QaX cr fr rs E' r'
   | none=>[]
def yh(cr:CR)(S A fr:List Nat):List (AOp×Nat×Bool)->Env->RH->Option (Env×RH)
 | [],E,r=>some (E,r)
 | (o, i, ord) :: rs, E, r => match qP cr o E r with
   | some (E',r')=>if (ord || Qdn r' r)&&((fr.contains i || (S.all (fun id=>yj r' id==yj r id)&&A.all (fun id=>decide (r.1<=id) || yj r' id==yj r id)))&&QiQ S (ldX E ord o.k)) then yh cr S A fr rs E' r' else none
   | none=>none
theorem zI{cr:CR}{cf:CF}(sim:Vl cr cf){S A fr:List Nat}:∀ {ops:List (AOp×Nat×Bool)} {E E':Env} {r r':RH},r.Ok->yh cr S A fr ops E r=some (E',r') ->
  r'.Ok/\YS cf S A fr ops E r.h=some (E',r'.h)/\Qax cr ops E r=zU cf ops E r.h/\QaX cr fr ops E r=qK cf fr ops E r.h
 | [],E,E',r,r',ok,h=>by cases h;exact⟨ok,rfl,rfl,rfl⟩
 | (o,i,ord)::rs,E,E',r,r',ok,h=>by
  unfold yh at h
  split at h
  ·rename_i E1 r1 h1
   obtain⟨k1,k2⟩:=yS sim ok h1
   split at h
   ·rename_i hc
    obtain⟨j1,j2,j3,j4⟩:=zI sim k1 h
    refine⟨j1,?_,?_,?_⟩
    ·unfold YS
     rw[k2]
     simp only
     rw[if_pos ?_]
     ·exact j2
     ·simp only[ZC ok,ZC k1]at hc
      rw[← ok.len]at hc
      rw[Bool.and_eq_true,Bool.or_eq_true]at hc
      rw[Bool.and_eq_true,Bool.or_eq_true]
      exact⟨hc.1.imp id fun h=>Qa8 ok k1 h,hc.2⟩
    ·unfold Qax zU
     rw[h1,k2]
     simp only
     rw[j3]
    ·unfold QaX qK
     rw[h1,k2]
     simp only
     rw[j4,ok.len,k1.len]
   ·cases h
  ·cases h
abbrev Qfi:=Option (Ex×Env×RH)
def QdZ(keep:List Nat)(step:Env->RH->Qfi):Nat->Env->RH->Qfi
 | 0,_,_=>none
 | n + 1, E, r => match step (VQ E keep) r with
   | some (.nm,E',r')=>QdZ keep step n E' r'
   | q=>q
def Y5(ph:FuncId->Bool)(cr:CR)(n:Nat):AC->Env->RH->Qfi
 | .skip,E,h=>some (.nm,E,h)
 | .ret,E,h=>some (.rt,E,h)
 | .exit id,E,h=>some (.ex id,E,h)
 | .reg ops keep,E,h=>(Ul cr ops E h).map fun r=>(.nm,VQ r.1 keep,r.2)
 | .regd ops keep,E,h=>(yi ph cr (ops.map fun p=>(p.1,p.2.2)) E h).map fun r=>(.nm,VQ r.1 keep,r.2)
 | .regs ops fr keep,E,h=>(yh cr (Qax cr ops E h) (QaX cr fr ops E h) fr ops E h).map fun r=>(.nm,VQ r.1 keep,r.2)
 | .seq a b, E, h => match Y5 ph cr n a E h with
   | some (.nm,E',h')=>Y5 ph cr n b E' h'
   | r=>r
 | .cond c a b, E, h => match ZT E c with
   | some (.bool t)=>if t=true then Y5 ph cr n a E h else Y5 ph cr n b E h
   | _=>none
 | .block id a, E, h => match Y5 ph cr n a E h with
   | some (.ex i,E',h')=>if i=id then some (.nm,E',h') else some (.ex i,E',h')
   | r=>r
 | .loop keep a,E,h=>QdZ keep (Y5 ph cr n a) n E h
 | .scope a,E,h=>Y5 ph cr n a E h
def SimX(fR:Env->RH->Qfi)(f:Env->Qa->Out):Prop:=∀ E r ex E' r',r.Ok->fR E r=some (ex,E',r')->r'.Ok/\f E r.h=some (ex,E',r'.h)
theorem QbL{keep:List Nat}{sR:Env->RH->Qfi}{s:Env->Qa->Out}(sim:SimX sR s):∀ n,SimX (QdZ keep sR n) (qB keep s n)
 | 0=>fun E r ex E' r' ok h=>by cases h
 | n+1=>fun E r ex E' r' ok h=>by
  unfold QdZ at h
  unfold qB
  rw[yB]at h
  cases hs:sR (E.keep keep) r with
  | none=>rw[hs]at h;cases h
  | some q =>
   obtain⟨x,E1,r1⟩:=q
   obtain⟨k1,k2⟩:=sim _ _ _ _ _ ok hs
   rw[hs]at h
   rw[k2]
   cases x with
   | nm=>exact QbL sim n _ _ _ _ _ k1 h
   | ex i=>cases h;exact⟨k1,rfl⟩
   | rt=>cases h;exact⟨k1,rfl⟩
theorem Zs{ph:FuncId->Bool}{cr:CR}{cf:CF}(sim:Vl cr cf)(hph:∀ f args h r,ph f=true->cf f args h=some r->r.2=h)(n:Nat):∀ c:AC,SimX (Y5 ph cr n c) (XD cf n c)
 | .skip=>fun E r ex E' r' ok h=>by cases h;exact⟨ok,rfl⟩
 | .ret=>fun E r ex E' r' ok h=>by cases h;exact⟨ok,rfl⟩
 | .exit id=>fun E r ex E' r' ok h=>by cases h;exact⟨ok,rfl⟩
 | .reg ops keep=>fun E r ex E' r' ok h=>by
  unfold Y5 at h
  rw[Ga]at h
  obtain⟨⟨E1,r1⟩,h1,e⟩:=h
  cases e
  obtain⟨k1,k2⟩:=UF sim ok h1
  exact⟨k1,by unfold XD;rw[k2,yB];rfl⟩
 | .regd ops keep=>fun E r ex E' r' ok h=>by
  unfold Y5 at h
  rw[Ga]at h
  obtain⟨⟨E1,r1⟩,h1,e⟩:=h
  cases e
  obtain⟨k1,k2⟩:=zJ sim hph ok h1
  exact⟨k1,by unfold XD;rw[k2,yB];rfl⟩
 | .regs ops fr keep=>fun E r ex E' r' ok h=>by
  unfold Y5 at h
  rw[Ga]at h
  obtain⟨⟨E1,r1⟩,h1,e⟩:=h
  cases e
  obtain⟨k1,k2,k3,k4⟩:=zI sim ok h1
  rw[k3,k4]at k2
  exact⟨k1,by unfold XD;rw[k2,yB];rfl⟩
 | .seq a b=>fun E r ex E' r' ok h=>by
  unfold Y5 at h
  unfold XD
  cases hs:Y5 ph cr n a E r with
  | none=>rw[hs]at h;cases h
  | some q =>
   obtain⟨x,E1,r1⟩:=q
   obtain⟨k1,k2⟩:=Zs sim hph n a _ _ _ _ _ ok hs
   rw[hs]at h
   rw[k2]
   cases x with
   | nm=>exact Zs sim hph n b _ _ _ _ _ k1 h
   | ex i=>cases h;exact⟨k1,rfl⟩
   | rt=>cases h;exact⟨k1,rfl⟩
 | .cond c a b=>fun E r ex E' r' ok h=>by
  unfold Y5 at h
  unfold XD
  rw[Yx]at h
  split at h
  ·rename_i t ht
   rw[ht]
   simp only
   split at h
   ·rename_i hb;rw[if_pos hb];exact Zs sim hph n a _ _ _ _ _ ok h
   ·rename_i hb;rw[if_neg hb];exact Zs sim hph n b _ _ _ _ _ ok h
  ·cases h
 | .block id a=>fun E r ex E' r' ok h=>by
  unfold Y5 at h
  unfold XD
  cases hs:Y5 ph cr n a E r with
  | none=>rw[hs]at h;cases h
  | some q =>
   obtain⟨x,E1,r1⟩:=q
   obtain⟨k1,k2⟩:=Zs sim hph n a _ _ _ _ _ ok hs
   rw[hs]at h
   rw[k2]
   cases x with
   | nm=>cases h;exact⟨k1,rfl⟩
   | ex i =>
    simp only at h ⊢
    split at h
    ·rename_i hi;cases h;rw[if_pos hi];exact⟨k1,rfl⟩
    ·rename_i hi;cases h;rw[if_neg hi];exact⟨k1,rfl⟩
   | rt=>cases h;exact⟨k1,rfl⟩
 | .loop keep a=>fun E r ex E' r' ok h=>by
  unfold Y5 at h
  unfold XD
  exact QbL (Zs sim hph n a) n _ _ _ _ _ ok h
 | .scope a=>fun E r ex E' r' ok h=>by
  unfold Y5 at h
  unfold XD
  exact Zs sim hph n a _ _ _ _ _ ok h
def QfT(E:Env)(r:RH):ARes->Option PV
 | .t n=>(QcQ E n).bind AV.pv
 | .cell a n agg => match QcQ E a with
   | some (.sc (.ptr id off))=>(UG r id off n).bind fun vs=>(YU agg vs).bind AV.pv
   | _=>none
def Qdt(E:Env)(r:RH):List ARes->Option (List PV)
 | []=>some []
 | x::rs=>(QfT E r x).bind fun v=>(Qdt E r rs).map (v::·)
theorem Qdu{E:Env}{r:RH}(o:r.Ok)(x:ARes):QfT E r x=Z6 E r.h x:=by
 cases x with
 | t n=>simp only[QfT,Z6,yC]
 | cell a n agg =>
  simp only[QfT,Z6,yC]
  split <;> simp only[*]
  rw[yT o]
theorem Qbj{E:Env}{r:RH}(o:r.Ok):∀ xs,Qdt E r xs=Zu E r.h xs
 | []=>rfl
 | x::xs=>by unfold Qdt Zu;rw[Qdu o,Qbj o xs]
def JX(rs:List ARes)(E:Env)(h:RH):Option AV :=
 match rs with
 | [r]=>(QfT E h r).map PV.av
 | rs=>(Qdt E h rs).map AV.tup
theorem zM{E:Env}{r:RH}(o:r.Ok)(rs:List ARes):JX rs E r=XK rs E r.h:=by
 cases rs with
 | nil=>rfl
 | cons x xs =>
  cases xs with
  | nil=>unfold JX XK;simp only;rw[Qdu o]
  | cons y ys=>unfold JX XK;simp only;rw[Qbj o]
def QaL(F:AFun):Qfi->Option (AV×RH)
 | some (.nm,E,h')=>(JX F.res E h').map fun v=>(v,h')
 | some (.rt,E,h')=>(JX F.res E h').map fun v=>(v,h')
 | _=>none
abbrev VY:=List AV->RH->Option (AV×RH)
def Qcd(ph:FuncId->Bool)(FT:zzA)(HR:FuncId->Option VY):Nat->CR
 | 0=>fun _ _ _=>none
 | n+1=>fun f args h =>
  match HR f with
  | some g=>g args h
  | none =>
   match FT f with
   | none=>none
   | some F=>if args.length=F.np then QaL F (Y5 ph (Qcd ph FT HR n) n F.body (params 0 args) h) else none
def Qka(HR:FuncId->Option VY)(HK:zzH):Prop:=∀ f,match HR f with
 | some g=>∃ g',HK f=some g'/\∀ args r v r',r.Ok->g args r=some (v,r')->r'.Ok/\g' args r.h=some (v,r'.h)
 | none=>HK f=none
theorem Qcc{ph:FuncId->Bool}{FT:zzA}{HR:FuncId->Option VY}{HK:zzH}(hs:Qka HR HK)(hp:QhF ph HK):∀ n,Vl (Qcd ph FT HR n) (X6 FT HK n)
 | 0=>fun f args r v r' ok h=>by cases h
 | n+1=>fun f args r v r' ok h=>by
  have hf:=hs f
  unfold Qcd at h
  unfold X6
  cases hg:HR f with
  | some g =>
   rw[hg]at h hf
   obtain⟨g',e1,e2⟩:=hf
   rw[e1]
   exact e2 _ _ _ _ ok h
  | none =>
   rw[hg]at h hf
   rw[show HK f=none from hf]
   simp only at h ⊢
   split at h
   ·cases h
   ·rename_i F hF
    rw[hF]
    simp only
    split at h
    ·rename_i hl
     rw[if_pos hl]
     have hph:∀ f args h r,ph f=true->X6 FT HK n f args h=some r->r.2=h:=fun f args h r hf hr=>by
      obtain⟨g2,hg2,hs2⟩:=hp f hf
      cases n with
      | zero=>simp[X6]at hr
      | succ n =>
       simp only[X6,hg2]at hr
       exact hs2 _ _ _ hr
     cases hx:Y5 ph (Qcd ph FT HR n) n F.body (params 0 args) r with
     | none=>rw[hx]at h;cases h
     | some q =>
      obtain⟨x,E1,r1⟩:=q
      obtain⟨k1,k2⟩:=Zs (Qcc hs hp n) hph n F.body _ _ _ _ _ ok hx
      rw[hx]at h
      rw[k2]
      cases x with
      | ex i=>cases h
      | nm =>
       simp only[QaL]at h
       rw[Ga]at h
       obtain⟨u,h1,e⟩:=h;cases e
       rw[zM k1]at h1
       exact⟨k1,by simp only[y8,h1,Gm]⟩
      | rt =>
       simp only[QaL]at h
       rw[Ga]at h
       obtain⟨u,h1,e⟩:=h;cases e
       rw[zM k1]at h1
       exact⟨k1,by simp only[y8,h1,Gm]⟩
    ·cases h
def QdR(g:Xq):VY:=fun args r=>(g args []).map fun q=>(q.1,r)
def ccR(T:Nat):VY:=fun args h=>match args with
 | [.sc (.ptr id 0)] => match yj h id with
   | some (.cells [.nilP,x] true z)=>if z=⟨0,some T⟩ then some (.tup [],Qbg h id (.cells [.ptr id 0,x] true z)) else none
   | some (.cells [.ptr j 0,x] true z)=>if z=⟨0,some T⟩/\j=id then some (.tup [],h) else none
   | _=>none
 | _=>none
theorem Qlo{T:Nat}{args:List AV}{r r':RH}{v:AV}(o:r.Ok)(h:ccR T args r=some (v,r')):r'.Ok/\yb T args r.h=some (v,r'.h):=by
 unfold ccR at h
 unfold yb
 split at h
 ·split at h
  ·rename_i hg
   split at h
   ·rename_i hz;cases h
    have hg2:=hg
    rw[ZC o]at hg2
    refine⟨Um o _ _,?_⟩
    simp only[hg2]
    rw[if_pos hz,Qac o (Un hg)]
   ·cases h
  ·rename_i hg
   split at h
   ·rename_i hz;cases h
    have hg2:=hg
    rw[ZC o]at hg2
    refine⟨o,?_⟩
    simp only[hg2]
    rw[if_pos hz]
   ·cases h
  ·cases h
 ·cases h
