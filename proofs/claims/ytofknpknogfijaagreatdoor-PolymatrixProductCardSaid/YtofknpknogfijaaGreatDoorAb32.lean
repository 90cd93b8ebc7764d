import Derived.Test.YtofknpknogfijaaGreatDoorAb29
import Derived.Lib.AtoiAll
import Derived.Lib.AtoiAllCases
import Derived.Lib.ItoaNum
import Derived.Lib.Split
import Derived.Lib.SplitLaws
import Derived.Lib.LaidTab
import Derived.Lib.SmallJoins
import Derived.Lib.Join
import Derived.Lib.SpaceU
import Derived.Sort.Grow
import Derived.Stop.LaidErr
import Derived.LaidLaws
import Derived.FnData
/- Contracts of the library that read package variables (which hold what they held at first) or lay new rows: strings.Cut,Split,Fields,Join,strconv.Atoi,Itoa. -/
namespace Go.Ab
set_option linter.all false
open Go.Sort
variable [Base]
def tb(l:List UInt8):SV := .str ⟨l.toArray⟩
theorem Qfs{β:Bt}{h:Qa}{w w':World}(R:Rep β h w)(hb:RowKit.Below w.heap.size w w'):Stp β h w β h w'/\Rep β h w' :=
 ⟨⟨fun _ _ h=>h,fun _ _ h => .inl h,fun id h1 h2=>by omega,Gd _,fun b hb => .inr hb,fun id L h1 h2=>by rw[h1]at h2;simp at h2,fun b h1 _=>hb.block b h1,hb.size,hb.os,hb.tape,hb.output⟩,zd R hb.block⟩
theorem QcG(w:World)(n:Nat):RowKit.Below w.heap.size w (w.drewN n):=⟨rfl,rfl,rfl,Gd _,fun _ _=>rfl⟩
theorem Qdr(w:World)(os:Array Obj):RowKit.Below w.heap.size w (grow w os) :=
 ⟨rfl,rfl,rfl,by simp[grow],fun k hk=>by simp[grow,Array.getElem?_append,hk]⟩
theorem Qkp{β:Bt}{h:Qa}{w w':World}(R:Rep β h w)(hf:β h.length=none)(hb:RowKit.Below w.heap.size w w'){A:Nat}(hA:w.heap.size<=A){ccs:Array Value}{e:TypeId}{fz:Nat×Nat}
  (hr:w'.heap[A]?=some (.cells ccs e fz)) {cs:List SV} (hl:cs.length<=ccs.size) (hrel:∀(i:Nat) (v:SV),cs[i]?=some v->∃ c,ccs[i]?=some c/\SRel β v c) :
  Stp β h w (upd β h.length ⟨A,0,ccs.size,1⟩) (h++[.cells cs false 1]) w'/\Rep (upd β h.length ⟨A,0,ccs.size,1⟩) (h++[.cells cs false 1]) w':=by
 have hle:=Qax (β:=β) (⟨A,0,ccs.size,1⟩:Loc) hf
 have hold:∀ i,i<h.length->upd β h.length ⟨A,0,ccs.size,1⟩ i=β i:=fun i hi=>XX _ _ (by omega)
 have lt:∀(i:Nat) (x:Blk),h[i]?=some x->i<h.length:=fun i x hx=>(Gb.1 hx).1
 have key:∀(i:Nat) (x:Blk),(h++[Blk.cells cs false 1])[i]?=some x->(i=h.length/\x = .cells cs false 1)∨(i≠h.length/\h[i]?=some x):=by
  intro i x hi
  rw[YH]at hi
  split at hi
  ·simp at hi;exact .inl ⟨by assumption,hi.symm⟩
  ·exact .inr ⟨by assumption,hi⟩
 refine⟨⟨hle,?_,?_,by simp,?_,?_,fun b h1 _=>hb.block b h1,hb.size,hb.os,hb.tape,hb.output⟩,⟨?_,?_,?_,Gq R.keep.1 hb.size,fun b h1=>(hb.block b (GL h1 R.keep.1)).trans (R.keep.2 b h1)⟩⟩
 ·intro i M hM
  by_cases hi:i=h.length
  ·exact .inr (by simp;omega)
  ·exact .inl (by rwa [XX _ _ hi]at hM)
 ·intro i h1 h2
  have:i=h.length:=by simp at h2;omega
  subst this
  exact⟨_,Xe _ _ _⟩
 ·rintro b ⟨i,M,cs1,e1,hi,hM,rfl⟩
  rcases key _ _ hi with ⟨rfl,h1⟩|⟨h1,h2⟩
  ·cases h1
  ·rw[hold i (lt _ _ h2)]at hM
   exact .inr ⟨i,M,cs1,e1,h2,hM,rfl⟩
 ·intro i M h1 h2
  by_cases hi:i=h.length
  ·subst hi;rw[Xe]at h1;simp at h1;subst h1;exact .inl hA
  ·rw[XX _ _ hi,h2]at h1;simp at h1
 ·intro i b M hi hM
  rcases key _ _ hi with ⟨rfl,rfl⟩|⟨h1,h2⟩
  ·rw[Xe]at hM;simp at hM;subst hM;rfl
  ·rw[hold i (lt _ _ h2)]at hM
   exact R.sz i b M h2 hM
 ·intro i M cs1 rw1 e1 hi hM
  rcases key _ _ hi with ⟨rfl,h1⟩|⟨h1,h2⟩
  ·rw[Xe]at hM;simp at hM;subst hM
   cases h1
   refine .inl ⟨by decide,rfl,ccs,e,fz,hr,rfl,by simpa using hl,fun i v hi=>?_,fun h=>by simp at h,(by intro t ht;cases ht),(by intro t ht;cases ht),fun h=>by simp at h⟩
   obtain⟨c,h1,h2⟩:=hrel i v hi
   exact⟨c,by simpa using h1,h2.mono hle⟩
  ·rw[hold i (lt _ _ h2)]at hM
   have hB:=R.blk i M cs1 rw1 e1 h2 hM
   exact hB.mono hle (hb.block _ hB.lt)
 ·intro i j M N cs1 e1 cs2 rw2 e2 hi hj hne hM hN
  rcases key _ _ hi with ⟨rfl,h1⟩|⟨h1,h2⟩
  ·cases h1
  ·rw[hold i (lt _ _ h2)]at hM
   rcases key _ _ hj with ⟨rfl,k1⟩|⟨k1,k2⟩
   ·rw[Xe]at hN;simp at hN;subst hN
    have:=(R.blk i M cs1 true e1 h2 hM).lt
    show M.b≠A
    omega
   ·rw[hold j (lt _ _ k2)]at hN
    exact R.exc i j M N cs1 e1 cs2 rw2 e2 h2 k2 hne hM hN
def Y9:Xq:=fun args h=>match args with
 | [.sc (.int .i64 n)]=>if -9223372036854775808<=n/\n<=9223372036854775807 then some (.sc (tb (Lib.itoa n)),h) else none
 | _=>none
theorem Qck{P:Program}{f g:Nat}{nm:String}(hfn:Vt P f=true)(hg:g<Base.B)(hnm:P.globalNamed nm=some g)(htab:Lib.TabIs P Base.W nm .u64 Lib.pow10Tab)
  (hc:∀(n:Int),-9223372036854775808<=n->n<=9223372036854775807->∀ w:World,Lib.TabIs P w nm .u64 Lib.pow10Tab ->
   Calls P f #[.int .i64 n] w fun e w'=>e = .returned (.string ⟨(Lib.itoa n).toArray⟩)/\∃ k os,w'=grow (w.drewN k) os) :
  HkOK P f Y9 where
 fn:=hfn
 len:=fun args h v h' hs=>by
  unfold Y9 at hs
  split at hs
  ·split at hs
   ·simp only[Option.some.injEq,Prod.mk.injEq]at hs;rw[← hs.2];exact Gd _
   ·simp at hs
  ·simp at hs
 run:=fun args h v h' hs β w vs hvs R hf=>by
  unfold Y9 at hs
  split at hs
  ·rename_i n
   split at hs
   ·rename_i hp
    simp only[Option.some.injEq,Prod.mk.injEq]at hs
    obtain⟨rfl,rfl⟩:=hs
    cases hvs with
    | cons k1 hvs =>
     cases hvs
     cases k1 with
     | sc k1 =>
      cases k1
      refine(hc n hp.1 hp.2 w ((R.var hnm hg).trans htab)).mono ?_
      rintro e w' ⟨rfl,k,os,rfl⟩
      obtain⟨s1,s2⟩:=Qfs R (RowKit.Below.trans (QcG w k) (Qdr (w.drewN k) os))
      exact⟨β,_,rfl,.sc (.str _),s1,s2⟩
   ·simp at hs
  ·simp at hs
end Go.Ab
namespace Go.Ab
set_option linter.all false
theorem Ur(l:List UInt8):((⟨l.toArray⟩:ByteArray)).size=l.length:=rfl
theorem Qm8(a b:List UInt8):((⟨a.toArray⟩:ByteArray)++⟨b.toArray⟩)=⟨(a++b).toArray⟩:=by ext1;simp
theorem Qm7(a:List UInt8)(l u:Nat):(⟨a.toArray⟩:ByteArray).extract l u=⟨((a.drop l).take (u-l)).toArray⟩:=by ext1;simp
theorem QjL(a:List UInt8):(⟨a.toArray⟩:ByteArray).toList=a:=by simp
def u8s(l:List UInt8):List SV:=l.map fun b => .int .u8 (b.toNat:Int)
theorem yg(l:List UInt8):(u8s l).length=l.length:=by simp[u8s]
theorem QjH(a b:List UInt8):u8s (a++b)=u8s a++u8s b:=by simp[u8s]
theorem Uf:∀ l:List UInt8,Zn (u8s l)=some l
 | []=>rfl
 | b::r=>by
  have ih:=Uf r
  unfold u8s at ih ⊢
  simp only[GE,Zn,Hp,UInt8.ofNat_toNat,ih,Gp,if_true]
def OwnZ(z:ESz)(h0 h:Qa)(s:SV)(vs:List SV):Prop :=
 (s = .nilS/\vs=[])∨∃ id cap cs,s = .slc id 0 vs.length cap/\0<vs.length/\h0.length<=id/\h[id]?=some (.cells cs true z)/\cs.take vs.length=vs/\Qbs vs.length cs cap
theorem OwnZ.len{z:ESz}{h0 h:Qa}{s:SV}{vs:List SV}(ho:OwnZ z h0 h s vs):Yh false s=some (vs.length:Int):=by
 rcases ho with ⟨rfl,rfl⟩|⟨id,cap,cs,rfl,_⟩ <;> rfl
theorem OwnZ.ext{z:ESz}{h0 h h':Qa}{s:SV}{vs:List SV}(ho:OwnZ z h0 h s vs)(he:Ext h h'):OwnZ z h0 h' s vs:=by
 rcases ho with ho|⟨id,cap,cs,rfl,h0',h1,h2,h3⟩
 ·exact .inl ho
 ·exact .inr ⟨id,cap,cs,rfl,h0',h1,he.get _ _ h2,h3⟩
theorem OwnZ.away{z:ESz}{h0 h:Qa}{s:SV}{vs:List SV}{B:Nat}(ho:OwnZ z h0 h s vs)(hn:XW s B)(b:Blk):OwnZ z h0 (h.set B b) s vs:=by
 rcases ho with ho|⟨id,cap,cs,rfl,h0',h1,h2,h3⟩
 ·exact .inl ho
 ·have hne:B≠id:=fun e=>by subst e;exact hn _ _ _ rfl
  exact .inr ⟨id,cap,cs,rfl,h0',h1,by rw[Gk hne];exact h2,h3⟩
theorem Qg4{z:ESz}(hz:z.n=1){h0 h:Qa}{s:SV}{vs ws:List SV}{bytes:Nat}(he:Ext h0 h)(ho:OwnZ z h0 h s vs)(hb:(vs.length+ws.length)*(bytes+1)<=XS) :
  ∃ s' h',Y0 h z bytes s ws.length ws=some (s',h')/\OwnZ z h0 h' s' (vs++ws)/\Ext h0 h'/\h.length<=h'.length/\Fram h h' s s':=by
 have hl:=he.len
 have fresh:∀(j:Nat) (b:Blk),h[j]?=some b->∀ k,XW (SV.slc h.length 0 k none) j:=by
  intro j b hj k o n c hc
  have:=(Gb.1 hj).1
  cases hc;omega
 rcases ho with ⟨rfl,rfl⟩|⟨id,cap,cs,rfl,h0',h1,h2,h3,h4⟩
 ·by_cases hm:ws.length=0
  ·have:ws=[]:=Gw hm
   subst this
   exact⟨.nilS,h,rfl,.inl ⟨rfl,rfl⟩,he,Gd _,fun j b hj hn=>⟨hj,fun o n c hc=>by cases hc⟩⟩
  ·refine⟨.slc h.length 0 ws.length none,h++[.cells ws true z],?_,?_,he.app _,by simp,fun j b hj hn=>⟨X5 j b hj,fresh j b hj _⟩⟩
   ·simp only[Y0]
    rw[if_neg hm,if_pos (by simpa using hb)]
   ·exact .inr ⟨h.length,none,ws,by simp,by simp;omega,hl,by simp,by simp,by simp[Qbs]⟩
 ·have hid:id<h.length:=(Gb.1 h2).1
  have hlen:vs.length<=cs.length:=by
   have:=congrArg List.length h3
   simp at this
   omega
  by_cases hm:ws.length=0
  ·have:ws=[]:=Gw hm
   subst this
   refine⟨.slc id 0 vs.length cap,h,rfl,.inr ⟨id,cap,cs,by simp,by simpa using h0',h1,h2,by simpa using h3,by simpa using h4⟩,he,Gd _,fun j b hj hn=>⟨hj,hn⟩⟩
  have hcut:cut cs 0 (vs.length*z.n)=some vs:=by
   unfold cut
   rw[hz,if_pos (by omega)]
   simp[h3]
  cases cap with
  | none =>
   refine⟨.slc h.length 0 (vs.length+ws.length) none,h.set id (.dead z)++[.cells (vs++ws) true z],?_,?_,(he.set h1 _).app _,by simp,?_⟩
   ·simp only[Y0]
    rw[if_neg hm,if_pos hb,h2]
    simp only[if_true,hcut]
    rw[if_pos (by simp)]
   ·refine .inr ⟨h.length,none,vs++ws,by simp,by simp;omega,hl,?_,Gx,by simp[Qbs]⟩
    rw[Gi (by simp)];simp
   ·intro j b hj hn
    have hne:id≠j:=fun e=>by subst e;exact hn _ _ _ rfl
    refine⟨X5 j b ?_,fresh j b hj _⟩
    rw[Gk hne];exact hj
  | some c =>
   obtain⟨h5,h6⟩:=h4
   by_cases hc:c<vs.length+ws.length
   ·refine⟨.slc h.length 0 (vs.length+ws.length) none,h++[.cells (vs++ws) true z],?_,?_,he.app _,by simp,?_⟩
    ·simp only[Y0]
     rw[if_neg hm,if_pos hb,h2]
     simp only[if_true,hcut]
     rw[if_pos hc]
    ·refine .inr ⟨h.length,none,vs++ws,by simp,by simp;omega,hl,?_,Gx,by simp[Qbs]⟩
     rw[Gi (Gd _)];simp
    ·exact fun j b hj hn=>⟨X5 j b hj,fresh j b hj _⟩
   ·have hsp:Q8 cs (0+vs.length*z.n) ws=vs++ws++cs.drop (vs.length+ws.length):=by
     unfold Q8
     simp[h3,hz]
    refine⟨.slc id 0 (vs.length+ws.length) (some c),h.set id (.cells (Q8 cs (0+vs.length*z.n) ws) true z),?_,?_,he.set h1 _,by simp,?_⟩
    ·simp only[Y0]
     rw[if_neg hm,if_pos hb,h2]
     simp only[if_true,hcut]
     rw[if_neg hc]
     simp only[Xx,h2]
     rw[if_pos (by rw[hz];omega)];rfl
    ·refine .inr ⟨id,some c,Q8 cs (0+vs.length*z.n) ws,by simp,by simp;omega,h1,?_,?_,?_,by simp;omega⟩
     ·rw[GA hid]
     ·rw[hsp];exact List.take_left
     ·rw[hsp];simp;omega
    ·intro j b hj hn
     have hne:id≠j:=fun e=>by subst e;exact hn _ _ _ rfl
     refine⟨?_,fun o n c' e=>hn _ _ _ (by cases e;rfl)⟩
     rw[Gk hne];exact hj
structure BldS(T:Nat)(z:ESz)(h0 h:Qa)(B:Nat)(s:SV)(bs:List UInt8):Prop where
 blk:∃ q,h[B]?=some (.cells [.ptr B 0,q] true ⟨0,some T⟩)
 low:h0.length<=B
 own:OwnZ z h0 h s (u8s bs)
 not:XW s B
 ext:Ext h0 h
def Bld(T:Nat)(z:ESz)(h0 h:Qa)(B:Nat)(bs:List UInt8):Prop :=
 ∃ p s,h[B]?=some (.cells [p,s] true ⟨0,some T⟩)/\(p = .nilP∨p = .ptr B 0)/\h0.length<=B/\OwnZ z h0 h s (u8s bs)/\XW s B/\Ext h0 h
theorem Bld.new(T:Nat)(z:ESz){h0 h:Qa}(he:Ext h0 h):Bld T z h0 (h++[.cells [.nilP,.nilS] true ⟨0,some T⟩]) h.length [] :=
 ⟨.nilP,.nilS,by simp,.inl rfl,he.len,.inl ⟨rfl,rfl⟩,(fun o n c e=>by cases e),he.app _⟩
theorem Bld.ext{T:Nat}{z:ESz}{h0 h:Qa}{B:Nat}{bs:List UInt8}(hb:Bld T z h0 h B bs):Ext h0 h:=by
 obtain⟨p,s,_,_,_,_,_,h⟩:=hb;exact h
theorem BldS.grow{T:Nat}{z:ESz}{h0 h h':Qa}{B:Nat}{s:SV}{bs:List UInt8}(hb:BldS T z h0 h B s bs)(he:Ext h h'):BldS T z h0 h' B s bs :=
 ⟨let ⟨q,hq⟩:=hb.blk;⟨q,he.get _ _ hq⟩,hb.low,hb.own.ext he,hb.not,hb.ext.trans he⟩
section
variable {FT:zzA} {HK:zzH} {E:Env} {h:Qa} {K:Env->Qa->Prop} {d:Option Nat} {r:List AOp} {x y:AO}
theorem Qne(h:Qa)(cs:List UInt8):Xs h 1 (tb cs)=some (cs.length,u8s cs):=by
 simp only[Xs,tb,if_true,Ur]
 rfl
theorem src_z{z:ESz}{h:Qa}{c:UInt8}:Xs (h++[.cells [.int .u8 (c.toNat:Int)] true z]) 1 (.slc h.length 0 1 (some 1))=some (([c]:List UInt8).length,u8s [c]):=by
 simp only[Xs]
 rw[if_neg (by omega)]
 simp[Q3,cut,u8s]
theorem Qn3{z:ESz}{v:SV}{zz:SV}(hz:z.n=1)(hx:ev E x=some (.sc v))(hw:Ext h (h++[.cells [v] true z])->Qm FT HK r (Qv d (some (.sc (.slc h.length 0 1 (some 1)))) E) (h++[.cells [v] true z]) K) :
  Qm FT HK (⟨d,.bsl z [zz] 1 [(0,x)],none⟩::r) E h K:=by
 refine Q2 (v:=some (.sc (.slc h.length 0 1 (some 1)))) (h':=h++[.cells [v] true z]) rfl rfl ?_ (hw ⟨_,rfl⟩)
 simp only[Qo,hz]
 rw[if_pos (by omega)]
 simp[XR,hx,AV.cells,YX,rep,Q8]
theorem Qli(a b:List UInt8):(a==b)=decide (a=b):=by
 by_cases h:a=b
 ·subst h;simp
 ·simp[h]
theorem Vp{a b:List UInt8}(hx:evS E x=some (tb a))(hy:evS E y=some (tb b))(hl:a.length+b.length<=1099511627776)(hw:Qm FT HK r (Qv d (some (.sc (tb (a++b)))) E) h K) :
  Qm FT HK (⟨d,.bin .add x y,none⟩::r) E h K:=by
 refine Q2 rfl rfl ?_ hw
 simp only[Qo,hx,hy,Gl,tb,ZI,Qir,Ur]
 rw[if_pos hl,Qm8];rfl
theorem QnV{a b:List UInt8}{u:Bool}(hx:evS E x=some (tb a))(hy:evS E y=some (tb b))(hu:(!decide (a=b))=u)(hw:Qm FT HK r (Qv d (some (.sc (.bool u))) E) h K) :
  Qm FT HK (⟨d,.bin .neq x y,none⟩::r) E h K:=by
 refine Q2 rfl rfl ?_ hw
 simp only[Qo,hx,hy,Gl,tb,ZI,Qir,QjL,← hu,Qli a b]
 rfl
theorem QnW{a:List UInt8}(hx:evS E x=some (tb a))(hw:Qm FT HK r (Qv d (some (.sc (.int .i64 (a.length:Int)))) E) h K):Qm FT HK (⟨d,.len true x,none⟩::r) E h K:=by
 refine Q2 rfl rfl ?_ hw
 simp only[Qo,hx,Gl,tb,Yh,Ur];rfl
theorem QnU{a:List UInt8}{lo hi:AO}{l u:Int}{k1 k2:IntKind}(hx:evS E x=some (tb a))(hl:evS E lo=some (.int k1 l))(hh:evS E hi=some (.int k2 u))(hb:0<=l/\l<=u/\u<=a.length)
  (hw:Qm FT HK r (Qv d (some (.sc (tb ((a.drop l.toNat).take (u.toNat-l.toNat))))) E) h K):Qm FT HK (⟨d,.slS x (some lo) (some hi),none⟩::r) E h K:=by
 refine Q2 rfl rfl ?_ hw
 simp only[Qo,hx,tb,yW hl hb.1,Gl,Ur,yW hh (by omega:(0:Int)<=u),Qm7]
 rw[if_pos (by omega)]
theorem QhB{q u:Int}{lo hi:AO}{k1 k2:IntKind}(hx:evS E x=some (tb [48,49,50,51,52,53,54,55,56,57]))(hl:evS E lo=some (.int k1 q))(hh:evS E hi=some (.int k2 u))(hb:0<=q/\q<10/\u=q+1)
  (hw:Qm FT HK r (Qv d (some (.sc (tb [UInt8.ofNat (48+q.toNat)]))) E) h K):Qm FT HK (⟨d,.slS x (some lo) (some hi),none⟩::r) E h K:=by
 obtain⟨h1,h2,rfl⟩:=hb
 refine QnU hx hl hh ⟨h1,by omega,by simp;omega⟩ ?_
 have:((([48,49,50,51,52,53,54,55,56,57]:List UInt8).drop q.toNat).take ((q+1).toNat-q.toNat))=[UInt8.ofNat (48+q.toNat)]:=by
  obtain⟨k,rfl⟩:=Int.eq_ofNat_of_zero_le h1
  have e1:((k:Int)+1).toNat-(k:Int).toNat=1:=by omega
  rw[e1,Hp]
  have hk:k<10:=by omega
  match k,hk with
  | 0,_|1,_|2,_|3,_|4,_|5,_|6,_|7,_|8,_|9,_=>rfl
  | k+10,h=>omega
 rw[this];exact hw
theorem OwnZ.text{t:Nat}{h0 h:Qa}{s:SV}{bs:List UInt8}(ho:OwnZ ⟨1,some t⟩ h0 h s (u8s bs))(hl:bs.length<=1000000000) :
  (bs=[]/\s = .nilS)∨∃ id cap cs,bs≠[]/\s = .slc id 0 bs.length cap/\h[id]?=some (.cells cs true ⟨1,some t⟩)/\cut cs 0 bs.length=some (u8s bs)/\h0.length<=id:=by
 rcases ho with ⟨h1,h2⟩|⟨id,cap,cs,h1,h2,h3,h4,h5,h6⟩
 ·exact .inl ⟨by simpa [u8s]using h2,h1⟩
 ·rw[yg]at *
  refine .inr ⟨id,cap,cs,(fun e=>by subst e;simp at h2),h1,h4,?_,h3⟩
  have:bs.length<=cs.length:=by
   have:=congrArg List.length h5
   simp[yg]at this
   omega
  unfold cut
  rw[if_pos (by omega)]
  simp[h5]
theorem k_usd{id off n:Nat}{cap:Option Nat}(hx:evS E x=some (.slc id off n cap))(hn:0<n)(hw:Qm FT HK r (Qv d (some (.sc (.ptr id off))) E) h K):Qm FT HK (⟨d,.usd x,none⟩::r) E h K :=
 Q2 rfl rfl (by simp only[Qo,hx];rw[if_pos hn]) hw
theorem QnR(hx:evS E x=some .nilS)(hw:Qm FT HK r (Qv d (some (.sc .nilP)) E) h K):Qm FT HK (⟨d,.usd x,none⟩::r) E h K :=
 Q2 rfl rfl (by simp only[Qo,hx]) hw
theorem QnQ{t id:Nat}{m:Nat}{cs:List SV}{bs:List UInt8}(hx:evS E x=some (.ptr id 0))(hy:evS E y=some (.int .i64 (m:Int)))(hg:h[id]?=some (.cells cs true ⟨1,some t⟩))(hc:cut cs 0 m=some (u8s bs))(hm:0<m/\m<=1000000000)
  (hw:Qm FT HK r (Qv d (some (.sc (tb bs))) E) (h.set id (.cells cs false ⟨1,some t⟩)) K):Qm FT HK (⟨d,.ustr t x y,none⟩::r) E h K:=by
 refine Q2 (h':=h.set id (.cells cs false ⟨1,some t⟩)) rfl rfl ?_ hw
 simp only[Qo,hx,hy,hg]
 rw[if_pos ⟨by omega,by omega,trivial⟩]
 simp only[Hp,hc,Gl,Uf,Gp,tb]
theorem QkG{t:Nat}(hx:evS E x=some .nilP)(hy:evS E y=some (.int .i64 0))(hw:Qm FT HK r (Qv d (some (.sc (tb []))) E) h K):Qm FT HK (⟨d,.ustr t x y,none⟩::r) E h K :=
 Q2 rfl rfl (by simp only[Qo,hx,hy];rw[if_pos trivial];rfl) hw
theorem Qa1{id off:Nat}(hx:evS E x=some (.ptr id off))(hw:Qm FT HK r (Qv d (some (.sc (.ptr id off))) E) h K):Qm FT HK (⟨d,.nilc x,none⟩::r) E h K :=
 Q2 rfl rfl (by simp only[Qo,hx]) hw
end
theorem IsSl.at{h:Qa}{s:SV}{vs:List SV}(hs:IsSl h s 1 vs.length vs){i:Nat}{x:SV}(hi:vs[i]?=some x) :
  ∃ id off cap,s = .slc id off vs.length cap/\Q3 h id (off+i*1) 1=some [x]:=by
 have hl:=(Gb.1 hi).1
 rcases hs with ⟨rfl,h1,h2⟩|⟨id,off,cap,b,h1,h2,h3,h4,h5⟩
 ·omega
 ·obtain⟨cs,rw',rfl,hc⟩:=h5 (by omega)
  refine⟨id,off,cap,h1,?_⟩
  unfold Q3
  rw[h2]
  simp only
  unfold cut at hc ⊢
  simp only[ESz.one_n]at hc
  split at hc
  ·rename_i hle
   simp only[Option.some.injEq]at hc
   rw[if_pos (by omega)]
   have:(cs.drop (off+i*1)).take 1=(((cs.drop off).take (vs.length*1)).drop i).take 1:=by
    rw[List.drop_take,HD,List.take_take]
    rw[GV (by omega),Hh]
   rw[this,hc,G2 hl,(Gb.1 hi).2]
   rfl
  ·simp at hc
end Go.Ab
namespace Go.Ab
section
variable {FT:zzA} {HK:zzH} {E:Env} {h:Qa} {K:Env->Qa->Prop} {d:Option Nat} {r:List AOp} {x y:AO}
end
set_option linter.all false
open Go.ChangeShapes
theorem V8{P:Program}{W:World}{n:String}{k:IntKind}{zs:List Int}{g:Nat}(hg:P.globalNamed n=some g)(hc:Lib.TabIs P W n k zs):g<W.heap.size:=by
 unfold Lib.TabIs World.var? at hc
 rw[hg]at hc
 simp only[Gl]at hc
 rcases GD g W.heap.size with h'|h'
 ·exact h'
 ·simp[Array.getElem?_eq_none h']at hc
