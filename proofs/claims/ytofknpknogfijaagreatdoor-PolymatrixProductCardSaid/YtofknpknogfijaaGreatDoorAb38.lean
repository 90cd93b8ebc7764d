import Derived.Test.YtofknpknogfijaaGreatDoorAb35
import Derived.Test.YtofknpknogfijaaGreatDoorAb32
/- Slices of bytes of one's own: read,written,made,grown;shifts. -/
namespace Go.Ab
set_option linter.all false
def u8n(L:List Nat):List SV:=L.map fun (x:Nat) => .int .u8 (x:Int)
theorem QdC(L:List Nat):(u8n L).length=L.length:=by simp[u8n]
theorem OwnZ.all{z:ESz}{h0 h:Qa}{s:SV}{vs:List SV}(ho:OwnZ z h0 h s vs)(hn:0<vs.length):∃ id cap,s = .slc id 0 vs.length cap/\Q3 h id 0 vs.length=some vs:=by
 rcases ho with ⟨rfl,rfl⟩|⟨id,cap,cs,rfl,h0',h1,h2,h3,h4⟩
 ·simp at hn
 ·refine⟨id,cap,rfl,?_⟩
  have hl:vs.length<=cs.length:=by have:=congrArg List.length h3;simp at this;omega
  simp only[Q3,h2]
  unfold cut
  rw[if_pos (by omega),Hi,h3]
section
variable {FT:zzA} {HK:zzH} {E:Env} {h h0:Qa} {K:Env->Qa->Prop} {d:Option Nat} {r:List AOp} {x y:AO}
theorem Ub{kd:IntKind}{m:Int}(hx:evS E x=some (.int kd m))(hr:0<=m/\m<256)(hw:Qm FT HK r (Qv d (some (.sc (.int .u8 m))) E) h K):Qm FT HK (⟨d,.conv .u8 x,none⟩::r) E h K:=by
 refine Q2 (v:=some (.sc (Yf .u8 m))) (h':=h) rfl rfl (by simp only[Qo,hx]) ?_
 have:IntKind.u8.wrap m=m:=by
  obtain⟨k,rfl⟩:∃ k:Nat,m=k:=⟨m.toNat,by omega⟩
  have hk:k<256:=by omega
  simp only[IntKind.wrap]
  show (if IntKind.u8.signed=true then _ else _)=_
  simp[IntKind.signed,IntKind.bits]
  omega
 rw[Yf,this];exact hw
theorem k_shl{kd k2:IntKind}{a b c:Int}(hx:evS E x=some (.int kd a))(hy:evS E y=some (.int k2 b))(h0:0<=b)(hc:kd.wrap (a*2^(min b.toNat kd.bits))=c)(hw:Qm FT HK r (Qv d (some (.sc (.int kd c))) E) h K) :
  Qm FT HK (⟨d,.bin .shl x y,none⟩::r) E h K:=by
 refine Q2 (v:=some (.sc (.int kd c))) (h':=h) rfl rfl ?_ hw
 simp only[Qo,hx,hy,Gl,ZI,X3,if_true,shI]
 rw[if_neg (by omega)]
 simp only[Yf,hc,Gp]
end
def IsBy(h:Qa)(s:SV)(L:List Nat):Prop:=(s = .nilS/\L=[])∨∃ id off cap,s = .slc id off L.length cap/\(0<L.length->Q3 h id off L.length=some (u8n L))
theorem IsBy.len{h:Qa}{s:SV}{L:List Nat}(hs:IsBy h s L):Yh false s=some (L.length:Int):=by
 rcases hs with ⟨rfl,rfl⟩|⟨id,off,cap,rfl,_⟩ <;> rfl
theorem Qfv{h:Qa}{id off n i k:Nat}{vs:List SV}(hr:Q3 h id off n=some vs)(hi:i+k<=n):Q3 h id (off+i) k=some ((vs.drop i).take k):=by
 unfold Q3 at *
 split at hr
 ·unfold cut at *
  split at hr
  ·simp only[Option.some.injEq]at hr
   subst hr
   rw[if_pos (by omega),List.drop_take,HD,List.take_take,GV (by omega)]
  ·simp at hr
 ·simp at hr
theorem IsBy.at{h:Qa}{s:SV}{L:List Nat}(hs:IsBy h s L){i x:Nat}(hi:L[i]?=some x):∃ id off cap,s = .slc id off L.length cap/\Q3 h id (off+i*1) 1=some [.int .u8 (x:Int)]:=by
 have hl:=(Gb.1 hi).1
 rcases hs with ⟨rfl,rfl⟩|⟨id,off,cap,rfl,e2⟩
 ·simp at hi
 ·refine⟨id,off,cap,rfl,?_⟩
  have h1:=Qfv (i:=i) (k:=1) (e2 (by omega)) (by omega)
  rw[Hh,h1]
  have h2:(u8n L)[i]?=some (.int .u8 (x:Int)):=by simp[u8n,hi]
  obtain⟨h9,h10⟩:=Gb.1 h2
  rw[G2 h9,h10];rfl
theorem OwnZ.by{z:ESz}{h0 h:Qa}{s:SV}{L:List Nat}(ho:OwnZ z h0 h s (u8n L)):IsBy h s L:=by
 by_cases hp:0<(u8n L).length
 ·obtain⟨id,cap,e1,e2⟩:=ho.all hp
  rw[QdC]at e1 e2
  exact .inr ⟨id,0,cap,e1,fun _=>e2⟩
 ·have hL:L=[]:=Gw (by rw[QdC]at hp;omega)
  subst hL
  rcases ho with ⟨h1,-⟩|⟨id,cap,cs,e1,e2,_⟩
  ·exact .inl ⟨h1,rfl⟩
  ·exact absurd e2 hp
section
variable [Base]
end
end Go.Ab
namespace Go.Ab
section
variable {FT:zzA} {HK:zzH} {E:Env} {h:Qa} {K:Env->Qa->Prop} {d:Option Nat} {r:List AOp} {x y:AO}
theorem QlQ{kd k2:IntKind}{a b c:Int}(hx:evS E x=some (.int kd a))(hy:evS E y=some (.int k2 b))(h0:0<=b)(hc:a.fdiv (2^(min b.toNat kd.bits))=c)(hw:Qm FT HK r (Qv d (some (.sc (.int kd c))) E) h K) :
  Qm FT HK (⟨d,.bin .shr x y,none⟩::r) E h K:=by
 refine Q2 (v:=some (.sc (.int kd c))) (h':=h) rfl rfl ?_ hw
 simp only[Qo,hx,hy,Gl,ZI,X3,if_true,shI]
 rw[if_neg (by omega)]
 simp only[hc,Gp]
end
set_option linter.all false
section
variable {FT:zzA} {HK:zzH} {E:Env} {h h':Qa} {K:Env->Qa->Prop} {r:List (AOp×Nat×Bool)} {Q:Ex->Env->Qa->Prop} {S A fr:List Nat} {i:Nat}
theorem Qm2{ops:List (AOp×Nat×Bool)}{ks:List Nat}(S:List Nat)(hw:QY FT HK S [] fr ops E h (fun E' h'=>Q .nm (E'.keep ks) h')):wA FT HK (.regs ops fr ks) E h Q:=⟨S,[],hw⟩
theorem QdA{ops:List (AOp×Nat×Bool)}{ks:List Nat}(S A:List Nat)(hw:QY FT HK S A fr ops E h (fun E' h'=>Q .nm (E'.keep ks) h')):wA FT HK (.regs ops fr ks) E h Q:=⟨S,A,hw⟩
theorem Yl{o:AOp}{ord:Bool}(hl:∀ id,ldX E ord o.k=some id->id∈S)(hw:Qm FT HK [o] E h (fun E' h'=>(ord=true∨h'.take h.length=h)/\(i∈fr∨(∀ id∈S,h'[id]?=h[id]?)/\∀ id∈A,id<h.length->h'[id]?=h[id]?)/\(1000+i∈fr->∀ id,h.length<=id->id<h'.length->id∈A)/\QY FT HK S A fr r E' h' K)):QY FT HK S A fr ((o,i,ord)::r) E h K:=⟨hl,hw⟩
theorem YF{E':Env}{ord:Bool}(hw:QY FT HK S A fr r E' h K):Qm FT HK [] E' h (fun E' h'=>(ord=true∨h'.take h.length=h)/\(i∈fr∨(∀ id∈S,h'[id]?=h[id]?)/\∀ id∈A,id<h.length->h'[id]?=h[id]?)/\(1000+i∈fr->∀ id,h.length<=id->id<h'.length->id∈A)/\QY FT HK S A fr r E' h' K):=⟨.inr (Gx),.inr ⟨fun _ _=>rfl,fun _ _ _=>rfl⟩,fun _ id h1 h2=>by omega,hw⟩
theorem Qgp{E':Env}{ord:Bool}(he:Ext h h')(hS:∀ id∈S,id<h.length)(hw:QY FT HK S A fr r E' h' K)(hq:fr.contains (1000+i)=false:=by rfl):Qm FT HK [] E' h' (fun E' h'=>(ord=true∨h'.take h.length=h)/\(i∈fr∨(∀ id∈S,h'[id]?=h[id]?)/\∀ id∈A,id<h.length->h'[id]?=h[id]?)/\(1000+i∈fr->∀ id,h.length<=id->id<h'.length->id∈A)/\QY FT HK S A fr r E' h' K) :=
 have st:∀ id,id<h.length->h'[id]?=h[id]?:=fun id this=>by
  rw[Ga this]
  exact he.get _ _ (Ga this)
 ⟨.inr he.take,.inr ⟨fun id hid=>st id (hS id hid),fun id _ hlt=>st id hlt⟩,fun hm=>(by rw[G8.2 hm]at hq;cases hq),hw⟩
theorem s_al{E':Env}{ord:Bool}(he:Ext h h')(hS:∀ id∈S,id<h.length)(hA:∀ id,h.length<=id->id<h'.length->id∈A)(hw:QY FT HK S A fr r E' h' K):Qm FT HK [] E' h' (fun E' h'=>(ord=true∨h'.take h.length=h)/\(i∈fr∨(∀ id∈S,h'[id]?=h[id]?)/\∀ id∈A,id<h.length->h'[id]?=h[id]?)/\(1000+i∈fr->∀ id,h.length<=id->id<h'.length->id∈A)/\QY FT HK S A fr r E' h' K) :=
 have st:∀ id,id<h.length->h'[id]?=h[id]?:=fun id this=>by
  rw[Ga this]
  exact he.get _ _ (Ga this)
 ⟨.inr he.take,.inr ⟨fun id hid=>st id (hS id hid),fun id _ hlt=>st id hlt⟩,fun _=>hA,hw⟩
theorem QdP{E':Env}(hs:∀ id∈S,h'[id]?=h[id]?)(hw:QY FT HK S A fr r E' h' K)(hA:∀ id∈A,id<h.length->h'[id]?=h[id]?:=by nofun)(hq:fr.contains (1000+i)=false:=by rfl):Qm FT HK [] E' h' (fun E' h'=>(true=true∨h'.take h.length=h)/\(i∈fr∨(∀ id∈S,h'[id]?=h[id]?)/\∀ id∈A,id<h.length->h'[id]?=h[id]?)/\(1000+i∈fr->∀ id,h.length<=id->id<h'.length->id∈A)/\QY FT HK S A fr r E' h' K):=⟨.inl rfl,.inr ⟨hs,hA⟩,fun hm=>(by rw[G8.2 hm]at hq;cases hq),hw⟩
theorem QaF{E':Env}(hi:fr.contains i=true)(hw:QY FT HK S A fr r E' h' K)(hq:fr.contains (1000+i)=false:=by rfl):Qm FT HK [] E' h' (fun E' h'=>(true=true∨h'.take h.length=h)/\(i∈fr∨(∀ id∈S,h'[id]?=h[id]?)/\∀ id∈A,id<h.length->h'[id]?=h[id]?)/\(1000+i∈fr->∀ id,h.length<=id->id<h'.length->id∈A)/\QY FT HK S A fr r E' h' K):=⟨.inl rfl,.inl (G8.1 hi),fun hm=>(by rw[G8.2 hm]at hq;cases hq),hw⟩
theorem Qgo(hw:Qm FT HK [] E h K):QY FT HK S A fr [] E h K:=hw
end
