import Derived.Test.YtofknpknogfijaaGreatDoorAb35
import Derived.Test.YtofknpknogfijaaGreatDoorAb32
/- Slices of bytes of one's own: read,written,made,grown;shifts. -/
namespace Go.Ab
set_option linter.all false
def u8n(L:List Nat):List SV:=L.map fun (x:Nat) => .int .u8 (x:Int)
theorem Qdl(L:List Nat):(u8n L).length=L.length:=by simp[u8n]
theorem OwnZ.all{z:ESz}{h0 h:Qa}{s:SV}{vs:List SV}(ho:OwnZ z h0 h s vs)(hn:0<vs.length):∃ id cap,s = .slc id 0 vs.length cap/\Q9 h id 0 vs.length=some vs:=by
 rcases ho with ⟨rfl,rfl⟩|⟨id,cap,cs,rfl,h0',h1,h2,h3,h4⟩
 ·simp at hn
 ·refine⟨id,cap,rfl,?_⟩
  have hl:vs.length<=cs.length:=by have:=congrArg List.length h3;simp at this;omega
  simp only[Q9,h2]
  unfold cut
  rw[if_pos (by omega),Hi,h3]
section
variable {FT:zzA} {HK:zzH} {E:Env} {h h0:Qa} {K:Env->Qa->Prop} {d:Option Nat} {r:List AOp} {x y:AO}
theorem zX{kd:IntKind}{m:Int}(hx:evS E x=some (.int kd m))(hr:0<=m/\m<256)(hw:Qk FT HK r (Qw d (some (.sc (.int .u8 m))) E) h K):Qk FT HK (⟨d,.conv .u8 x,none⟩::r) E h K:=by
 refine Xi (v:=some (.sc (Yg .u8 m))) (h':=h) rfl rfl (by simp only[Ql,hx]) ?_
 have:IntKind.u8.wrap m=m:=by
  obtain⟨k,rfl⟩:∃ k:Nat,m=k:=⟨m.toNat,by omega⟩
  have hk:k<256:=by omega
  simp only[IntKind.wrap]
  show (if IntKind.u8.signed=true then _ else _)=_
  simp[IntKind.signed,IntKind.bits]
  omega
 rw[Yg,this];exact hw
theorem k_shl{kd k2:IntKind}{a b c:Int}(hx:evS E x=some (.int kd a))(hy:evS E y=some (.int k2 b))(h0:0<=b)(hc:kd.wrap (a*2^(min b.toNat kd.bits))=c)(hw:Qk FT HK r (Qw d (some (.sc (.int kd c))) E) h K) :
  Qk FT HK (⟨d,.bin .shl x y,none⟩::r) E h K:=by
 refine Xi (v:=some (.sc (.int kd c))) (h':=h) rfl rfl ?_ hw
 simp only[Ql,hx,hy,Gi,Je,X8,if_true,shI]
 rw[if_neg (by omega)]
 simp only[Yg,hc,Gm]
end
def IsBy(h:Qa)(s:SV)(L:List Nat):Prop:=(s = .nilS/\L=[])∨∃ id off cap,s = .slc id off L.length cap/\(0<L.length->Q9 h id off L.length=some (u8n L))
theorem IsBy.len{h:Qa}{s:SV}{L:List Nat}(hs:IsBy h s L):Yv false s=some (L.length:Int):=by
 rcases hs with ⟨rfl,rfl⟩|⟨id,off,cap,rfl,_⟩ <;> rfl
theorem QeH{h:Qa}{id off n i k:Nat}{vs:List SV}(hr:Q9 h id off n=some vs)(hi:i+k<=n):Q9 h id (off+i) k=some ((vs.drop i).take k):=by
 unfold Q9 at *
 split at hr
 ·unfold cut at *
  split at hr
  ·simp only[Option.some.injEq]at hr
   subst hr
   rw[if_pos (by omega),List.drop_take,List.drop_drop,List.take_take,GM (by omega)]
  ·simp at hr
 ·simp at hr
theorem IsBy.at{h:Qa}{s:SV}{L:List Nat}(hs:IsBy h s L){i x:Nat}(hi:L[i]?=some x):∃ id off cap,s = .slc id off L.length cap/\Q9 h id (off+i*1) 1=some [.int .u8 (x:Int)]:=by
 have hl:=(Gb.1 hi).1
 rcases hs with ⟨rfl,rfl⟩|⟨id,off,cap,rfl,e2⟩
 ·simp at hi
 ·refine⟨id,off,cap,rfl,?_⟩
  have h1:=QeH (i:=i) (k:=1) (e2 (by omega)) (by omega)
  rw[Hd,h1]
  have h2:(u8n L)[i]?=some (.int .u8 (x:Int)):=by simp[u8n,hi]
  obtain⟨h9,h10⟩:=Gb.1 h2
  rw[Hn h9,h10];rfl
theorem OwnZ.by{z:ESz}{h0 h:Qa}{s:SV}{L:List Nat}(ho:OwnZ z h0 h s (u8n L)):IsBy h s L:=by
 by_cases hp:0<(u8n L).length
 ·obtain⟨id,cap,e1,e2⟩:=ho.all hp
  rw[Qdl]at e1 e2
  exact .inr ⟨id,0,cap,e1,fun _=>e2⟩
 ·have hL:L=[]:=Gu (by rw[Qdl]at hp;omega)
  subst hL
  rcases ho with ⟨h1,-⟩|⟨id,cap,cs,e1,e2,_⟩
  ·exact .inl ⟨h1,rfl⟩
  ·exact absurd e2 hp
section
variable [Base]
end
end Go.Ab
namespace Go.Ab
section
variable {FT:zzA} {HK:zzH} {E:Env} {h:Qa} {K:Env->Qa->Prop} {d:Option Nat} {r:List AOp} {x y:AO}
theorem Qjy{kd k2:IntKind}{a b c:Int}(hx:evS E x=some (.int kd a))(hy:evS E y=some (.int k2 b))(h0:0<=b)(hc:a.fdiv (2^(min b.toNat kd.bits))=c)(hw:Qk FT HK r (Qw d (some (.sc (.int kd c))) E) h K) :
  Qk FT HK (⟨d,.bin .shr x y,none⟩::r) E h K:=by
 refine Xi (v:=some (.sc (.int kd c))) (h':=h) rfl rfl ?_ hw
 simp only[Ql,hx,hy,Gi,Je,X8,if_true,shI]
 rw[if_neg (by omega)]
 simp only[hc,Gm]
end
