import Derived.Test.YtofknpknogfijaaGreatDoorAb25
/- Slices of one's own: append of any slice;parts of slices;regions that draw their order. -/
namespace Go.Ab
set_option linter.all false
def Ys(s:SV)(j:Nat):Prop:=∀ o n c,s ≠ .slc j o n c
def Fram(h h':Qa)(s s':SV):Prop:=∀(j:Nat) (b:Blk),h[j]?=some b->Ys s j->h'[j]?=some b/\Ys s' j
theorem IsSl.src{h:Qa}{t:SV}{n:Nat}{ws:List SV}(ht:IsSl h t 1 n ws)(hn:ws.length=n):XZ h 1 t=some (n,ws):=by
 rcases ht with ⟨rfl,rfl,rfl⟩|⟨id,off,cap,b,rfl,h1,h2,h3,h4⟩
 ·rfl
 ·simp only[XZ]
  by_cases h0:n=0
  ·subst h0;rw[h3 rfl];rfl
  ·rw[if_neg h0]
   obtain⟨cs,rw',rfl,hc⟩:=h4 (by omega)
   simp only[Q9,h1]
   simp only[ESz.one_n]at hc
   rw[hc];rfl
theorem Qix{h0 h:Qa}{s:SV}{vs ws:List SV}{bytes:Nat}(he:Ext h0 h)(ho:Own h0 h s vs)(hb:(vs.length+ws.length)*(bytes+1)<=Yh) :
  ∃ s' h',ZG h 1 bytes s ws.length ws=some (s',h')/\Own h0 h' s' (vs++ws)/\Ext h0 h'/\h.length<=h'.length/\Fram h h' s s':=by
 have hl:=he.len
 rcases ho with ⟨rfl,rfl⟩|⟨id,cap,cs,rfl,h1,h2,h3,h4⟩
 ·by_cases hm:ws.length=0
  ·have:ws=[]:=Gu hm
   subst this
   exact⟨.nilS,h,rfl,.inl ⟨rfl,rfl⟩,he,Ge _,fun j b hj hn=>⟨hj,fun o n c hc=>by cases hc⟩⟩
  ·refine⟨.slc h.length 0 ws.length none,h++[.cells ws true 1],?_,?_,he.app _,by simp,?_⟩
   ·simp only[ZG]
    rw[if_neg hm,if_pos (by simpa using hb)]
   ·exact .inr ⟨h.length,none,ws,by simp,hl,by simp,by simp,by simp[Qcj]⟩
   ·intro j b hj hn
    have hjl:=(Gb.1 hj).1
    exact⟨YN j b hj,fun o n c hc=>by cases hc;omega⟩
 ·have hid:id<h.length:=(Gb.1 h2).1
  have hlen:vs.length<=cs.length:=by
   have:=congrArg List.length h3
   simp at this
   omega
  by_cases hm:ws.length=0
  ·have:ws=[]:=Gu hm
   subst this
   refine⟨.slc id 0 vs.length cap,h,rfl,.inr ⟨id,cap,cs,by simp,h1,h2,by simpa using h3,by simpa using h4⟩,he,Ge _,fun j b hj hn=>⟨hj,hn⟩⟩
  have hcut:cut cs 0 (vs.length*1)=some vs:=by
   unfold cut
   rw[if_pos (by omega)]
   simp[h3]
  have fresh:∀(j:Nat) (b:Blk),h[j]?=some b->∀ k,Ys (SV.slc h.length 0 k none) j:=by
   intro j b hj k o n c hc
   have:=(Gb.1 hj).1
   cases hc;omega
  cases cap with
  | none =>
   refine⟨.slc h.length 0 (vs.length+ws.length) none,h.set id (.dead 1)++[.cells (vs++ws) true 1],?_,?_,(he.set h1 _).app _,by simp,?_⟩
   ·simp only[ZG]
    rw[if_neg hm,if_pos hb,h2]
    simp only[if_true,ESz.one_n,hcut,ESz.one_ty]
    rw[if_pos (by simp)]
   ·refine .inr ⟨h.length,none,vs++ws,by simp,hl,?_,GH,by simp[Qcj]⟩
    rw[Gk (by simp)];simp
   ·intro j b hj hn
    have hne:id≠j:=fun e=>by subst e;exact hn _ _ _ rfl
    refine⟨YN j b ?_,fresh j b hj _⟩
    rw[Gn hne];exact hj
  | some c =>
   obtain⟨h5,h6⟩:=h4
   by_cases hc:c<vs.length+ws.length
   ·refine⟨.slc h.length 0 (vs.length+ws.length) none,h++[.cells (vs++ws) true 1],?_,?_,he.app _,by simp,?_⟩
    ·simp only[ZG]
     rw[if_neg hm,if_pos hb,h2]
     simp only[if_true,ESz.one_n,hcut]
     rw[if_pos hc]
    ·refine .inr ⟨h.length,none,vs++ws,by simp,hl,?_,GH,by simp[Qcj]⟩
     rw[Gk (Ge _)];simp
    ·exact fun j b hj hn=>⟨YN j b hj,fresh j b hj _⟩
   ·have hsp:Xf cs (0+vs.length*1) ws=vs++ws++cs.drop (vs.length+ws.length):=by
     unfold Xf
     simp[h3]
    refine⟨.slc id 0 (vs.length+ws.length) (some c),h.set id (.cells (Xf cs (0+vs.length*1) ws) true 1),?_,?_,he.set h1 _,by simp,?_⟩
    ·simp only[ZG]
     rw[if_neg hm,if_pos hb,h2]
     simp only[if_true,ESz.one_n,hcut]
     rw[if_neg hc]
     simp only[Xz,h2]
     rw[if_pos (by omega)];rfl
    ·refine .inr ⟨id,some c,Xf cs (0+vs.length*1) ws,by simp,h1,?_,?_,?_,by simp;omega⟩
     ·rw[GI hid]
     ·rw[hsp,show (vs++ws).length=(vs++ws).length from rfl];exact List.take_left
     ·rw[hsp];simp;omega
    ·intro j b hj hn
     have hne:id≠j:=fun e=>by subst e;exact hn _ _ _ rfl
     refine⟨?_,fun o n c' e=>hn _ _ _ (by cases e;rfl)⟩
     rw[Gn hne];exact hj
theorem IsSl.keep{h h':Qa}{t:SV}{e:ESz}{n:Nat}{ws:List SV}(ht:IsSl h t e n ws)(hk:∀(j:Nat) (b:Blk),h[j]?=some b->¬ Ys t j->h'[j]?=some b):IsSl h' t e n ws:=by
 rcases ht with hs|⟨id,off,cap,b,rfl,h1,h2⟩
 ·exact .inl hs
 ·exact .inr ⟨id,off,cap,b,rfl,hk id b h1 (fun hn=>hn _ _ _ rfl),h2⟩
def Apart(s t:SV):Prop:=∀ j,Ys s j∨Ys t j
theorem Apart.symm{s t:SV}(h:Apart s t):Apart t s:=fun j=>(h j).symm
theorem IsSl.away{h h':Qa}{s s' t:SV}{e:ESz}{n:Nat}{ws:List SV}(ht:IsSl h t e n ws)(hf:Fram h h' s s')(ha:Apart s t):IsSl h' t e n ws :=
 ht.keep fun j b hj hn=>(hf j b hj ((ha j).resolve_right hn)).1
theorem Fram.apart{h h':Qa}{s s' t:SV}{e:ESz}{n:Nat}{ws:List SV}(hf:Fram h h' s s')(ht:IsSl h t e n ws)(ha:Apart s t):Apart s' t:=by
 intro j
 rcases ht with ⟨rfl,-⟩|⟨id,off,cap,b,rfl,h1,-⟩
 ·exact .inr fun o n c hc=>by cases hc
 ·by_cases hj:j=id
  ·subst hj
   rcases ha j with h2|h2
   ·exact .inl (hf j b h1 h2).2
   ·exact absurd rfl (h2 _ _ _)
  ·exact .inr fun o n c hc=>hj (by cases hc;rfl)
theorem IsSl.ext{h h':Qa}{t:SV}{e:ESz}{n:Nat}{ws:List SV}(ht:IsSl h t e n ws)(he:Ext h h'):IsSl h' t e n ws:=IsSl.mono ht he.get
theorem Own.weaken{h0 h1 h:Qa}{s:SV}{vs:List SV}(hs:Own h1 h s vs)(hl:h0.length<=h1.length):Own h0 h s vs:=by
 rcases hs with hs|⟨id,cap,cs,rfl,h1,h2,h3⟩
 ·exact .inl hs
 ·exact .inr ⟨id,cap,cs,rfl,by omega,h2,h3⟩
theorem Own.ext{h0 h h':Qa}{s:SV}{vs:List SV}(hs:Own h0 h s vs)(he:Ext h h'):Own h0 h' s vs:=by
 rcases hs with hs|⟨id,cap,cs,rfl,h1,h2,h3⟩
 ·exact .inl hs
 ·exact .inr ⟨id,cap,cs,rfl,h1,he.get _ _ h2,h3⟩
section
variable {FT:zzA} {HK:zzH} {E:Env} {h:Qa} {K:Env->Qa->Prop} {d:Option Nat} {r:List AOp} {x y:AO}
theorem k_app{h0:Qa}{s t:SV}{vs ws:List SV}{bytes:Nat}{z:List SV}(he:Ext h0 h)(ho:Own h0 h s vs)(hx:evS E x=some s)(hy:evS E y=some t)(hs:XZ h 1 t=some (ws.length,ws))(hb:(vs.length+ws.length)*(bytes+1)<=Yh)
  (hw:∀ s' h',Own h0 h' s' (vs++ws)->Ext h0 h'->h.length<=h'.length->Fram h h' s s'->Qk FT HK r (Qw d (some (.sc s')) E) h' K):Qk FT HK (⟨d,.app 1 bytes z x y,none⟩::r) E h K:=by
 obtain⟨s',h',h1,h2,h3,h4,h5⟩:=Qix (ws:=ws) (bytes:=bytes) he ho hb
 refine Xi (v:=some (.sc s')) (h':=h') rfl rfl ?_ (hw s' h' h2 h3 h4 h5)
 simp only[Ql,hx,hy,Gi,ESz.one_n,hs,h1]
 rfl
theorem Qk6{lo hi:Option AO}{s s':SV}{n:Int}{l u:Nat}(hx:evS E x=some s)(hn:Yv false s=some n)(hl:bnd E 0 lo=some l)(hu:bnd E n.toNat hi=some u)(hs:Jr l u s=some s')
  (hw:Qk FT HK r (Qw d (some (.sc s')) E) h K):Qk FT HK (⟨d,.sl1 x lo hi,none⟩::r) E h K :=
 Xi rfl rfl (by simp only[Ql,hx,hn,hl,hu,Gi,hs];rfl) hw
variable {rd:List (AOp×Nat×Bool)}
theorem Xm(hw:Qk FT HK [] E h K):QP FT HK [] E h K:=hw
end
end Go.Ab
namespace Go.Ab
theorem Fram.trans{a b c:Qa}{s t u:SV}(h1:Fram a b s t)(h2:Fram b c t u):Fram a c s u:=fun j x hj hn =>
 let ⟨p,q⟩:=h1 j x hj hn;h2 j x p q
section
variable {FT:zzA} {HK:zzH} {E:Env} {h:Qa} {K:Env->Qa->Prop} {r:List AOp}
end
section
variable {FT:zzA} {HK:zzH} {E:Env} {h:Qa} {K:Env->Qa->Prop} {d:Option Nat} {r:List AOp} {x lo hi:AO}
theorem Qhh{n:Nat}{y:AO}{kd:IntKind}{m:Int}(hy:evS E y=some (.int kd m))(h0:0<=m):bnd E n (some y)=some m.toNat:=by
 simp only[bnd,hy];rw[if_pos h0]
theorem k_to{s s':SV}{n m:Int}{kd:IntKind}(hx:evS E x=some s)(hn:Yv false s=some n)(hh:evS E hi=some (.int kd m))(h0:0<=m)(hs:Jr 0 m.toNat s=some s')
  (hw:Qk FT HK r (Qw d (some (.sc s')) E) h K):Qk FT HK (⟨d,.sl1 x none (some hi),none⟩::r) E h K :=
 Qk6 hx hn rfl (Qhh hh h0) hs hw
end
section
variable {FT:zzA} {HK:zzH} {E:Env} {h:Qa} {K:Env->Qa->Prop} {d:Option Nat} {r:List AOp} {x y:AO}
end
theorem lit_i64{n:Int}(w:(Lit.int .i64 n).wf=true) : -9223372036854775808<=n/\n<=9223372036854775807:=by
 simp[Lit.wf]at w;exact w
theorem IsInts.lit{h:Qa}{xs:List Int}{cs:List SV}{rw':Bool}{n:Nat}{c:Option Nat}(hc:cs=xs.map (.int .i64))(hn:xs.length=n):IsInts (h++[.cells cs rw' 1]) (.slc h.length 0 n c) xs:=by
 subst hc hn
 refine .inr ⟨h.length,0,c,_,rfl,by simp,rfl,fun h0=>by rw[Gu h0];rfl,fun _=>⟨xs.map (.int .i64),rw',rfl,?_⟩⟩
 unfold cut
 simp only[ESz.one_n]
 rw[if_pos (by simp)]
 simp only[Hi,Option.some.injEq]
 exact Gx (by simp)
section
variable {FT:zzA} {HK:zzH} {E:Env} {h:Qa} {K:Env->Qa->Prop} {d:Option Nat} {r:List AOp} {x y:AO}
theorem YE{kd:IntKind}{m:Int}(hx:evS E x=some (.int kd m))(hr : -9223372036854775808<=m/\m<=9223372036854775807)(hw:Qk FT HK r (Qw d (some (.sc (.int .i64 m))) E) h K):Qk FT HK (⟨d,.conv .i64 x,none⟩::r) E h K :=
 Jw rfl rfl (by simp only[Ql,hx];rfl) hr hw
end
set_option linter.all false
def Blk.At(h:Qa)(id:Nat)(cs:List SV):Prop:=∃ rw' z,h[id]?=some (.cells cs rw' z)
theorem Blk.At.read{h:Qa}{id off n:Nat}{cs vs:List SV}(hb:Blk.At h id cs)(hc:cut cs off n=some vs):Q9 h id off n=some vs:=by
 obtain⟨rw',z,h1⟩:=hb
 simp only[Q9,h1,hc]
section
variable {FT:zzA} {HK:zzH} {E:Env} {h:Qa} {K:Env->Qa->Prop} {d:Option Nat} {r:List AOp} {x y:AO}
theorem X5{id off:Nat}{v:SV}{cs:List SV}(hx:evS E x=some (.ptr id off))(hb:Blk.At h id cs)(hv:cut cs off 1=some [v])
 (hw:Qk FT HK r (Qw d (some (.sc v)) E) h K):Qk FT HK (⟨d,.ld 1 false x,none⟩::r) E h K:=Qjs rfl hx (hb.read hv) hw
theorem k_ldA{id off n:Nat}{cs vs:List SV}(hx:evS E x=some (.ptr id off))(hb:Blk.At h id cs)(hv:cut cs off n=some vs)
 (hw:Qk FT HK r (Qw d (some (.agg vs)) E) h K):Qk FT HK (⟨d,.ld n true x,none⟩::r) E h K:=QkR rfl hx (hb.read hv) hw
theorem QS{id off o:Nat}(hx:evS E x=some (.ptr id o))(hw:Qk FT HK r (Qw d (some (.sc (.ptr id (o+off)))) E) h K):Qk FT HK (⟨d,.fldA off x,none⟩::r) E h K :=
 Xi rfl rfl (by simp only[Ql,hx]) hw
end
theorem Own.rd{h0 h:Qa}{s:SV}{vs:List SV}{i:Nat}{v:SV}(ho:Own h0 h s vs)(hv:vs[i]?=some v):∃ id cap,s = .slc id 0 vs.length cap/\Q9 h id (0+i*1) 1=some [v]:=by
 rcases ho with ⟨rfl,rfl⟩|⟨id,cap,cs,rfl,h1,h2,h3,h4⟩
 ·simp at hv
 ·refine⟨id,cap,rfl,?_⟩
  have hi:=(Gb.1 hv).1
  have hl:vs.length<=cs.length:=by have:=congrArg List.length h3;simp at this;omega
  have hc:cs[i]?=some v:=by
   rw[← h3,List.getElem?_take_of_lt hi]at hv
   exact hv
  simp only[Q9,h2]
  unfold cut
  rw[if_pos (by omega)]
  obtain⟨h9,h10⟩:=Gb.1 hc
  simp only[Hc,Hd]
  rw[Hn h9,h10];rfl
theorem Own.wr{h0 h:Qa}{s:SV}{vs:List SV}{i:Nat}(he:Ext h0 h)(ho:Own h0 h s vs)(hi:i<vs.length)(v:SV) :
  ∃ id cap h',s = .slc id 0 vs.length cap/\Xz h id (0+i*1) [v]=some h'/\Own h0 h' s (vs.set i v)/\Ext h0 h'/\Fram h h' s s/\h'.length=h.length:=by
 rcases ho with ⟨rfl,rfl⟩|⟨id,cap,cs,rfl,h1,h2,h3,h4⟩
 ·simp at hi
 ·have hl:vs.length<=cs.length:=by have:=congrArg List.length h3;simp at this;omega
  have hid:id<h.length:=(Gb.1 h2).1
  have hsp:Xf cs i [v]=cs.set i v:=by
   rw[List.set_eq_take_append_cons_drop,if_pos (by omega)]
   simp[Xf]
  refine⟨id,cap,h.set id (.cells (cs.set i v) true 1),rfl,?_,.inr ⟨id,cap,cs.set i v,by simp,h1,GI hid,?_,?_⟩,he.set h1 _,?_,by simp⟩
  ·simp only[Xz,h2,Hc,Hd,List.length_singleton]
   rw[if_pos (by omega),hsp]
  ·rw[Hb,List.take_set,h3]
  ·cases cap with
   | none=>simpa [Qcj]using h4
   | some c=>simpa [Qcj]using h4
  ·intro j b hj hn
   have hne:id≠j:=fun e=>by subst e;exact hn _ _ _ rfl
   exact⟨by rw[Gn hne];exact hj,hn⟩
