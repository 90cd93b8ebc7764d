import Derived.Test.YtofknpknogfijaaGreatDoorAb25
/- Slices of one's own: append of any slice;parts of slices;regions that draw their order. -/
namespace Go.Ab
set_option linter.all false
def XW(s:SV)(j:Nat):Prop:=∀ o n c,s ≠ .slc j o n c
def Fram(h h':Qa)(s s':SV):Prop:=∀(j:Nat) (b:Blk),h[j]?=some b->XW s j->h'[j]?=some b/\XW s' j
theorem IsSl.src{h:Qa}{t:SV}{n:Nat}{ws:List SV}(ht:IsSl h t 1 n ws)(hn:ws.length=n):Xs h 1 t=some (n,ws):=by
 rcases ht with ⟨rfl,rfl,rfl⟩|⟨id,off,cap,b,rfl,h1,h2,h3,h4⟩
 ·rfl
 ·simp only[Xs]
  by_cases h0:n=0
  ·subst h0;rw[h3 rfl];rfl
  ·rw[if_neg h0]
   obtain⟨cs,rw',rfl,hc⟩:=h4 (by omega)
   simp only[Q3,h1]
   simp only[ESz.one_n]at hc
   rw[hc];rfl
theorem IsInts.src{h:Qa}{t:SV}{xs:List Int}(ht:IsInts h t xs):Xs h 1 t=some ((xs.map (SV.int .i64)).length,xs.map (.int .i64)):=by
 have:=IsSl.src (n:=xs.length) ht (by simp)
 simpa using this
theorem Qkw{h0 h:Qa}{s:SV}{vs ws:List SV}{bytes:Nat}(he:Ext h0 h)(ho:Own h0 h s vs)(hb:(vs.length+ws.length)*(bytes+1)<=XS) :
  ∃ s' h',Y0 h 1 bytes s ws.length ws=some (s',h')/\Own h0 h' s' (vs++ws)/\Ext h0 h'/\h.length<=h'.length/\Fram h h' s s':=by
 have hl:=he.len
 rcases ho with ⟨rfl,rfl⟩|⟨id,cap,cs,rfl,h1,h2,h3,h4⟩
 ·by_cases hm:ws.length=0
  ·have:ws=[]:=Gw hm
   subst this
   exact⟨.nilS,h,rfl,.inl ⟨rfl,rfl⟩,he,Gd _,fun j b hj hn=>⟨hj,fun o n c hc=>by cases hc⟩⟩
  ·refine⟨.slc h.length 0 ws.length none,h++[.cells ws true 1],?_,?_,he.app _,by simp,?_⟩
   ·simp only[Y0]
    rw[if_neg hm,if_pos (by simpa using hb)]
   ·exact .inr ⟨h.length,none,ws,by simp,hl,by simp,by simp,by simp[Qbs]⟩
   ·intro j b hj hn
    have hjl:=(Gb.1 hj).1
    exact⟨X5 j b hj,fun o n c hc=>by cases hc;omega⟩
 ·have hid:id<h.length:=(Gb.1 h2).1
  have hlen:vs.length<=cs.length:=by
   have:=congrArg List.length h3
   simp at this
   omega
  by_cases hm:ws.length=0
  ·have:ws=[]:=Gw hm
   subst this
   refine⟨.slc id 0 vs.length cap,h,rfl,.inr ⟨id,cap,cs,by simp,h1,h2,by simpa using h3,by simpa using h4⟩,he,Gd _,fun j b hj hn=>⟨hj,hn⟩⟩
  have hcut:cut cs 0 (vs.length*1)=some vs:=by
   unfold cut
   rw[if_pos (by omega)]
   simp[h3]
  have fresh:∀(j:Nat) (b:Blk),h[j]?=some b->∀ k,XW (SV.slc h.length 0 k none) j:=by
   intro j b hj k o n c hc
   have:=(Gb.1 hj).1
   cases hc;omega
  cases cap with
  | none =>
   refine⟨.slc h.length 0 (vs.length+ws.length) none,h.set id (.dead 1)++[.cells (vs++ws) true 1],?_,?_,(he.set h1 _).app _,by simp,?_⟩
   ·simp only[Y0]
    rw[if_neg hm,if_pos hb,h2]
    simp only[if_true,ESz.one_n,hcut,ESz.one_ty]
    rw[if_pos (by simp)]
   ·refine .inr ⟨h.length,none,vs++ws,by simp,hl,?_,Gx,by simp[Qbs]⟩
    rw[Gi (by simp)];simp
   ·intro j b hj hn
    have hne:id≠j:=fun e=>by subst e;exact hn _ _ _ rfl
    refine⟨X5 j b ?_,fresh j b hj _⟩
    rw[Gk hne];exact hj
  | some c =>
   obtain⟨h5,h6⟩:=h4
   by_cases hc:c<vs.length+ws.length
   ·refine⟨.slc h.length 0 (vs.length+ws.length) none,h++[.cells (vs++ws) true 1],?_,?_,he.app _,by simp,?_⟩
    ·simp only[Y0]
     rw[if_neg hm,if_pos hb,h2]
     simp only[if_true,ESz.one_n,hcut]
     rw[if_pos hc]
    ·refine .inr ⟨h.length,none,vs++ws,by simp,hl,?_,Gx,by simp[Qbs]⟩
     rw[Gi (Gd _)];simp
    ·exact fun j b hj hn=>⟨X5 j b hj,fresh j b hj _⟩
   ·have hsp:Q8 cs (0+vs.length*1) ws=vs++ws++cs.drop (vs.length+ws.length):=by
     unfold Q8
     simp[h3]
    refine⟨.slc id 0 (vs.length+ws.length) (some c),h.set id (.cells (Q8 cs (0+vs.length*1) ws) true 1),?_,?_,he.set h1 _,by simp,?_⟩
    ·simp only[Y0]
     rw[if_neg hm,if_pos hb,h2]
     simp only[if_true,ESz.one_n,hcut]
     rw[if_neg hc]
     simp only[Xx,h2]
     rw[if_pos (by omega)];rfl
    ·refine .inr ⟨id,some c,Q8 cs (0+vs.length*1) ws,by simp,h1,?_,?_,?_,by simp;omega⟩
     ·rw[GA hid]
     ·rw[hsp,show (vs++ws).length=(vs++ws).length from rfl];exact List.take_left
     ·rw[hsp];simp;omega
    ·intro j b hj hn
     have hne:id≠j:=fun e=>by subst e;exact hn _ _ _ rfl
     refine⟨?_,fun o n c' e=>hn _ _ _ (by cases e;rfl)⟩
     rw[Gk hne];exact hj
theorem IsSl.keep{h h':Qa}{t:SV}{e:ESz}{n:Nat}{ws:List SV}(ht:IsSl h t e n ws)(hk:∀(j:Nat) (b:Blk),h[j]?=some b->¬ XW t j->h'[j]?=some b):IsSl h' t e n ws:=by
 rcases ht with hs|⟨id,off,cap,b,rfl,h1,h2⟩
 ·exact .inl hs
 ·exact .inr ⟨id,off,cap,b,rfl,hk id b h1 (fun hn=>hn _ _ _ rfl),h2⟩
def Apart(s t:SV):Prop:=∀ j,XW s j∨XW t j
theorem Apart.symm{s t:SV}(h:Apart s t):Apart t s:=fun j=>(h j).symm
theorem IsSl.away{h h':Qa}{s s' t:SV}{e:ESz}{n:Nat}{ws:List SV}(ht:IsSl h t e n ws)(hf:Fram h h' s s')(ha:Apart s t):IsSl h' t e n ws :=
 ht.keep fun j b hj hn=>(hf j b hj ((ha j).resolve_right hn)).1
theorem Fram.apart{h h':Qa}{s s' t:SV}{e:ESz}{n:Nat}{ws:List SV}(hf:Fram h h' s s')(ht:IsSl h t e n ws)(ha:Apart s t):Apart s' t:=by
 intro j
 rcases ht with ⟨rfl,-⟩|⟨id,off,cap,b,rfl,h1,-⟩
 ·exact .inr fun o n c hc=>by cases hc
 ·by_cases hj:j=id
  ·subst hj
   rcases ha j with h2|h2
   ·exact .inl (hf j b h1 h2).2
   ·exact absurd rfl (h2 _ _ _)
  ·exact .inr fun o n c hc=>hj (by cases hc;rfl)
theorem IsSl.ext{h h':Qa}{t:SV}{e:ESz}{n:Nat}{ws:List SV}(ht:IsSl h t e n ws)(he:Ext h h'):IsSl h' t e n ws:=IsSl.mono ht he.get
theorem Own.ext{h0 h h':Qa}{s:SV}{vs:List SV}(hs:Own h0 h s vs)(he:Ext h h'):Own h0 h' s vs:=by
 rcases hs with hs|⟨id,cap,cs,rfl,h1,h2,h3⟩
 ·exact .inl hs
 ·exact .inr ⟨id,cap,cs,rfl,h1,he.get _ _ h2,h3⟩
section
variable {FT:zzA} {HK:zzH} {E:Env} {h:Qa} {K:Env->Qa->Prop} {d:Option Nat} {r:List AOp} {x y:AO}
theorem Qag{h0:Qa}{s t:SV}{vs ws:List SV}{bytes:Nat}{z:List SV}(he:Ext h0 h)(ho:Own h0 h s vs)(hx:evS E x=some s)(hy:evS E y=some t)(hs:Xs h 1 t=some (ws.length,ws))(hb:(vs.length+ws.length)*(bytes+1)<=XS)
  (hw:∀ s' h',Own h0 h' s' (vs++ws)->Ext h0 h'->h.length<=h'.length->Fram h h' s s'->Qm FT HK r (Qv d (some (.sc s')) E) h' K):Qm FT HK (⟨d,.app 1 bytes z x y,none⟩::r) E h K:=by
 obtain⟨s',h',h1,h2,h3,h4,h5⟩:=Qkw (ws:=ws) (bytes:=bytes) he ho hb
 refine Q2 (v:=some (.sc s')) (h':=h') rfl rfl ?_ (hw s' h' h2 h3 h4 h5)
 simp only[Qo,hx,hy,Gl,ESz.one_n,hs,h1]
 rfl
theorem Qhw{lo hi:Option AO}{s s':SV}{n:Int}{l u:Nat}(hx:evS E x=some s)(hn:Yh false s=some n)(hl:bnd E 0 lo=some l)(hu:bnd E n.toNat hi=some u)(hs:Y7 l u s=some s')
  (hw:Qm FT HK r (Qv d (some (.sc s')) E) h K):Qm FT HK (⟨d,.sl1 x lo hi,none⟩::r) E h K :=
 Q2 rfl rfl (by simp only[Qo,hx,hn,hl,hu,Gl,hs];rfl) hw
variable {rd:List (AOp×Nat×Bool)}
theorem Xn(hw:Qm FT HK [] E h K):QZ FT HK [] E h K:=hw
end
end Go.Ab
namespace Go.Ab
theorem Fram.trans{a b c:Qa}{s t u:SV}(h1:Fram a b s t)(h2:Fram b c t u):Fram a c s u:=fun j x hj hn =>
 let ⟨p,q⟩:=h1 j x hj hn;h2 j x p q
section
variable {FT:zzA} {HK:zzH} {E:Env} {h:Qa} {K:Env->Qa->Prop} {r:List AOp}
theorem QlP{id off:Nat}{v:SV}{h':Qa}{d:Option Nat}{p x:AO}(ha:evS E p=some (.ptr id off))(hx:evS E x=some v)(hr:Xx h id off [v]=some h')
 (hw:Qm FT HK r (Qv d none E) h' K):Qm FT HK (⟨d,.st 1 p x,none⟩::r) E h K:=QlG rfl ha (by
  unfold evS at hx
  split at hx
  ·simp at hx;subst hx;assumption
  ·simp at hx) hr hw
end
section
variable {FT:zzA} {HK:zzH} {E:Env} {h:Qa} {K:Env->Qa->Prop} {d:Option Nat} {r:List AOp} {x lo hi:AO}
theorem yW{n:Nat}{y:AO}{kd:IntKind}{m:Int}(hy:evS E y=some (.int kd m))(h0:0<=m):bnd E n (some y)=some m.toNat:=by
 simp only[bnd,hy];rw[if_pos h0]
theorem k_to{s s':SV}{n m:Int}{kd:IntKind}(hx:evS E x=some s)(hn:Yh false s=some n)(hh:evS E hi=some (.int kd m))(h0:0<=m)(hs:Y7 0 m.toNat s=some s')
  (hw:Qm FT HK r (Qv d (some (.sc s')) E) h K):Qm FT HK (⟨d,.sl1 x none (some hi),none⟩::r) E h K :=
 Qhw hx hn rfl (yW hh h0) hs hw
theorem QhA{s s':SV}{n m:Int}{kd:IntKind}(hx:evS E x=some s)(hn:Yh false s=some n)(hl:evS E lo=some (.int kd m))(h0:0<=m)(hs:Y7 m.toNat n.toNat s=some s')
  (hw:Qm FT HK r (Qv d (some (.sc s')) E) h K):Qm FT HK (⟨d,.sl1 x (some lo) none,none⟩::r) E h K :=
 Qhw hx hn (yW hl h0) rfl hs hw
end
theorem Qkv{h0 h:Qa}{id:Nat}{ws:List SV}{bytes:Nat}(he:Ext h0 h)(ho:Own h0 h (.slc id 0 0 (some 0)) [])(hb:ws.length*(bytes+1)<=XS) :
  ∃ s' h',Y0 h 1 bytes (.slc id 0 0 (some 0)) ws.length ws=some (s',h')/\Own h0 h' s' ws/\Ext h h'/\Fram h h' (.slc id 0 0 (some 0)) s':=by
 by_cases hm:ws.length=0
 ·have:ws=[]:=Gw hm
  subst this
  exact⟨_,h,rfl,ho,Ext.refl h,fun j b hj hn=>⟨hj,hn⟩⟩
 ·rcases ho with ⟨h1,-⟩|⟨id',cap,cs,h1,h2,h3,h4,h5⟩
  ·cases h1
  ·cases h1
   have hl:=he.len
   obtain⟨h5,-⟩:=h5
   have hcs:cs=[]:=Gw h5
   subst hcs
   refine⟨.slc h.length 0 ws.length none,h++[.cells ws true 1],?_,.inr ⟨h.length,none,ws,rfl,hl,by simp,by simp,Gd _⟩,⟨_,rfl⟩,?_⟩
   ·simp only[Y0]
    rw[if_neg hm,if_pos (by simpa using hb),h3]
    simp only[if_true,ESz.one_n]
    have:cut [] 0 (0*1)=some ([]:List SV):=rfl
    rw[this]
    simp only
    rw[if_pos (by omega)]
    simp
   ·intro j b hj hn
    have hjl:=(Gb.1 hj).1
    exact⟨X5 j b hj,fun o n c hc=>by cases hc;omega⟩
theorem Own.lit0(h0:Qa):Own h0 (h0++[.cells [] true 1]) (.slc h0.length 0 0 (some 0)) [] :=
 .inr ⟨h0.length,some 0,[],rfl,Gd _,by simp,rfl,rfl,Gd _⟩
section
variable {FT:zzA} {HK:zzH} {E:Env} {h:Qa} {K:Env->Qa->Prop} {d:Option Nat} {r:List AOp} {x y:AO}
theorem Qn8{h0:Qa}{id:Nat}{t:SV}{ws:List SV}{bytes:Nat}{z:List SV}(he:Ext h0 h)(ho:Own h0 h (.slc id 0 0 (some 0)) [])(hx:evS E x=some (.slc id 0 0 (some 0)))(hy:evS E y=some t)(hs:Xs h 1 t=some (ws.length,ws))(hb:ws.length*(bytes+1)<=XS)
  (hw:∀ s' h',Own h0 h' s' ws->Ext h h'->Fram h h' (.slc id 0 0 (some 0)) s'->Qm FT HK r (Qv d (some (.sc s')) E) h' K):Qm FT HK (⟨d,.app 1 bytes z x y,none⟩::r) E h K:=by
 obtain⟨s',h',h1,h2,h3,h4⟩:=Qkv (ws:=ws) (bytes:=bytes) he ho hb
 refine Q2 (v:=some (.sc s')) (h':=h') rfl rfl ?_ (hw s' h' h2 h3 h4)
 simp only[Qo,hx,hy,Gl,ESz.one_n,hs,h1]
 rfl
end
section
variable {FT:zzA} {HK:zzH} {E:Env} {h:Qa} {K:Env->Qa->Prop} {d:Option Nat} {r:List AOp} {x y:AO}
theorem YG{kd:IntKind}{m:Int}(hx:evS E x=some (.int kd m))(hr : -9223372036854775808<=m/\m<=9223372036854775807)(hw:Qm FT HK r (Qv d (some (.sc (.int .i64 m))) E) h K):Qm FT HK (⟨d,.conv .i64 x,none⟩::r) E h K :=
 JA rfl rfl (by simp only[Qo,hx];rfl) hr hw
end
set_option linter.all false
def Blk.At(h:Qa)(id:Nat)(cs:List SV):Prop:=∃ rw' z,h[id]?=some (.cells cs rw' z)
theorem Blk.At.read{h:Qa}{id off n:Nat}{cs vs:List SV}(hb:Blk.At h id cs)(hc:cut cs off n=some vs):Q3 h id off n=some vs:=by
 obtain⟨rw',z,h1⟩:=hb
 simp only[Q3,h1,hc]
section
variable {FT:zzA} {HK:zzH} {E:Env} {h:Qa} {K:Env->Qa->Prop} {d:Option Nat} {r:List AOp} {x y:AO}
theorem XG{id off:Nat}{v:SV}{cs:List SV}(hx:evS E x=some (.ptr id off))(hb:Blk.At h id cs)(hv:cut cs off 1=some [v])
 (hw:Qm FT HK r (Qv d (some (.sc v)) E) h K):Qm FT HK (⟨d,.ld 1 false x,none⟩::r) E h K:=QlH rfl hx (hb.read hv) hw
theorem k_ldA{id off n:Nat}{cs vs:List SV}(hx:evS E x=some (.ptr id off))(hb:Blk.At h id cs)(hv:cut cs off n=some vs)
 (hw:Qm FT HK r (Qv d (some (.agg vs)) E) h K):Qm FT HK (⟨d,.ld n true x,none⟩::r) E h K:=QnD rfl hx (hb.read hv) hw
theorem QW{id off o:Nat}(hx:evS E x=some (.ptr id o))(hw:Qm FT HK r (Qv d (some (.sc (.ptr id (o+off)))) E) h K):Qm FT HK (⟨d,.fldA off x,none⟩::r) E h K :=
 Q2 rfl rfl (by simp only[Qo,hx]) hw
end
