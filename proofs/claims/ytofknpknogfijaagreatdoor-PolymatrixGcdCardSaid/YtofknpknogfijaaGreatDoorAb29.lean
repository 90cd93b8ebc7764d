import Derived.Test.YtofknpknogfijaaGreatDoorAb27
/- A memory that is what was there and a few blocks more,each known. -/
namespace Go.Ab
set_option linter.all false
section
variable {FT:zzA} {HK:zzH} {E:Env} {h0 L L':Qa} {K:Env->Qa->Prop} {d:Option Nat} {r:List AOp} {x y:AO}
theorem QY{h:Qa}{a id off n:Nat}{vs:List SV}{Q:AV->Prop}(hE:E.get a=some (.sc (.ptr id off)))(hr:Q9 h id off n=some vs)(hK:Q (.agg vs)):oK (XK [.cell a n true] E h) Q:=by
 have:XK [.cell a n true] E h=some (.agg vs):=by simp only[XK,Z6,hE,hr,Gi,YU,if_true,AV.pv,Gm,PV.av]
 rw[this];exact hK
theorem XL{h:Qa}{a id off n t:Nat}{vs:List SV}{v:SV}{Q:AV->Prop}(hE:E.get a=some (.sc (.ptr id off)))(hr:Q9 h id off n=some vs)(ht:E.get t=some (.sc v))(hK:Q (.tup [.agg vs,.sc v])):oK (XK [.cell a n true,.t t] E h) Q:=by
 have:XK [.cell a n true,.t t] E h=some (.tup [.agg vs,.sc v]):=by simp only[XK,Zu,Z6,hE,hr,ht,Gi,YU,if_true,AV.pv,Gm]
 rw[this];exact hK
theorem Xp{zero cs:List SV}{parts:List (Nat×Nat×AO)}{ps:List (Nat×Nat×List SV)}{h:Qa}(hp:Yk E parts=some ps)(hf:ZA zero ps=some cs)
  (hw:Qk FT HK r (Qw d (some (.agg cs)) E) h K):Qk FT HK (⟨d,.bld zero parts,none⟩::r) E h K :=
 Xi rfl rfl (by simp only[Ql,hp,Gi,hf,Gm]) hw
end
def Cel(h:Qa)(q:Nat)(a b:SV):Prop:=h[q]?=some (.cells [a,b] true 0)
theorem Cel.lt{h:Qa}{q:Nat}{a b:SV}(c:Cel h q a b):q<h.length:=(Gb.1 c).1
theorem Cel.ext{h h':Qa}{q:Nat}{a b:SV}(c:Cel h q a b)(he:Ext h h'):Cel h' q a b:=he.get _ _ c
theorem Cel.at{h:Qa}{q:Nat}{a b:SV}(c:Cel h q a b):Blk.At h q [a,b]:=⟨true,0,c⟩
structure Wr(h h1:Qa)(q:Nat)(a b:SV):Prop where
 eq:h1=h.set q (.cells [a,b] true 0)
 old:∃ c d,Cel h q c d
theorem Wr.cel{h h1:Qa}{q:Nat}{a b:SV}(w:Wr h h1 q a b):Cel h1 q a b:=by
 obtain⟨c,d,h2⟩:=w.old
 rw[w.eq];exact GI h2.lt
theorem Wr.keep{h h1:Qa}{q j:Nat}{a b x y:SV}(w:Wr h h1 q a b)(c:Cel h j x y)(hj:j≠q):Cel h1 j x y:=by
 rw[w.eq];unfold Cel;rw[Gn (Ne.symm hj)];exact c
theorem Wr.ext{h0 h h1:Qa}{q:Nat}{a b:SV}(w:Wr h h1 q a b)(he:Ext h0 h)(hq:h0.length<=q):Ext h0 h1:=by
 rw[w.eq];exact he.set hq _
section
variable {FT:zzA} {HK:zzH} {E:Env} {h:Qa} {K:Env->Qa->Prop} {d:Option Nat} {r:List AOp} {x y:AO}
theorem QQ{a b:SV}(hw:∀ h1,Ext h h1->Cel h1 h.length a b->Qk FT HK r (Qw d (some (.sc (.ptr h.length 0))) E) h1 K) :
  Qk FT HK (⟨d,.new [a,b],none⟩::r) E h K :=
 Xi (v:=some (.sc (.ptr h.length 0))) (h':=h++[.cells [a,b] true 0]) rfl rfl rfl (hw _ ⟨_,rfl⟩ (by simp[Cel]))
theorem Qr{a b:SV}(hx:ev E x=some (.agg [a,b]))(hw:∀ h1,Ext h h1->Cel h1 h.length a b->Qk FT HK r (Qw d (some (.sc (.ptr h.length 0))) E) h1 K) :
  Qk FT HK (⟨d,.box x,none⟩::r) E h K :=
 Xi (v:=some (.sc (.ptr h.length 0))) (h':=h++[.cells [a,b] true 0]) rfl rfl (by simp only[Ql,hx,Gi,AV.cells,Gm]) (hw _ ⟨_,rfl⟩ (by simp[Cel]))
theorem QT{t:Nat}{a b u v:SV}(hx:ev (Qw (some t) (some (.sc (.ptr h.length 0))) E) x=some (.agg [u,v]))(hw:∀ h1,Ext h h1->Cel h1 h.length u v->Qk FT HK r (Qw (some t) (some (.sc (.ptr h.length 0))) E) h1 K) :
  Qk FT HK (⟨some t,.new [a,b],none⟩::⟨none,.st 2 (.t t) x,none⟩::r) E h K:=by
 refine Xi (v:=some (.sc (.ptr h.length 0))) (h':=h++[.cells [a,b] true 0]) rfl rfl rfl ?_
 refine Xi (v:=none) (h':=h++[.cells [u,v] true 0]) rfl rfl ?_ (hw _ ⟨_,rfl⟩ (by simp[Cel]))
 have h1:evS (Qw (some t) (some (.sc (.ptr h.length 0))) E) (.t t)=some (.ptr h.length 0):=by simp[evS,ev,Qw,Env.get]
 simp[Ql,h1,hx,AV.cells,Xz,Xf]
theorem Qv{q:Nat}{a b:SV}(hx:evS E x=some (.ptr q 0))(hc:Cel h q a b)(hw:Qk FT HK r (Qw d (some (.agg [a,b])) E) h K):Qk FT HK (⟨d,.ld 2 true x,none⟩::r) E h K:=k_ldA hx hc.at rfl hw
theorem QB{q:Nat}{a b:SV}(hx:evS E x=some (.ptr q (0+0)))(hc:Cel h q a b)(hw:Qk FT HK r (Qw d (some (.sc a)) E) h K):Qk FT HK (⟨d,.ld 1 false x,none⟩::r) E h K:=X5 hx hc.at rfl hw
theorem Qt{q:Nat}{a b:SV}(hx:evS E x=some (.ptr q (0+1)))(hc:Cel h q a b)(hw:Qk FT HK r (Qw d (some (.sc b)) E) h K):Qk FT HK (⟨d,.ld 1 false x,none⟩::r) E h K:=X5 hx hc.at rfl hw
theorem QZ{q:Nat}{a b u v:SV}{p:AO}(ha:evS E p=some (.ptr q 0))(hx:ev E x=some (.agg [a,b]))(hc:Cel h q u v)(hw:∀ h1,Wr h h1 q a b->Qk FT HK r (Qw d none E) h1 K) :
  Qk FT HK (⟨d,.st 2 p x,none⟩::r) E h K :=
 Xi (v:=none) (h':=h.set q (.cells [a,b] true 0)) rfl rfl (by
  have hc':h[q]?=some (.cells [u,v] true 0):=hc
  simp[Ql,ha,hx,AV.cells,Xz,hc',Xf]) (hw _ ⟨rfl,_,_,hc⟩)
theorem Xo{f:FuncId}{caps:List (Nat×Nat)}{args:List AO}{vs:List AV}{R:AV->Qa->Prop}(hx:evS E x=some (.fn f caps))(ha:evs E args=some vs)(hc:∃ v h',Cal FT HK f (vs++caps.map fun p=>AV.sc (.ptr p.1 p.2)) h v h'/\R v h')
  (hw:∀ v h',R v h'->Qk FT HK r (Qw d (some v) E) h' K):Qk FT HK (⟨d,.callv x args,none⟩::r) E h K:=by
 show wOp FT HK _ _ _ _
 unfold wOp
 refine⟨fun _=>?_,fun hc=>absurd rfl hc⟩
 show wK FT HK E h (.callv x args) _
 simp only[wK,hx,ha]
 exact Qa6 hc hw
theorem Cel.read{q:Nat}{a b:SV}(c:Cel h q a b):Q9 h q 0 2=some [a,b]:=c.at.read rfl
end
def Own2(h0 h:Qa)(s:SV)(n:Nat)(cs:List SV):Prop :=
 (s = .nilS/\n=0/\cs=[])∨∃ id,s = .slc id 0 n none/\h0.length<=id/\h[id]?=some (.cells cs true 2)/\cs.length=n*2/\0<n
theorem Own2.len{h0 h:Qa}{s:SV}{n:Nat}{cs:List SV}(ho:Own2 h0 h s n cs):Yv false s=some (n:Int):=by
 rcases ho with ⟨rfl,rfl,rfl⟩|⟨id,rfl,_⟩ <;> rfl
theorem ez2:(2:ESz).n=2:=rfl
section
variable {FT:zzA} {HK:zzH} {E:Env} {h h0:Qa} {K:Env->Qa->Prop} {d:Option Nat} {r:List AOp} {xo so:AO}
end
