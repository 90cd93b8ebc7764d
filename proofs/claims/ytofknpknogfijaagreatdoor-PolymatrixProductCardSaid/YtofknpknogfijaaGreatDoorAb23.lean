import Derived.Test.YtofknpknogfijaaGreatDoorAb20
/- Step by step through a region: each lemma one operation. -/
namespace Go.Ab
set_option linter.all false
section
variable {FT:zzA} {HK:zzH} {E:Env} {h:Qa} {K:Env->Qa->Prop} {d:Option Nat} {g:Option (Nat×Bool)} {r:List AOp}
def J6:AK->Bool
 | .call _ _=>true
 | .callv _ _=>true
 | _=>false
theorem QjF{k:AK}{K:Option AV->Qa->Prop}{v:Option AV}{h':Qa}(hk:J6 k=false)(hs:Qo E h k=some (v,h'))(hK:K v h'):wK FT HK E h k K:=by
 unfold wK
 split
 ·simp[J6]at hk
 ·simp[J6]at hk
 ·rw[hs];exact hK
theorem Q2{k:AK}{v:Option AV}{h':Qa}(hg:Yk E g=some true)(hk:J6 k=false)(hs:Qo E h k=some (v,h'))(hw:Qm FT HK r (Qv d v E) h' K):Qm FT HK (⟨d,k,g⟩::r) E h K:=by
 show wOp FT HK _ _ _ _
 unfold wOp
 rw[hg]
 exact⟨fun _=>QjF hk hs hw,fun hc=>absurd rfl hc⟩
theorem Qd8{k:AK}(hg:Yk E g=some false)(hw:Qm FT HK r (Qv d (some (.tup [])) E) h K):Qm FT HK (⟨d,k,g⟩::r) E h K:=by
 show wOp FT HK _ _ _ _
 unfold wOp
 rw[hg]
 exact⟨fun hc=>absurd hc (by simp),fun _=>hw⟩
theorem op_eq{k:AK}{x y:SV}{h':Qa}(hg:Yk E g=some true)(hk:J6 k=false)(hs:Qo E h k=some (some (.sc x),h'))(he:x=y)(hw:Qm FT HK r (Qv d (some (.sc y)) E) h' K):Qm FT HK (⟨d,k,g⟩::r) E h K:=by
 subst he
 exact Q2 hg hk hs hw
theorem JA{k:AK}{n:Int}{h':Qa}(hg:Yk E g=some true)(hk:J6 k=false)(hs:Qo E h k=some (some (.sc (.int .i64 (IntKind.i64.wrap n))),h'))(hr : -9223372036854775808<=n/\n<=9223372036854775807)
  (hw:Qm FT HK r (Qv d (some (.sc (.int .i64 n))) E) h' K):Qm FT HK (⟨d,k,g⟩::r) E h K :=
 op_eq hg hk hs (by rw[QjE hr]) hw
theorem QaN{k:AK}{b:Bool}{h':Qa}(hg:Yk E g=some true)(hk:J6 k=false)(hs:Qo E h k=some (some (.sc (.bool b)),h'))
  (ht:b=true->Qm FT HK r (Qv d (some (.sc (.bool true))) E) h' K) (hf:b=false->Qm FT HK r (Qv d (some (.sc (.bool false))) E) h' K):Qm FT HK (⟨d,k,g⟩::r) E h K:=by
 cases b
 ·exact Q2 hg hk hs (hf rfl)
 ·exact Q2 hg hk hs (ht rfl)
theorem QnC{str:Bool}{x:AO}{s:SV}{n:Int}(hg:Yk E g=some true)(hx:evS E x=some s)(hl:Yh str s=some n)(hw:Qm FT HK r (Qv d (some (.sc (.int .i64 n))) E) h K):Qm FT HK (⟨d,.len str x,g⟩::r) E h K :=
 Q2 hg rfl (by simp only[Qo,hx,Gl,hl,Gp]) hw
theorem Qky{esz id off n:Nat}{c:Option Nat}{x i:AO}{kd:IntKind}{j:Int}(hg:Yk E g=some true)(hx:evS E x=some (.slc id off n c))(hi:evS E i=some (.int kd j))(hb:0<=j/\j<n)
  (hw:Qm FT HK r (Qv d (some (.sc (.ptr id (off+j.toNat*esz)))) E) h K):Qm FT HK (⟨d,.idxA esz x i,g⟩::r) E h K :=
 Q2 hg rfl (by simp only[Qo,hx,hi];rw[if_pos hb]) hw
theorem QlH{id off:Nat}{x:AO}{v:SV}(hg:Yk E g=some true)(hx:evS E x=some (.ptr id off))(hr:Q3 h id off 1=some [v])
  (hw:Qm FT HK r (Qv d (some (.sc v)) E) h K):Qm FT HK (⟨d,.ld 1 false x,g⟩::r) E h K :=
 Q2 hg rfl (by simp only[Qo,hx,hr];rfl) hw
theorem QnD{id off n:Nat}{x:AO}{vs:List SV}(hg:Yk E g=some true)(hx:evS E x=some (.ptr id off))(hr:Q3 h id off n=some vs)
  (hw:Qm FT HK r (Qv d (some (.agg vs)) E) h K):Qm FT HK (⟨d,.ld n true x,g⟩::r) E h K :=
 Q2 hg rfl (by simp only[Qo,hx,hr];rfl) hw
theorem QlG{id off:Nat}{x a:AO}{v:SV}{h':Qa}(hg:Yk E g=some true)(ha:evS E a=some (.ptr id off))(hx:ev E x=some (.sc v))(hr:Xx h id off [v]=some h')
  (hw:Qm FT HK r (Qv d none E) h' K):Qm FT HK (⟨d,.st 1 a x,g⟩::r) E h K :=
 Q2 hg rfl (by simp only[Qo,ha,hx,AV.cells,Gl,Hl,if_true,hr,Gp]) hw
theorem op_mk{esz:ESz}{bytes:Nat}{zero:List SV}{l c:AO}{k1 k2:IntKind}{n m:Int}(hg:Yk E g=some true)(hl:evS E l=some (.int k1 n))(hc:evS E c=some (.int k2 m))(hb:0<=n/\n<=m/\m*(bytes+1:Nat)<=XS)
  (hw:Qm FT HK r (Qv d (some (.sc (.slc h.length 0 n.toNat (some m.toNat)))) E) (h++[.cells (rep zero m.toNat) true esz]) K):Qm FT HK (⟨d,.mk esz bytes zero l c,g⟩::r) E h K :=
 Q2 hg rfl (by simp only[Qo,hl,hc];rw[if_pos hb]) hw
theorem Qkz{f:FuncId}{args:List AO}{vs:List AV}{R:AV->Qa->Prop}(hg:Yk E g=some true)(ha:evs E args=some vs)(hc:∃ v h',Cal FT HK f vs h v h'/\R v h')
  (hw:∀ v h',R v h'->Qm FT HK r (Qv d (some v) E) h' K):Qm FT HK (⟨d,.call f args,g⟩::r) E h K:=by
 show wOp FT HK _ _ _ _
 unfold wOp
 rw[hg]
 refine⟨fun _=>?_,fun hc=>absurd rfl hc⟩
 show oK (evs E args) _
 rw[ha]
 exact QbA hc hw
theorem Qh{k:Nat}{ks:List Nat}{F:Env}{x:AV}(h1:E.get k=some x)(h2:E.keep ks=F):E.keep (k::ks)=(k,some x)::F:=by
 rw[QfL,h1,h2]
variable {Q:Ex->Env->Qa->Prop}
theorem Qk{a b:AC}{c:AO}(hc:evS E c=some (.bool true))(ht:wA FT HK a E h Q):wA FT HK (.cond c a b) E h Q:=Qf6 true hc (fun _=>ht) (fun h=>absurd h (by simp))
theorem Qi{a b:AC}{c:AO}(hc:evS E c=some (.bool false))(ht:wA FT HK b E h Q):wA FT HK (.cond c a b) E h Q:=Qf6 false hc (fun h=>absurd h (by simp)) (fun _=>ht)
theorem Qe{ops:List AOp}{ks:List Nat}(hw:Qm FT HK ops E h (fun E' h'=>Q .nm (E'.keep ks) h')):wA FT HK (.reg ops ks) E h Q:=hw
theorem YB{ks:List Nat}{E':Env}(hk:E.keep ks=E')(hq:Q .nm E' h):Qm FT HK [] E h (fun E' h'=>Q .nm (E'.keep ks) h'):=by
 subst hk;exact hq
end
def Ext(h0 h:Qa):Prop:=∃ t,h=h0++t
theorem Ext.refl(h:Qa):Ext h h:=⟨[],by simp⟩
theorem Ext.trans{a b c:Qa}(h1:Ext a b)(h2:Ext b c):Ext a c:=by
 obtain⟨t,rfl⟩:=h1
 obtain⟨u,rfl⟩:=h2
 exact⟨t++u,by simp⟩
theorem Ext.app{a b:Qa}(h1:Ext a b)(t:Qa):Ext a (b++t):=h1.trans ⟨t,rfl⟩
theorem Ext.set{a b:Qa}(h1:Ext a b){id:Nat}(hi:a.length<=id)(x:Blk):Ext a (b.set id x):=by
 obtain⟨t,rfl⟩:=h1
 exact⟨t.set (id-a.length) x,by rw[Hc _ _ hi]⟩
theorem Ext.get{a b:Qa}(h1:Ext a b)(i:Nat)(x:Blk)(hx:a[i]?=some x):b[i]?=some x:=by
 obtain⟨t,rfl⟩:=h1
 exact X5 i x hx
theorem Ext.len{a b:Qa}(h1:Ext a b):a.length<=b.length:=by
 obtain⟨t,rfl⟩:=h1
 simp
def Qbs(n:Nat)(cs:List SV):Option Nat->Prop
 | none=>n<=cs.length
 | some c=>cs.length=c/\n<=c
def Own(h0 h:Qa)(s:SV)(vs:List SV):Prop :=
 (s = .nilS/\vs=[])∨∃ id cap cs,s = .slc id 0 vs.length cap/\h0.length<=id/\h[id]?=some (.cells cs true 1)/\cs.take vs.length=vs/\Qbs vs.length cs cap
theorem Own.len{h0 h:Qa}{s:SV}{vs:List SV}(ho:Own h0 h s vs):Yh false s=some (vs.length:Int):=by
 rcases ho with ⟨rfl,rfl⟩|⟨id,cap,cs,rfl,_⟩ <;> rfl
theorem Own.sl{h0 h:Qa}{s:SV}{vs:List SV}(ho:Own h0 h s vs):IsSl h s 1 vs.length vs:=by
 rcases ho with ⟨rfl,rfl⟩|⟨id,cap,cs,rfl,h1,h2,h3,h4⟩
 ·exact .inl ⟨rfl,rfl,rfl⟩
 ·refine .inr ⟨id,0,cap,_,rfl,h2,rfl,fun h=>Gw h,fun _=>⟨cs,true,rfl,?_⟩⟩
  unfold cut
  simp only[ESz.one_n]
  have:vs.length<=cs.length:=by
   have:=congrArg List.length h3
   simp at this
   omega
  rw[if_pos (by omega)]
  simp[h3]
section
variable {FT:zzA} {HK:zzH} {E:Env} {h:Qa} {K:Env->Qa->Prop} {r:List AOp}
end
section
variable {FT:zzA} {HK:zzH} {E:Env} {h h':Qa} {K:Env->Qa->Prop} {r:List (AOp×Nat×Bool)} {Q:Ex->Env->Qa->Prop}
theorem Xm{o:AOp}{i:Nat}{ord:Bool}(hw:Qm FT HK [o] E h (fun E' h'=>(ord=true∨h'.take h.length=h)/\QZ FT HK r E' h' K)):QZ FT HK ((o,i,ord)::r) E h K:=hw
theorem Q5{E':Env}{ord:Bool}(hw:QZ FT HK r E' h K):Qm FT HK [] E' h (fun E' h'=>(ord=true∨h'.take h.length=h)/\QZ FT HK r E' h' K):=⟨.inr (Gx),hw⟩
theorem Ext.take{a b:Qa}(he:Ext a b):b.take a.length=a:=by
 obtain⟨t,rfl⟩:=he
 exact List.take_left
theorem XP{E':Env}{ord:Bool}(he:Ext h h')(hw:QZ FT HK r E' h' K):Qm FT HK [] E' h' (fun E' h'=>(ord=true∨h'.take h.length=h)/\QZ FT HK r E' h' K):=⟨.inr he.take,hw⟩
theorem Xw{E':Env}(hw:QZ FT HK r E' h' K):Qm FT HK [] E' h' (fun E' h'=>(true=true∨h'.take h.length=h)/\QZ FT HK r E' h' K):=⟨.inl rfl,hw⟩
theorem Q7{ops:List (AOp×Nat×Bool)}{ks:List Nat}(hw:QZ FT HK ops E h (fun E' h'=>Q .nm (E'.keep ks) h')):wA FT HK (.regd ops ks) E h Q:=hw
end
