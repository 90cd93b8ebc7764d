import Derived.Test.YtofknpknogfijaaGreatDoorAb20
/- Step by step through a region: each lemma one operation. -/
namespace Go.Ab
set_option linter.all false
section
variable {FT:zzA} {HK:zzH} {E:Env} {h:Qa} {K:Env->Qa->Prop} {d:Option Nat} {g:Option (Nat×Bool)} {r:List AOp}
def J8:AK->Bool
 | .call _ _=>true
 | .callv _ _=>true
 | _=>false
theorem QhN{k:AK}{K:Option AV->Qa->Prop}{v:Option AV}{h':Qa}(hk:J8 k=false)(hs:Ql E h k=some (v,h'))(hK:K v h'):wK FT HK E h k K:=by
 unfold wK
 split
 ·simp[J8]at hk
 ·simp[J8]at hk
 ·rw[hs];exact hK
theorem Xi{k:AK}{v:Option AV}{h':Qa}(hg:Yn E g=some true)(hk:J8 k=false)(hs:Ql E h k=some (v,h'))(hw:Qk FT HK r (Qw d v E) h' K):Qk FT HK (⟨d,k,g⟩::r) E h K:=by
 show wOp FT HK _ _ _ _
 unfold wOp
 rw[hg]
 exact⟨fun _=>QhN hk hs hw,fun hc=>absurd rfl hc⟩
theorem QdC{k:AK}(hg:Yn E g=some false)(hw:Qk FT HK r (Qw d (some (.tup [])) E) h K):Qk FT HK (⟨d,k,g⟩::r) E h K:=by
 show wOp FT HK _ _ _ _
 unfold wOp
 rw[hg]
 exact⟨fun hc=>absurd hc (by simp),fun _=>hw⟩
theorem op_eq{k:AK}{x y:SV}{h':Qa}(hg:Yn E g=some true)(hk:J8 k=false)(hs:Ql E h k=some (some (.sc x),h'))(he:x=y)(hw:Qk FT HK r (Qw d (some (.sc y)) E) h' K):Qk FT HK (⟨d,k,g⟩::r) E h K:=by
 subst he
 exact Xi hg hk hs hw
theorem Jw{k:AK}{n:Int}{h':Qa}(hg:Yn E g=some true)(hk:J8 k=false)(hs:Ql E h k=some (some (.sc (.int .i64 (IntKind.i64.wrap n))),h'))(hr : -9223372036854775808<=n/\n<=9223372036854775807)
  (hw:Qk FT HK r (Qw d (some (.sc (.int .i64 n))) E) h' K):Qk FT HK (⟨d,k,g⟩::r) E h K :=
 op_eq hg hk hs (by rw[QhL hr]) hw
theorem Qal{k:AK}{b:Bool}{h':Qa}(hg:Yn E g=some true)(hk:J8 k=false)(hs:Ql E h k=some (some (.sc (.bool b)),h'))
  (ht:b=true->Qk FT HK r (Qw d (some (.sc (.bool true))) E) h' K) (hf:b=false->Qk FT HK r (Qw d (some (.sc (.bool false))) E) h' K):Qk FT HK (⟨d,k,g⟩::r) E h K:=by
 cases b
 ·exact Xi hg hk hs (hf rfl)
 ·exact Xi hg hk hs (ht rfl)
theorem QkQ{str:Bool}{x:AO}{s:SV}{n:Int}(hg:Yn E g=some true)(hx:evS E x=some s)(hl:Yv str s=some n)(hw:Qk FT HK r (Qw d (some (.sc (.int .i64 n))) E) h K):Qk FT HK (⟨d,.len str x,g⟩::r) E h K :=
 Xi hg rfl (by simp only[Ql,hx,Gi,hl,Gm]) hw
theorem Qiz{esz id off n:Nat}{c:Option Nat}{x i:AO}{kd:IntKind}{j:Int}(hg:Yn E g=some true)(hx:evS E x=some (.slc id off n c))(hi:evS E i=some (.int kd j))(hb:0<=j/\j<n)
  (hw:Qk FT HK r (Qw d (some (.sc (.ptr id (off+j.toNat*esz)))) E) h K):Qk FT HK (⟨d,.idxA esz x i,g⟩::r) E h K :=
 Xi hg rfl (by simp only[Ql,hx,hi];rw[if_pos hb]) hw
theorem Qjs{id off:Nat}{x:AO}{v:SV}(hg:Yn E g=some true)(hx:evS E x=some (.ptr id off))(hr:Q9 h id off 1=some [v])
  (hw:Qk FT HK r (Qw d (some (.sc v)) E) h K):Qk FT HK (⟨d,.ld 1 false x,g⟩::r) E h K :=
 Xi hg rfl (by simp only[Ql,hx,hr];rfl) hw
theorem QkR{id off n:Nat}{x:AO}{vs:List SV}(hg:Yn E g=some true)(hx:evS E x=some (.ptr id off))(hr:Q9 h id off n=some vs)
  (hw:Qk FT HK r (Qw d (some (.agg vs)) E) h K):Qk FT HK (⟨d,.ld n true x,g⟩::r) E h K :=
 Xi hg rfl (by simp only[Ql,hx,hr];rfl) hw
theorem op_st{id off:Nat}{x a:AO}{v:SV}{h':Qa}(hg:Yn E g=some true)(ha:evS E a=some (.ptr id off))(hx:ev E x=some (.sc v))(hr:Xz h id off [v]=some h')
  (hw:Qk FT HK r (Qw d none E) h' K):Qk FT HK (⟨d,.st 1 a x,g⟩::r) E h K :=
 Xi hg rfl (by simp only[Ql,ha,hx,AV.cells,Gi,List.length_singleton,if_true,hr,Gm]) hw
theorem op_mk{esz:ESz}{bytes:Nat}{zero:List SV}{l c:AO}{k1 k2:IntKind}{n m:Int}(hg:Yn E g=some true)(hl:evS E l=some (.int k1 n))(hc:evS E c=some (.int k2 m))(hb:0<=n/\n<=m/\m*(bytes+1:Nat)<=Yh)
  (hw:Qk FT HK r (Qw d (some (.sc (.slc h.length 0 n.toNat (some m.toNat)))) E) (h++[.cells (rep zero m.toNat) true esz]) K):Qk FT HK (⟨d,.mk esz bytes zero l c,g⟩::r) E h K :=
 Xi hg rfl (by simp only[Ql,hl,hc];rw[if_pos hb]) hw
theorem QiA{f:FuncId}{args:List AO}{vs:List AV}{R:AV->Qa->Prop}(hg:Yn E g=some true)(ha:evs E args=some vs)(hc:∃ v h',Cal FT HK f vs h v h'/\R v h')
  (hw:∀ v h',R v h'->Qk FT HK r (Qw d (some v) E) h' K):Qk FT HK (⟨d,.call f args,g⟩::r) E h K:=by
 show wOp FT HK _ _ _ _
 unfold wOp
 rw[hg]
 refine⟨fun _=>?_,fun hc=>absurd rfl hc⟩
 show oK (evs E args) _
 rw[ha]
 exact Qa6 hc hw
theorem Qo{k:Nat}{ks:List Nat}{F:Env}{x:AV}(h1:E.get k=some x)(h2:E.keep ks=F):E.keep (k::ks)=(k,some x)::F:=by
 rw[Qe2,h1,h2]
variable {Q:Ex->Env->Qa->Prop}
theorem Qi{a b:AC}{c:AO}(hc:evS E c=some (.bool true))(ht:wA FT HK a E h Q):wA FT HK (.cond c a b) E h Q:=Qfm true hc (fun _=>ht) (fun h=>absurd h (by simp))
theorem Qj{a b:AC}{c:AO}(hc:evS E c=some (.bool false))(ht:wA FT HK b E h Q):wA FT HK (.cond c a b) E h Q:=Qfm false hc (fun h=>absurd h (by simp)) (fun _=>ht)
theorem Qf{ops:List AOp}{ks:List Nat}(hw:Qk FT HK ops E h (fun E' h'=>Q .nm (E'.keep ks) h')):wA FT HK (.reg ops ks) E h Q:=hw
theorem Zx{ks:List Nat}{E':Env}(hk:E.keep ks=E')(hq:Q .nm E' h):Qk FT HK [] E h (fun E' h'=>Q .nm (E'.keep ks) h'):=by
 subst hk;exact hq
end
def Ext(h0 h:Qa):Prop:=∃ t,h=h0++t
theorem Ext.refl(h:Qa):Ext h h:=⟨[],by simp⟩
theorem Ext.trans{a b c:Qa}(h1:Ext a b)(h2:Ext b c):Ext a c:=by
 obtain⟨t,rfl⟩:=h1
 obtain⟨u,rfl⟩:=h2
 exact⟨t++u,by simp⟩
theorem Ext.app{a b:Qa}(h1:Ext a b)(t:Qa):Ext a (b++t):=h1.trans ⟨t,rfl⟩
theorem Ext.set{a b:Qa}(h1:Ext a b){id:Nat}(hi:a.length<=id)(x:Blk):Ext a (b.set id x):=by
 obtain⟨t,rfl⟩:=h1
 exact⟨t.set (id-a.length) x,by rw[List.set_append_right _ _ hi]⟩
theorem Ext.get{a b:Qa}(h1:Ext a b)(i:Nat)(x:Blk)(hx:a[i]?=some x):b[i]?=some x:=by
 obtain⟨t,rfl⟩:=h1
 exact YN i x hx
theorem Ext.len{a b:Qa}(h1:Ext a b):a.length<=b.length:=by
 obtain⟨t,rfl⟩:=h1
 simp
def Qcj(n:Nat)(cs:List SV):Option Nat->Prop
 | none=>n<=cs.length
 | some c=>cs.length=c/\n<=c
def Own(h0 h:Qa)(s:SV)(vs:List SV):Prop :=
 (s = .nilS/\vs=[])∨∃ id cap cs,s = .slc id 0 vs.length cap/\h0.length<=id/\h[id]?=some (.cells cs true 1)/\cs.take vs.length=vs/\Qcj vs.length cs cap
theorem Own.len{h0 h:Qa}{s:SV}{vs:List SV}(ho:Own h0 h s vs):Yv false s=some (vs.length:Int):=by
 rcases ho with ⟨rfl,rfl⟩|⟨id,cap,cs,rfl,_⟩ <;> rfl
section
variable {FT:zzA} {HK:zzH} {E:Env} {h:Qa} {K:Env->Qa->Prop} {r:List AOp}
end
section
variable {FT:zzA} {HK:zzH} {E:Env} {h h':Qa} {K:Env->Qa->Prop} {r:List (AOp×Nat×Bool)} {Q:Ex->Env->Qa->Prop}
theorem Xl{o:AOp}{i:Nat}{ord:Bool}(hw:Qk FT HK [o] E h (fun E' h'=>(ord=true∨h'.take h.length=h)/\QP FT HK r E' h' K)):QP FT HK ((o,i,ord)::r) E h K:=hw
theorem QR{E':Env}{ord:Bool}(hw:QP FT HK r E' h K):Qk FT HK [] E' h (fun E' h'=>(ord=true∨h'.take h.length=h)/\QP FT HK r E' h' K):=⟨.inr (GH),hw⟩
theorem Ext.take{a b:Qa}(he:Ext a b):b.take a.length=a:=by
 obtain⟨t,rfl⟩:=he
 exact List.take_left
theorem Ye{E':Env}{ord:Bool}(he:Ext h h')(hw:QP FT HK r E' h' K):Qk FT HK [] E' h' (fun E' h'=>(ord=true∨h'.take h.length=h)/\QP FT HK r E' h' K):=⟨.inr he.take,hw⟩
theorem Xu{E':Env}(hw:QP FT HK r E' h' K):Qk FT HK [] E' h' (fun E' h'=>(true=true∨h'.take h.length=h)/\QP FT HK r E' h' K):=⟨.inl rfl,hw⟩
theorem QU{ops:List (AOp×Nat×Bool)}{ks:List Nat}(hw:QP FT HK ops E h (fun E' h'=>Q .nm (E'.keep ks) h')):wA FT HK (.regd ops ks) E h Q:=hw
end
