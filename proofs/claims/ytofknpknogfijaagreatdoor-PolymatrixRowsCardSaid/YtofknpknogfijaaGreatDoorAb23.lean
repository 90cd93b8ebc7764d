import Derived.Test.YtofknpknogfijaaGreatDoorAb20
/- Step by step through a region: each lemma one operation. -/
namespace Go.Ab
set_option linter.all false
section
variable {FT:FuncId→Option AFun} {HK:FuncId→Option Xj} {E:Env} {h:Qa} {K:Env→Qa→Prop} {d:Option Nat} {g:Option (Nat × Bool)} {r:List AOp}
def JW:AK→Bool
 | .call _ _=>true
 | .callv _ _=>true
 | _=>false
theorem Qiu {k:AK} {K:Option AV→Qa→Prop} {v:Option AV} {h':Qa} (hk:JW k=false) (hs:Qm E h k=some (v,h')) (hK:K v h'):wK FT HK E h k K:=by
 unfold wK
 split
 ·simp [JW] at hk
 ·simp [JW] at hk
 ·rw [hs];exact hK
theorem Xe {k:AK} {v:Option AV} {h':Qa} (hg:Yc E g=some true) (hk:JW k=false) (hs:Qm E h k=some (v,h')) (hw:Ql FT HK r (Qr d v E) h' K):Ql FT HK (⟨d,k,g⟩::r) E h K:=by
 show wOp FT HK _ _ _ _
 unfold wOp
 rw [hg]
 exact ⟨fun _=>Qiu hk hs hw,fun hc=>absurd rfl hc⟩
theorem Qdj {k:AK} (hg:Yc E g=some false) (hw:Ql FT HK r (Qr d (some (.tup [])) E) h K):Ql FT HK (⟨d,k,g⟩::r) E h K:=by
 show wOp FT HK _ _ _ _
 unfold wOp
 rw [hg]
 exact ⟨fun hc=>absurd hc (by simp),fun _=>hw⟩
theorem op_eq {k:AK} {x y:SV} {h':Qa} (hg:Yc E g=some true) (hk:JW k=false) (hs:Qm E h k=some (some (.sc x),h')) (he:x=y) (hw:Ql FT HK r (Qr d (some (.sc y)) E) h' K):Ql FT HK (⟨d,k,g⟩::r) E h K:=by
 subst he
 exact Xe hg hk hs hw
theorem J7 {k:AK} {n:Int} {h':Qa} (hg:Yc E g=some true) (hk:JW k=false) (hs:Qm E h k=some (some (.sc (.int .i64 (IntKind.i64.wrap n))),h')) (hr : -9223372036854775808≤n∧n≤9223372036854775807)
  (hw:Ql FT HK r (Qr d (some (.sc (.int .i64 n))) E) h' K):Ql FT HK (⟨d,k,g⟩::r) E h K :=
 op_eq hg hk hs (by rw [Qit hr]) hw
theorem Qac {k:AK} {b:Bool} {h':Qa} (hg:Yc E g=some true) (hk:JW k=false) (hs:Qm E h k=some (some (.sc (.bool b)),h'))
  (ht:b=true→Ql FT HK r (Qr d (some (.sc (.bool true))) E) h' K) (hf:b=false→Ql FT HK r (Qr d (some (.sc (.bool false))) E) h' K):Ql FT HK (⟨d,k,g⟩::r) E h K:=by
 cases b
 ·exact Xe hg hk hs (hf rfl)
 ·exact Xe hg hk hs (ht rfl)
theorem QlM {str:Bool} {x:AO} {s:SV} {n:Int} (hg:Yc E g=some true) (hx:evS E x=some s) (hl:Yi str s=some n) (hw:Ql FT HK r (Qr d (some (.sc (.int .i64 n))) E) h K):Ql FT HK (⟨d,.len str x,g⟩::r) E h K :=
 Xe hg rfl (by simp only [Qm,hx,Gm,hl,Gl]) hw
theorem Qjb {esz id off n:Nat} {c:Option Nat} {x i:AO} {kd:IntKind} {j:Int} (hg:Yc E g=some true) (hx:evS E x=some (.slc id off n c)) (hi:evS E i=some (.int kd j)) (hb:0≤j∧j < n)
  (hw:Ql FT HK r (Qr d (some (.sc (.ptr id (off+j.toNat*esz)))) E) h K):Ql FT HK (⟨d,.idxA esz x i,g⟩::r) E h K :=
 Xe hg rfl (by simp only [Qm,hx,hi];rw [if_pos hb]) hw
theorem Qkd {id off:Nat} {x:AO} {v:SV} (hg:Yc E g=some true) (hx:evS E x=some (.ptr id off)) (hr:QZ h id off 1=some [v])
  (hw:Ql FT HK r (Qr d (some (.sc v)) E) h K):Ql FT HK (⟨d,.ld 1 false x,g⟩::r) E h K :=
 Xe hg rfl (by simp only [Qm,hx,hr];rfl) hw
theorem QlN {id off n:Nat} {x:AO} {vs:List SV} (hg:Yc E g=some true) (hx:evS E x=some (.ptr id off)) (hr:QZ h id off n=some vs)
  (hw:Ql FT HK r (Qr d (some (.agg vs)) E) h K):Ql FT HK (⟨d,.ld n true x,g⟩::r) E h K :=
 Xe hg rfl (by simp only [Qm,hx,hr];rfl) hw
theorem op_st {id off:Nat} {x a:AO} {v:SV} {h':Qa} (hg:Yc E g=some true) (ha:evS E a=some (.ptr id off)) (hx:ev E x=some (.sc v)) (hr:Xx h id off [v]=some h')
  (hw:Ql FT HK r (Qr d none E) h' K):Ql FT HK (⟨d,.st 1 a x,g⟩::r) E h K :=
 Xe hg rfl (by simp only [Qm,ha,hx,AV.cells,Gm,List.length_singleton,if_true,hr,Gl]) hw
theorem op_mk {esz:ESz} {bytes:Nat} {zero:List SV} {l c:AO} {k1 k2:IntKind} {n m:Int} (hg:Yc E g=some true) (hl:evS E l=some (.int k1 n)) (hc:evS E c=some (.int k2 m)) (hb:0≤n∧n≤m∧m*(bytes+1:Nat)≤Yu)
  (hw:Ql FT HK r (Qr d (some (.sc (.slc h.length 0 n.toNat (some m.toNat)))) E) (h++[.cells (rep zero m.toNat) true esz]) K):Ql FT HK (⟨d,.mk esz bytes zero l c,g⟩::r) E h K :=
 Xe hg rfl (by simp only [Qm,hl,hc];rw [if_pos hb]) hw
theorem Qjc {f:FuncId} {args:List AO} {vs:List AV} {R:AV→Qa→Prop} (hg:Yc E g=some true) (ha:evs E args=some vs) (hc:∃ v h',Cal FT HK f vs h v h'∧R v h')
  (hw:∀ v h',R v h'→Ql FT HK r (Qr d (some v) E) h' K):Ql FT HK (⟨d,.call f args,g⟩::r) E h K:=by
 show wOp FT HK _ _ _ _
 unfold wOp
 rw [hg]
 refine ⟨fun _=>?_,fun hc=>absurd rfl hc⟩
 show oK (evs E args) _
 rw [ha]
 exact QaV hc hw
theorem Qd {k:Nat} {ks:List Nat} {F:Env} {x:AV} (h1:E.get k=some x) (h2:E.keep ks=F):E.keep (k::ks)=(k,some x)::F:=by
 rw [QeT,h1,h2]
variable {Q:Ex→Env→Qa→Prop}
theorem Qj {a b:AC} {c:AO} (hc:evS E c=some (.bool true)) (ht:wA FT HK a E h Q):wA FT HK (.cond c a b) E h Q:=Qfh true hc (fun _=>ht) (fun h=>absurd h (by simp))
theorem Qk {a b:AC} {c:AO} (hc:evS E c=some (.bool false)) (ht:wA FT HK b E h Q):wA FT HK (.cond c a b) E h Q:=Qfh false hc (fun h=>absurd h (by simp)) (fun _=>ht)
theorem Qf {ops:List AOp} {ks:List Nat} (hw:Ql FT HK ops E h (fun E' h'=>Q .nm (E'.keep ks) h')):wA FT HK (.reg ops ks) E h Q:=hw
theorem YD {ks:List Nat} {E':Env} (hk:E.keep ks=E') (hq:Q .nm E' h):Ql FT HK [] E h (fun E' h'=>Q .nm (E'.keep ks) h'):=by
 subst hk;exact hq
end
def Ext (h0 h:Qa):Prop:=∃ t,h=h0++t
theorem Ext.refl (h:Qa):Ext h h:=⟨[],by simp⟩
theorem Ext.trans {a b c:Qa} (h1:Ext a b) (h2:Ext b c):Ext a c:=by
 obtain ⟨t,rfl⟩:=h1
 obtain ⟨u,rfl⟩:=h2
 exact ⟨t++u,by simp⟩
theorem Ext.app {a b:Qa} (h1:Ext a b) (t:Qa):Ext a (b++t):=h1.trans ⟨t,rfl⟩
theorem Ext.set {a b:Qa} (h1:Ext a b) {id:Nat} (hi:a.length≤id) (x:Blk):Ext a (b.set id x):=by
 obtain ⟨t,rfl⟩:=h1
 exact ⟨t.set (id-a.length) x,by rw [G7 _ _ hi]⟩
theorem Ext.get {a b:Qa} (h1:Ext a b) (i:Nat) (x:Blk) (hx:a[i]?=some x):b[i]?=some x:=by
 obtain ⟨t,rfl⟩:=h1
 exact Zc i x hx
theorem Ext.len {a b:Qa} (h1:Ext a b):a.length≤b.length:=by
 obtain ⟨t,rfl⟩:=h1
 simp
def Qb4 (n:Nat) (cs:List SV):Option Nat→Prop
 | none=>n≤cs.length
 | some c=>cs.length=c∧n≤c
def Own (h0 h:Qa) (s:SV) (vs:List SV):Prop :=
 (s=.nilS∧vs=[])∨∃ id cap cs,s=.slc id 0 vs.length cap∧h0.length≤id∧h[id]?=some (.cells cs true 1)∧cs.take vs.length=vs∧Qb4 vs.length cs cap
theorem Own.len {h0 h:Qa} {s:SV} {vs:List SV} (ho:Own h0 h s vs):Yi false s=some (vs.length:Int):=by
 rcases ho with ⟨rfl,rfl⟩ | ⟨id,cap,cs,rfl,_⟩ <;> rfl
theorem Own.sl {h0 h:Qa} {s:SV} {vs:List SV} (ho:Own h0 h s vs):IsSl h s 1 vs.length vs:=by
 rcases ho with ⟨rfl,rfl⟩ | ⟨id,cap,cs,rfl,h1,h2,h3,h4⟩
 ·exact .inl ⟨rfl,rfl,rfl⟩
 ·refine .inr ⟨id,0,cap,_,rfl,h2,rfl,fun h=>Gz h,fun _=>⟨cs,true,rfl,?_⟩⟩
  unfold cut
  simp only [ESz.one_n]
  have:vs.length≤cs.length:=by
   have:=congrArg List.length h3
   simp at this
   omega
  rw [if_pos (by omega)]
  simp [h3]
section
variable {FT:FuncId→Option AFun} {HK:FuncId→Option Xj} {E:Env} {h:Qa} {K:Env→Qa→Prop} {r:List AOp}
end
section
variable {FT:FuncId→Option AFun} {HK:FuncId→Option Xj} {E:Env} {h h':Qa} {K:Env→Qa→Prop} {r:List (AOp × Nat × Bool)} {Q:Ex→Env→Qa→Prop}
theorem Xk {o:AOp} {i:Nat} {ord:Bool} (hw:Ql FT HK [o] E h (fun E' h'=>(ord=true∨h'.take h.length=h)∧QW FT HK r E' h' K)):QW FT HK ((o,i,ord)::r) E h K:=hw
theorem Q1 {E':Env} {ord:Bool} (hw:QW FT HK r E' h K):Ql FT HK [] E' h (fun E' h'=>(ord=true∨h'.take h.length=h)∧QW FT HK r E' h' K):=⟨.inr (Gx),hw⟩
theorem Ext.take {a b:Qa} (he:Ext a b):b.take a.length=a:=by
 obtain ⟨t,rfl⟩:=he
 exact List.take_left
theorem XZ {E':Env} {ord:Bool} (he:Ext h h') (hw:QW FT HK r E' h' K):Ql FT HK [] E' h' (fun E' h'=>(ord=true∨h'.take h.length=h)∧QW FT HK r E' h' K):=⟨.inr he.take,hw⟩
theorem Xw {E':Env} (hw:QW FT HK r E' h' K):Ql FT HK [] E' h' (fun E' h'=>(true=true∨h'.take h.length=h)∧QW FT HK r E' h' K):=⟨.inl rfl,hw⟩
theorem Q2 {ops:List (AOp × Nat × Bool)} {ks:List Nat} (hw:QW FT HK ops E h (fun E' h'=>Q .nm (E'.keep ks) h')):wA FT HK (.regd ops ks) E h Q:=hw
end
