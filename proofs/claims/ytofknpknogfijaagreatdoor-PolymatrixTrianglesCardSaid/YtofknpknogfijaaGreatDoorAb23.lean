import Derived.Test.YtofknpknogfijaaGreatDoorAb20
/- Step by step through a region: each lemma one operation. -/
namespace Go.Ab
set_option linter.unusedVariables false
section
variable {FT:FuncId→Option AFun} {HK:FuncId→Option Xc} {E:Env} {h:Qa} {K:Env→Qa→Prop} {d:Option Nat} {g:Option (Nat × Bool)} {r:List AOp}
def JJ:AK→Bool
  | .call _ _=>true
  | .callv _ _=>true
  | _=>false
theorem QfU {k:AK} {K:Option AV→Qa→Prop} {v:Option AV} {h':Qa} (hk:JJ k=false) (hs:Ql E h k=some (v,h')) (hK:K v h'):wK FT HK E h k K:=by
  unfold wK
  split
  · simp [JJ] at hk
  · simp [JJ] at hk
  · rw [hs];exact hK
theorem Q8 {k:AK} {v:Option AV} {h':Qa} (hg:Yc E g=some true) (hk:JJ k=false) (hs:Ql E h k=some (v,h')) (hw:Qi FT HK r (Qq d v E) h' K):Qi FT HK (⟨d,k,g⟩::r) E h K:=by
  show wOp FT HK _ _ _ _
  unfold wOp
  rw [hg]
  exact ⟨fun _=>QfU hk hs hw,fun hc=>absurd rfl hc⟩
theorem Qgv {k:AK} (hg:Yc E g=some false) (hw:Qi FT HK r (Qq d (some (.tup [])) E) h K):Qi FT HK (⟨d,k,g⟩::r) E h K:=by
  show wOp FT HK _ _ _ _
  unfold wOp
  rw [hg]
  exact ⟨fun hc=>absurd hc (by simp),fun _=>hw⟩
theorem op_eq {k:AK} {x y:SV} {h':Qa} (hg:Yc E g=some true) (hk:JJ k=false) (hs:Ql E h k=some (some (.sc x),h')) (he:x=y) (hw:Qi FT HK r (Qq d (some (.sc y)) E) h' K):Qi FT HK (⟨d,k,g⟩::r) E h K:=by
  subst he
  exact Q8 hg hk hs hw
theorem JV {k:AK} {n:Int} {h':Qa} (hg:Yc E g=some true) (hk:JJ k=false) (hs:Ql E h k=some (some (.sc (.int .i64 (IntKind.i64.wrap n))),h')) (hr : -9223372036854775808≤n∧n≤9223372036854775807)
    (hw:Qi FT HK r (Qq d (some (.sc (.int .i64 n))) E) h' K):Qi FT HK (⟨d,k,g⟩::r) E h K :=
  op_eq hg hk hs (by rw [QfT hr]) hw
theorem UZ {k:AK} {b:Bool} {h':Qa} (hg:Yc E g=some true) (hk:JJ k=false) (hs:Ql E h k=some (some (.sc (.bool b)),h'))
    (ht:b=true→Qi FT HK r (Qq d (some (.sc (.bool true))) E) h' K) (hf:b=false→Qi FT HK r (Qq d (some (.sc (.bool false))) E) h' K):Qi FT HK (⟨d,k,g⟩::r) E h K:=by
  cases b
  · exact Q8 hg hk hs (hf rfl)
  · exact Q8 hg hk hs (ht rfl)
theorem QiT {str:Bool} {x:AO} {s:SV} {n:Int} (hg:Yc E g=some true) (hx:evS E x=some s) (hl:Yq str s=some n) (hw:Qi FT HK r (Qq d (some (.sc (.int .i64 n))) E) h K):Qi FT HK (⟨d,.len str x,g⟩::r) E h K :=
  Q8 hg rfl (by simp only [Ql,hx,Option.bind_some,hl,Option.map_some]) hw
theorem Qgw {esz id off n:Nat} {c:Option Nat} {x i:AO} {kd:IntKind} {j:Int} (hg:Yc E g=some true) (hx:evS E x=some (.slc id off n c)) (hi:evS E i=some (.int kd j)) (hb:0≤j∧j < n)
    (hw:Qi FT HK r (Qq d (some (.sc (.ptr id (off+j.toNat*esz)))) E) h K):Qi FT HK (⟨d,.idxA esz x i,g⟩::r) E h K :=
  Q8 hg rfl (by simp only [Ql,hx,hi];rw [if_pos hb]) hw
theorem Qhq {id off:Nat} {x:AO} {v:SV} (hg:Yc E g=some true) (hx:evS E x=some (.ptr id off)) (hr:QX h id off 1=some [v])
    (hw:Qi FT HK r (Qq d (some (.sc v)) E) h K):Qi FT HK (⟨d,.ld 1 false x,g⟩::r) E h K :=
  Q8 hg rfl (by simp only [Ql,hx,hr];rfl) hw
theorem QiU {id off n:Nat} {x:AO} {vs:List SV} (hg:Yc E g=some true) (hx:evS E x=some (.ptr id off)) (hr:QX h id off n=some vs)
    (hw:Qi FT HK r (Qq d (some (.agg vs)) E) h K):Qi FT HK (⟨d,.ld n true x,g⟩::r) E h K :=
  Q8 hg rfl (by simp only [Ql,hx,hr];rfl) hw
theorem op_st {id off:Nat} {x a:AO} {v:SV} {h':Qa} (hg:Yc E g=some true) (ha:evS E a=some (.ptr id off)) (hx:ev E x=some (.sc v)) (hr:XB h id off [v]=some h')
    (hw:Qi FT HK r (Qq d none E) h' K):Qi FT HK (⟨d,.st 1 a x,g⟩::r) E h K :=
  Q8 hg rfl (by simp only [Ql,ha,hx,AV.cells,Option.bind_some,List.length_singleton,if_true,hr,Option.map_some]) hw
theorem op_mk {esz:ESz} {bytes:Nat} {zero:List SV} {l c:AO} {k1 k2:IntKind} {n m:Int} (hg:Yc E g=some true) (hl:evS E l=some (.int k1 n)) (hc:evS E c=some (.int k2 m)) (hb:0≤n∧n≤m∧m*(bytes+1:Nat)≤YV)
    (hw:Qi FT HK r (Qq d (some (.sc (.slc h.length 0 n.toNat (some m.toNat)))) E) (h++[.cells (rep zero m.toNat) true esz]) K):Qi FT HK (⟨d,.mk esz bytes zero l c,g⟩::r) E h K :=
  Q8 hg rfl (by simp only [Ql,hl,hc];rw [if_pos hb]) hw
theorem Qgx {f:FuncId} {args:List AO} {vs:List AV} {R:AV→Qa→Prop} (hg:Yc E g=some true) (ha:evs E args=some vs) (hc:∃ v h',Cal FT HK f vs h v h'∧R v h')
    (hw:∀ v h',R v h'→Qi FT HK r (Qq d (some v) E) h' K):Qi FT HK (⟨d,.call f args,g⟩::r) E h K:=by
  show wOp FT HK _ _ _ _
  unfold wOp
  rw [hg]
  refine ⟨fun _=>?_,fun hc=>absurd rfl hc⟩
  show oK (evs E args) _
  rw [ha]
  exact VA hc hw
theorem Qd {k:Nat} {ks:List Nat} {F:Env} {x:AV} (h1:E.get k=some x) (h2:E.keep ks=F):E.keep (k::ks)=(k,some x)::F:=by
  rw [Qc3,h1,h2]
variable {Q:Ex→Env→Qa→Prop}
theorem Qk {a b:AC} {c:AO} (hc:evS E c=some (.bool true)) (ht:wA FT HK a E h Q):wA FT HK (.cond c a b) E h Q:=Qdo true hc (fun _=>ht) (fun h=>absurd h (by simp))
theorem Qj {a b:AC} {c:AO} (hc:evS E c=some (.bool false)) (ht:wA FT HK b E h Q):wA FT HK (.cond c a b) E h Q:=Qdo false hc (fun h=>absurd h (by simp)) (fun _=>ht)
theorem Qf {ops:List AOp} {ks:List Nat} (hw:Qi FT HK ops E h (fun E' h'=>Q .nm (E'.keep ks) h')):wA FT HK (.reg ops ks) E h Q:=hw
theorem YB {ks:List Nat} {E':Env} (hk:E.keep ks=E') (hq:Q .nm E' h):Qi FT HK [] E h (fun E' h'=>Q .nm (E'.keep ks) h'):=by
  subst hk;exact hq
end
end Go.Ab


/- Slices of one's own,and append. -/
namespace Go.Ab
set_option linter.unusedVariables false
def Ext (h0 h:Qa):Prop:=∃ t,h=h0++t
theorem Ext.refl (h:Qa):Ext h h:=⟨[],by simp⟩
theorem Ext.trans {a b c:Qa} (h1:Ext a b) (h2:Ext b c):Ext a c:=by
  obtain ⟨t,rfl⟩:=h1
  obtain ⟨u,rfl⟩:=h2
  exact ⟨t++u,by simp⟩
theorem Ext.app {a b:Qa} (h1:Ext a b) (t:Qa):Ext a (b++t):=h1.trans ⟨t,rfl⟩
theorem Ext.set {a b:Qa} (h1:Ext a b) {id:Nat} (hi:a.length≤id) (x:Blk):Ext a (b.set id x):=by
  obtain ⟨t,rfl⟩:=h1
  exact ⟨t.set (id-a.length) x,by rw [List.set_append_right _ _ hi]⟩
theorem Ext.get {a b:Qa} (h1:Ext a b) (i:Nat) (x:Blk) (hx:a[i]?=some x):b[i]?=some x:=by
  obtain ⟨t,rfl⟩:=h1
  exact Zg i x hx
theorem Ext.len {a b:Qa} (h1:Ext a b):a.length≤b.length:=by
  obtain ⟨t,rfl⟩:=h1
  simp
def Qdh (n:Nat) (cs:List SV):Option Nat→Prop
  | none=>n≤cs.length
  | some c=>cs.length=c∧n≤c
def Own (h0 h:Qa) (s:SV) (vs:List SV):Prop :=
  (s=.nilS∧vs=[])∨∃ id cap cs,s=.slc id 0 vs.length cap∧h0.length≤id∧h[id]?=some (.cells cs true 1)∧cs.take vs.length=vs∧Qdh vs.length cs cap
theorem Own.len {h0 h:Qa} {s:SV} {vs:List SV} (ho:Own h0 h s vs):Yq false s=some (vs.length:Int):=by
  rcases ho with ⟨rfl,rfl⟩ | ⟨id,cap,cs,rfl,_⟩ <;> rfl
theorem Own.sl {h0 h:Qa} {s:SV} {vs:List SV} (ho:Own h0 h s vs):IsSl h s 1 vs.length vs:=by
  rcases ho with ⟨rfl,rfl⟩ | ⟨id,cap,cs,rfl,h1,h2,h3,h4⟩
  · exact .inl ⟨rfl,rfl,rfl⟩
  · refine .inr ⟨id,0,cap,_,rfl,h2,rfl,fun h=>List.eq_nil_of_length_eq_zero h,fun _=>⟨cs,true,rfl,?_⟩⟩
    unfold cut
    simp only [ESz.one_n]
    have:vs.length≤cs.length:=by
      have:=congrArg List.length h3
      simp at this
      omega
    rw [if_pos (by omega)]
    simp [h3]
section
variable {FT:FuncId→Option AFun} {HK:FuncId→Option Xc} {E:Env} {h:Qa} {K:Env→Qa→Prop} {r:List AOp}
end
end Go.Ab


/- Step by step through a region that draws its order. -/
namespace Go.Ab
set_option linter.unusedVariables false
section
variable {FT:FuncId→Option AFun} {HK:FuncId→Option Xc} {E:Env} {h h':Qa} {K:Env→Qa→Prop} {r:List (AOp × Nat × Bool)} {Q:Ex→Env→Qa→Prop}
theorem Xs {o:AOp} {i:Nat} {ord:Bool} (hw:Qi FT HK [o] E h (fun E' h'=>(ord=true∨h'.take h.length=h)∧QS FT HK r E' h' K)):QS FT HK ((o,i,ord)::r) E h K:=hw
theorem Xb {E':Env} {ord:Bool} (hw:QS FT HK r E' h K):Qi FT HK [] E' h (fun E' h'=>(ord=true∨h'.take h.length=h)∧QS FT HK r E' h' K):=⟨.inr (List.take_length),hw⟩
theorem Ext.take {a b:Qa} (he:Ext a b):b.take a.length=a:=by
  obtain ⟨t,rfl⟩:=he
  exact List.take_left
theorem Xi {E':Env} {ord:Bool} (he:Ext h h') (hw:QS FT HK r E' h' K):Qi FT HK [] E' h' (fun E' h'=>(ord=true∨h'.take h.length=h)∧QS FT HK r E' h' K):=⟨.inr he.take,hw⟩
theorem XP {E':Env} (hw:QS FT HK r E' h' K):Qi FT HK [] E' h' (fun E' h'=>(true=true∨h'.take h.length=h)∧QS FT HK r E' h' K):=⟨.inl rfl,hw⟩
theorem Q9 {ops:List (AOp × Nat × Bool)} {ks:List Nat} (hw:QS FT HK ops E h (fun E' h'=>Q .nm (E'.keep ks) h')):wA FT HK (.regd ops ks) E h Q:=hw
end
end Go.Ab

