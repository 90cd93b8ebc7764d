import Derived.Test.YtofknpknogfijaaGreatDoorAb17
/- Reasoning about what is reckoned: with enough fuel. -/
namespace Go.Ab
set_option linter.all false
instance (priority:=low) noBase:Base:=⟨0,default⟩
section
variable {FT:zzA} {HK:zzH}
def Cal(FT:zzA)(HK:zzH)(f:FuncId)(args:List AV)(h:Qa)(v:AV)(h':Qa):Prop :=
 ∃ N,∀ m,N<=m->X6 FT HK m f args h=some (v,h')
def Run(FT:zzA)(HK:zzH)(c:AC)(E:Env)(h:Qa)(r:Ex×Env×Qa):Prop :=
 ∃ N,∀ m,N<=m->XD (X6 FT HK m) m c E h=some r
def Lp(FT:zzA)(HK:zzH)(ks:List Nat)(c:AC)(E:Env)(h:Qa)(r:Ex×Env×Qa):Prop :=
 ∃ N,∀ m,N<=m->∀ j,N<=j->qB ks (XD (X6 FT HK m) m c) j E h=some r
theorem Lp.run{ks:List Nat}{c:AC}{E:Env}{h:Qa}{r:Ex×Env×Qa}(hl:Lp FT HK ks c E h r):Run FT HK (.loop ks c) E h r:=by
 obtain⟨N,hN⟩:=hl
 exact⟨N,fun m hm=>by simp only[XD];exact hN m hm m hm⟩
theorem Lp.step{ks:List Nat}{c:AC}{E E1:Env}{h h1:Qa}{r:Ex×Env×Qa}(hb:Run FT HK c (E.keep ks) h (.nm,E1,h1))(hl:Lp FT HK ks c E1 h1 r):Lp FT HK ks c E h r:=by
 obtain⟨N1,h1⟩:=hb
 obtain⟨N2,h2⟩:=hl
 refine⟨N1+N2+1,fun m hm j hj=>?_⟩
 cases j with
 | zero=>omega
 | succ j =>
  simp only[qB]
  rw[h1 m (by omega)]
  exact h2 m (by omega) j (by omega)
theorem Lp.stop{ks:List Nat}{c:AC}{E E1:Env}{h h1:Qa}{ex:Ex}(hex:ex ≠ .nm)(hb:Run FT HK c (E.keep ks) h (ex,E1,h1)):Lp FT HK ks c E h (ex,E1,h1):=by
 obtain⟨N1,h1⟩:=hb
 refine⟨N1+1,fun m hm j hj=>?_⟩
 cases j with
 | zero=>omega
 | succ j =>
  simp only[qB]
  rw[h1 m (by omega)]
  cases ex with
  | nm=>exact absurd rfl hex
  | ex i=>rfl
  | rt=>rfl
theorem Run.seq{a b:AC}{E E1:Env}{h h1:Qa}{r:Ex×Env×Qa}(ha:Run FT HK a E h (.nm,E1,h1))(hb:Run FT HK b E1 h1 r):Run FT HK (.seq a b) E h r:=by
 obtain⟨N1,h1⟩:=ha
 obtain⟨N2,h2⟩:=hb
 refine⟨N1+N2,fun m hm=>?_⟩
 simp only[XD]
 rw[h1 m (by omega)]
 exact h2 m (by omega)
theorem Run.seqStop{a b:AC}{E E1:Env}{h h1:Qa}{ex:Ex}(hex:ex ≠ .nm)(ha:Run FT HK a E h (ex,E1,h1)):Run FT HK (.seq a b) E h (ex,E1,h1):=by
 obtain⟨N1,h1⟩:=ha
 refine⟨N1,fun m hm=>?_⟩
 simp only[XD]
 rw[h1 m (by omega)]
 cases ex with
 | nm=>exact absurd rfl hex
 | ex i=>rfl
 | rt=>rfl
theorem Run.call{f:FuncId}{F:AFun}{args:List AV}{h h':Qa}{v:AV}{ex:Ex}{E':Env}(hk:HK f=none)(hF:FT f=some F)(hl:args.length=F.np)
  (hr:Run FT HK F.body (params 0 args) h (ex,E',h')) (hex:ex = .nm∨ex = .rt) (hres:XK F.res E' h'=some v):Cal FT HK f args h v h':=by
 obtain⟨N,hN⟩:=hr
 refine⟨N+1,fun m hm=>?_⟩
 cases m with
 | zero=>omega
 | succ m =>
  simp only[X6,hk,hF,hl,if_true]
  rw[hN m (by omega)]
  rcases hex with rfl|rfl <;> simp[y8,hres]
theorem Cal.hook{f:FuncId}{g:Xq}{args:List AV}{h h':Qa}{v:AV}(hk:HK f=some g)(hg:g args h=some (v,h')):Cal FT HK f args h v h' :=
 ⟨1,fun m hm=>by
  cases m with
  | zero=>omega
  | succ m=>simp only[X6,hk];exact hg⟩
theorem Run.of{c:AC}{E:Env}{h:Qa}{r:Ex×Env×Qa}(hr:∀ m,XD (X6 FT HK m) m c E h=some r):Run FT HK c E h r:=⟨0,fun m _=>hr m⟩
def oK{α:Type}(o:Option α)(K:α->Prop):Prop:=match o with
 | some a=>K a
 | none=>False
def wIf(c:Prop)(A B:Prop):Prop:=(c->A)/\(¬ c->B)
def wAnd(c:Prop)(A:Prop):Prop:=c/\A
theorem V2(c:Prop)[Decidable c](A B:Prop):wIf c A B=if c then A else B:=by
 unfold wIf;split <;> simp[*]
theorem oK_iff{α:Type}{o:Option α}{K:α->Prop}:oK o K↔∃ a,o=some a/\K a:=by cases o <;> simp[oK]
section wp
variable (FT:zzA) (HK:zzH)
def Qdk(f:FuncId)(vs:List AV)(h:Qa)(K:AV->Qa->Prop):Prop:=∃ v h',Cal FT HK f vs h v h'/\K v h'
def Qjj(ks:List Nat)(a:AC)(E:Env)(h:Qa)(Q:Ex->Env->Qa->Prop):Prop:=∃ ex E' h',Lp FT HK ks a E h (ex,E',h')/\Q ex E' h'
def Qfn(s:SV)(vs:List AV)(h:Qa)(K:AV->Qa->Prop):Prop:=match s with
 | .fn f caps=>Qdk FT HK f (vs++caps.map fun p=>AV.sc (.ptr p.1 p.2)) h K
 | _=>False
def wK(E:Env)(h:Qa)(k:AK)(K:Option AV->Qa->Prop):Prop :=
 match k with
 | .call f args=>oK (evs E args) fun vs=>Qdk FT HK f vs h fun v h'=>K (some v) h'
 | .callv x args=>oK (evS E x) fun s=>oK (evs E args) fun vs=>Qfn FT HK s vs h fun v h'=>K (some v) h'
 | k=>oK (Ql E h k) fun r=>K r.1 r.2
def wOp(o:AOp)(E:Env)(h:Qa)(K:Env->Qa->Prop):Prop :=
 oK (Yn E o.guard) fun b=>wIf (b=true) (wK FT HK E h o.k fun v h'=>K (Qw o.dst v E) h') (K (Qw o.dst (some (.tup [])) E) h)
def Qk:List AOp->Env->Qa->(Env->Qa->Prop)->Prop
 | [],E,h,K=>K E h
 | o::r,E,h,K=>wOp FT HK o E h fun E' h'=>Qk r E' h' K
def QP:List (AOp×Nat×Bool)->Env->Qa->(Env->Qa->Prop)->Prop
 | [],E,h,K=>K E h
 | o::r,E,h,K=>wOp FT HK o.1 E h fun E' h'=>wAnd (o.2.2=true∨h'.take h.length=h) (QP r E' h' K)
def Q6(S A fr:List Nat):List (AOp×Nat×Bool)->Env->Qa->(Env->Qa->Prop)->Prop
 | [],E,h,K=>K E h
 | o::r,E,h,K=>(∀ id,ldX E o.2.2 o.1.k=some id->id∈S)/\wOp FT HK o.1 E h fun E' h'=>(o.2.2=true∨h'.take h.length=h)/\(o.2.1∈fr∨(∀ id∈S,h'[id]?=h[id]?)/\∀ id∈A,id<h.length->h'[id]?=h[id]?)/\(1000+o.2.1∈fr->∀ id,h.length<=id->id<h'.length->id∈A)/\Q6 S A fr r E' h' K
def Xv(w:Env->Qa->Prop)(Q:Ex->Env->Qa->Prop):Ex->Env->Qa->Prop
 | .nm,E,h=>w E h
 | e,E,h=>Q e E h
def Xs(id:Nat)(Q:Ex->Env->Qa->Prop):Ex->Env->Qa->Prop
 | .ex i,E,h=>wIf (i=id) (Q .nm E h) (Q (.ex i) E h)
 | e,E,h=>Q e E h
def Qjk(s:SV)(A B:Prop):Prop:=match s with
 | .bool t=>wIf (t=true) A B
 | _=>False
def wA:AC->Env->Qa->(Ex->Env->Qa->Prop)->Prop
 | .skip,E,h,Q=>Q .nm E h
 | .ret,E,h,Q=>Q .rt E h
 | .exit id,E,h,Q=>Q (.ex id) E h
 | .reg ops keep,E,h,Q=>Qk FT HK ops E h fun E' h'=>Q .nm (E'.keep keep) h'
 | .regd ops keep,E,h,Q=>QP FT HK ops E h fun E' h'=>Q .nm (E'.keep keep) h'
 | .regs ops fr keep,E,h,Q=>∃ S A,Q6 FT HK S A fr ops E h fun E' h'=>Q .nm (E'.keep keep) h'
 | .seq a b,E,h,Q=>wA a E h (Xv (fun E' h'=>wA b E' h' Q) Q)
 | .cond c a b,E,h,Q=>oK (evS E c) fun s=>Qjk s (wA a E h Q) (wA b E h Q)
 | .block id a,E,h,Q=>wA a E h (Xs id Q)
 | .loop ks a,E,h,Q=>Qjj FT HK ks a E h Q
 | .scope a,E,h,Q=>wA a E h Q
variable {FT HK}
theorem Qa6{f:FuncId}{vs:List AV}{h:Qa}{K R:AV->Qa->Prop}(hc:∃ v h',Cal FT HK f vs h v h'/\R v h')(hK:∀ v h',R v h'->K v h'):Qdk FT HK f vs h K :=
 let ⟨v,h',h1,h2⟩:=hc;⟨v,h',h1,hK v h' h2⟩
theorem Qa5{ks:List Nat}{a:AC}{E:Env}{h:Qa}{Q R:Ex->Env->Qa->Prop}(hc:∃ ex E' h',Lp FT HK ks a E h (ex,E',h')/\R ex E' h')(hQ:∀ ex E' h',R ex E' h'->Q ex E' h'):Qjj FT HK ks a E h Q :=
 let ⟨ex,E',h',h1,h2⟩:=hc;⟨ex,E',h',h1,hQ ex E' h' h2⟩
theorem Vw{f:FuncId}{vs:List AV}{h:Qa}{K:AV->Qa->Prop}(hw:Qdk FT HK f vs h K):∃ v h',K v h'/\∃ N,∀ m,N<=m->X6 FT HK m f vs h=some (v,h'):=by
 obtain⟨v,h',⟨N,hN⟩,h3⟩:=hw
 exact⟨v,h',h3,N,hN⟩
theorem Qkl{E:Env}{h:Qa}{k:AK}{K:Option AV->Qa->Prop}(hw:wK FT HK E h k K):∃ v h',K v h'/\∃ N,∀ m,N<=m->QX (X6 FT HK m) E h k=some (v,h'):=by
 unfold wK at hw
 split at hw
 ·obtain⟨vs,h1,hw⟩:=oK_iff.1 hw
  obtain⟨v,h',h3,N,hN⟩:=Vw hw
  exact⟨some v,h',h3,N,fun m hm=>by simp[QX,h1,hN m hm]⟩
 ·obtain⟨s,h1,hw⟩:=oK_iff.1 hw
  obtain⟨vs,h2,hw⟩:=oK_iff.1 hw
  unfold Qfn at hw
  split at hw
  ·obtain⟨v,h',h3,N,hN⟩:=Vw hw
   exact⟨some v,h',h3,N,fun m hm=>by simp[QX,h1,h2,hN m hm]⟩
  ·exact hw.elim
 ·rename_i h1 h2
  obtain⟨r,h3,h4⟩:=oK_iff.1 hw
  refine⟨r.1,r.2,h4,0,fun m _=>?_⟩
  unfold QX
  split
  ·exact absurd rfl (h1 _ _)
  ·exact absurd rfl (h2 _ _)
  ·exact h3
theorem V0{o:AOp}{E:Env}{h:Qa}{K:Env->Qa->Prop}(hw:wOp FT HK o E h K):∃ E' h',K E' h'/\∃ N,∀ m,N<=m->Yz (X6 FT HK m) o E h=some (E',h'):=by
 unfold wOp at hw
 obtain⟨b,h1,hw⟩:=oK_iff.1 hw
 rw[V2]at hw
 split at hw
 ·rename_i hb;subst hb
  obtain⟨v,h',h2,N,hN⟩:=Qkl hw
  exact⟨_,_,h2,N,fun m hm=>by simp[Yz,h1,hN m hm]⟩
 ·rename_i hb
  have:b=false:=by simpa using hb
  subst this
  exact⟨_,_,hw,0,fun m _=>by simp[Yz,h1]⟩
theorem Qa4:∀ {ops:List AOp} {E:Env} {h:Qa} {K:Env->Qa->Prop},Qk FT HK ops E h K->∃ E' h',K E' h'/\∃ N,∀ m,N<=m->Zt (X6 FT HK m) ops E h=some (E',h')
 | [],E,h,K,hw=>⟨E,h,hw,0,fun m _=>rfl⟩
 | o::r,E,h,K,hw=>by
  obtain⟨E1,h1,h2,N,hN⟩:=V0 hw
  obtain⟨E2,h3,h4,M,hM⟩:=Qa4 h2
  exact⟨E2,h3,h4,N+M,fun m hm=>by simp[Zt,hN m (by omega),hM m (by omega)]⟩
theorem Vv:∀ {ops:List (AOp×Nat×Bool)} {E:Env} {h:Qa} {K:Env->Qa->Prop},QP FT HK ops E h K ->
  ∃ E' h',K E' h'/\∃ N,∀ m,N<=m->Zm (X6 FT HK m) (ops.map fun p=>(p.1,p.2.2)) E h=some (E',h')
 | [],E,h,K,hw=>⟨E,h,hw,0,fun m _=>rfl⟩
 | (o,i,ord)::r,E,h,K,hw=>by
  obtain⟨E1,h1,⟨ho,h2⟩,N,hN⟩:=V0 hw
  obtain⟨E2,h3,h4,M,hM⟩:=Vv h2
  refine⟨E2,h3,h4,N+M,fun m hm=>?_⟩
  simp only[G8,Zm,hN m (by omega)]
  rw[if_pos (by simpa using ho)]
  exact hM m (by omega)
theorem Vu{S A fr:List Nat}:∀ {ops:List (AOp×Nat×Bool)} {E:Env} {h:Qa} {K:Env->Qa->Prop},Q6 FT HK S A fr ops E h K ->
  ∃ E' h',K E' h'/\∃ N,∀ m,N<=m->((∀ id∈zU (X6 FT HK m) ops E h,id∈S)/\∀ id∈qK (X6 FT HK m) fr ops E h,id∈A) ∧
   ∀ S' A':List Nat,(∀ id∈S',id∈S)->(∀ id∈A',id∈A)->(∀ id∈zU (X6 FT HK m) ops E h,id∈S')->YS (X6 FT HK m) S' A' fr ops E h=some (E',h')
 | [],E,h,K,hw=>⟨E,h,hw,0,fun m _=>⟨by simp[zU,qK],fun _ _ _ _ _=>rfl⟩⟩
 | (o,i,ord)::r,E,h,K,hw=>by
  obtain⟨hl,hw⟩:=hw
  obtain⟨E1,h1,⟨ho,hs,ha,h2⟩,N,hN⟩:=V0 hw
  obtain⟨E2,h3,h4,M,hM⟩:=Vu h2
  refine⟨E2,h3,h4,N+M,fun m hm=>?_⟩
  obtain⟨⟨q1,q3⟩,q2⟩:=hM m (by omega)
  have hr:=hN m (by omega)
  simp only[zU,qK,YS,hr]
  refine⟨⟨fun id hid=>?_,fun id hid=>?_⟩,fun S' A' hS hA hL=>?_⟩
  ·rcases GD.1 hid with h5|h5
   ·cases hx:ldX E ord o.k with
    | none=>rw[hx]at h5;simp[ldL]at h5
    | some id' =>
     rw[hx]at h5
     simp only[ldL,List.mem_singleton]at h5
     subst h5
     exact hl _ hx
   ·exact q1 id h5
  ·rcases GD.1 hid with h5|h5
   ·split at h5
    ·rename_i hf
     have:=List.mem_range'_1.1 h5
     exact ha (List.contains_iff_mem.1 hf) id this.1 (by omega)
    ·simp at h5
   ·exact q3 id h5
  ·rw[if_pos]
   ·exact q2 S' A' hS hA fun id hid=>hL id (GD.2 (.inr hid))
   ·simp only[Bool.and_eq_true,Bool.or_eq_true,beq_iff_eq,G4,List.contains_iff_mem,decide_eq_true_eq]
    refine⟨by simpa using ho,hs.imp (fun h=>h) fun hs=>⟨fun id hid=>hs.1 id (hS id hid),fun id hid=>?_⟩,?_⟩
    ·rcases Gt id h.length with hlt|hge
     ·exact .inr (hs.2 id (hA id hid) hlt)
     ·exact .inl hge
    ·cases hx:ldX E ord o.k with
     | none=>rfl
     | some id=>simpa [QiQ]using hL id (GD.2 (.inl (by rw[hx];simp[ldL])))
theorem Qcn:∀ {c:AC} {E:Env} {h:Qa} {Q:Ex->Env->Qa->Prop},wA FT HK c E h Q->∃ ex E' h',Run FT HK c E h (ex,E',h')/\Q ex E' h':=by
 intro c
 induction c with
 | skip=>exact fun hw=>⟨_,_,_,.of fun m=>rfl,hw⟩
 | ret=>exact fun hw=>⟨_,_,_,.of fun m=>rfl,hw⟩
 | exit id=>exact fun hw=>⟨_,_,_,.of fun m=>rfl,hw⟩
 | reg ops keep =>
  intro E h Q hw
  obtain⟨E',h',h1,N,hN⟩:=Qa4 hw
  exact⟨_,_,_,⟨N,fun m hm=>by simp[XD,hN m hm]⟩,h1⟩
 | regd ops keep =>
  intro E h Q hw
  obtain⟨E',h',h1,N,hN⟩:=Vv hw
  exact⟨_,_,_,⟨N,fun m hm=>by simp only[XD];rw[hN m hm];rfl⟩,h1⟩
 | regs ops fr keep =>
  intro E h Q hw
  obtain⟨S,A,hw⟩:=hw
  obtain⟨E',h',h1,N,hN⟩:=Vu hw
  refine⟨_,_,_,⟨N,fun m hm=>?_⟩,h1⟩
  obtain⟨⟨q1,q3⟩,q2⟩:=hN m hm
  simp only[XD]
  rw[q2 _ _ q1 q3 fun id hid=>hid];rfl
 | seq a b iha ihb =>
  intro E h Q hw
  obtain⟨ex,E1,h1,h2,h3⟩:=iha hw
  cases ex with
  | nm =>
   obtain⟨ex2,E2,h4,h5,h6⟩:=ihb h3
   exact⟨ex2,E2,h4,h2.seq h5,h6⟩
  | ex i=>exact⟨_,_,_,h2.seqStop (by simp),h3⟩
  | rt=>exact⟨_,_,_,h2.seqStop (by simp),h3⟩
 | cond c a b iha ihb =>
  intro E h Q hw
  obtain⟨s,h1,hw⟩:=oK_iff.1 hw
  unfold Qjk at hw
  split at hw
  ·rename_i t
   rw[V2]at hw
   cases t
   ·simp only[Bool.false_eq_true,if_false]at hw
    obtain⟨ex,E',h',⟨N,hN⟩,h4⟩:=ihb hw
    exact⟨ex,E',h',⟨N,fun m hm=>by simp only[XD,h1];simpa using hN m hm⟩,h4⟩
   ·simp only[if_true]at hw
    obtain⟨ex,E',h',⟨N,hN⟩,h4⟩:=iha hw
    exact⟨ex,E',h',⟨N,fun m hm=>by simp only[XD,h1];simpa using hN m hm⟩,h4⟩
  ·exact hw.elim
 | block id a iha =>
  intro E h Q hw
  obtain⟨ex,E',h',⟨N,hN⟩,h2⟩:=iha hw
  cases ex with
  | nm=>exact⟨.nm,E',h',⟨N,fun m hm=>by simp[XD,hN m hm]⟩,h2⟩
  | rt=>exact⟨.rt,E',h',⟨N,fun m hm=>by simp[XD,hN m hm]⟩,h2⟩
  | ex i =>
   simp only[Xs]at h2
   rw[V2]at h2
   split at h2
   ·rename_i hi
    exact⟨.nm,E',h',⟨N,fun m hm=>by simp[XD,hN m hm,hi]⟩,h2⟩
   ·rename_i hi
    exact⟨.ex i,E',h',⟨N,fun m hm=>by simp[XD,hN m hm,hi]⟩,h2⟩
 | loop ks a iha =>
  intro E h Q hw
  obtain⟨ex,E',h',h1,h2⟩:=hw
  exact⟨ex,E',h',h1.run,h2⟩
 | scope a iha =>
  intro E h Q hw
  obtain⟨ex,E',h',⟨N,hN⟩,h2⟩:=iha hw
  exact⟨ex,E',h',⟨N,fun m hm=>by simp only[XD];exact hN m hm⟩,h2⟩
theorem Cal.of{f:FuncId}{F:AFun}{args:List AV}{h:Qa}{R:AV->Qa->Prop}(hk:HK f=none)(hF:FT f=some F)(hl:args.length=F.np)
  (hw:wA FT HK F.body (params 0 args) h fun ex E' h'=>wAnd (ex = .nm∨ex = .rt) (oK (XK F.res E' h') fun v=>R v h')):∃ v h',Cal FT HK f args h v h'/\R v h':=by
 obtain⟨ex,E',h',h1,h2,h3⟩:=Qcn hw
 obtain⟨v,h4,h5⟩:=oK_iff.1 h3
 exact⟨v,h',Run.call hk hF hl h1 h2 h4,h5⟩
def QC(I:Env->Qa->Prop)(μ:Env->Qa->Nat)(k:Nat)(R:Ex->Env->Qa->Prop):Ex->Env->Qa->Prop
 | .nm,E,h=>I E h∧μ E h<k
 | ex,E,h=>R ex E h
theorem Lp.of{ks:List Nat}{c:AC}{R:Ex->Env->Qa->Prop}(I:Env->Qa->Prop)(μ:Env->Qa->Nat)
  (round:∀ E h,I E h->wA FT HK c (E.keep ks) h (QC I μ (μ E h) R)) :
  ∀ E h,I E h->∃ ex E' h',Lp FT HK ks c E h (ex,E',h')/\R ex E' h':=by
 have key:∀ n E h,μ E h=n->I E h->∃ ex E' h',Lp FT HK ks c E h (ex,E',h')/\R ex E' h':=by
  intro n
  induction n using Nat.strongRecOn with
  | _ n ih =>
   intro E h hn hI
   obtain⟨ex,E',h',h1,h2⟩:=Qcn (round E h hI)
   cases ex with
   | nm =>
    obtain⟨h3,h4⟩:=h2
    obtain⟨ex2,E2,h5,h6,h7⟩:=ih _ (by omega) E' h' rfl h3
    exact⟨ex2,E2,h5,Lp.step h1 h6,h7⟩
   | ex i=>exact⟨_,_,_,Lp.stop (by simp) h1,h2⟩
   | rt=>exact⟨_,_,_,Lp.stop (by simp) h1,h2⟩
 exact fun E h hI=>key _ E h rfl hI
theorem QhL{n:Int}(h : -9223372036854775808<=n/\n<=9223372036854775807):IntKind.i64.wrap n=n:=by
 rw[IntKind.wrap_i64];omega
end wp
end
theorem X0(E:Env):E.keep []=[]:=rfl
theorem Qe2(E:Env)(k:Nat)(ks:List Nat):E.keep (k::ks)=(k,E.get k)::E.keep ks:=rfl
section
variable {FT:zzA} {HK:zzH} {a b:AC} {E:Env} {h:Qa} {Q:Ex->Env->Qa->Prop}
theorem Qh(hw:wA FT HK a E h (Xv (fun E' h'=>wA FT HK b E' h' Q) Q)):wA FT HK (.seq a b) E h Q:=hw
theorem Qc{w:Env->Qa->Prop}(hw:w E h):Xv w Q .nm E h:=hw
theorem Xc{w:Env->Qa->Prop}{i:Nat}(hw:Q (.ex i) E h):Xv w Q (.ex i) E h:=hw
theorem QD{w:Env->Qa->Prop}(hw:Q .rt E h):Xv w Q .rt E h:=hw
theorem QhM(hw:wA FT HK a E h Q):wA FT HK (.scope a) E h Q:=hw
theorem Qz{i:Nat}(hw:wA FT HK a E h (Xs i Q)):wA FT HK (.block i a) E h Q:=hw
theorem QV{i:Nat}(hw:Q .nm E h):Xs i Q .nm E h:=hw
theorem Q8{i:Nat}(hw:Q .nm E h):Xs i Q (.ex i) E h:=⟨fun _=>hw,fun hc=>absurd rfl hc⟩
theorem JU{i j:Nat}(hj:(j==i)=false)(hw:Q (.ex j) E h):Xs i Q (.ex j) E h:=⟨fun hc=>by subst hc;simp at hj,fun _=>hw⟩
theorem Xn{i:Nat}(hw:Q .rt E h):Xs i Q .rt E h:=hw
theorem Qm(hw:Q .nm E h):wA FT HK .skip E h Q:=hw
theorem Qs(hw:Q .rt E h):wA FT HK .ret E h Q:=hw
theorem Q5{i:Nat}(hw:Q (.ex i) E h):wA FT HK (.exit i) E h Q:=hw
theorem Qfm{c:AO}(t:Bool)(hc:evS E c=some (.bool t))(ht:t=true->wA FT HK a E h Q)(hf:t=false->wA FT HK b E h Q):wA FT HK (.cond c a b) E h Q:=by
 show oK (evS E c) _
 rw[hc]
 exact⟨ht,fun h2=>hf (by simpa using h2)⟩
theorem YK{ks:List Nat}(I:Env->Qa->Prop)(μ:Env->Qa->Nat)(R:Ex->Env->Qa->Prop)(h0:I E h)
  (round:∀ E h,I E h->wA FT HK a (E.keep ks) h (QC I μ (μ E h) R)) (hQ:∀ ex E' h',R ex E' h'->Q ex E' h'):wA FT HK (.loop ks a) E h Q :=
 Qa5 (Lp.of I μ round E h h0) hQ
theorem Xg{I:Env->Qa->Prop}{μ:Env->Qa->Nat}{k:Nat}{R:Ex->Env->Qa->Prop}(h1:I E h)(h2:μ E h<k):QC I μ k R .nm E h:=⟨h1,h2⟩
theorem XA{I:Env->Qa->Prop}{μ:Env->Qa->Nat}{k i:Nat}{R:Ex->Env->Qa->Prop}(h1:R (.ex i) E h):QC I μ k R (.ex i) E h:=h1
theorem YJ{I:Env->Qa->Prop}{μ:Env->Qa->Nat}{k:Nat}{R:Ex->Env->Qa->Prop}(h1:R .rt E h):QC I μ k R .rt E h:=h1
end
theorem IsSl.len{h:Qa}{s:SV}{e:ESz}{n:Nat}{vs:List SV}(hs:IsSl h s e n vs):Yv false s=some (n:Int):=by
 rcases hs with ⟨rfl,rfl,rfl⟩|⟨id,off,cap,b,rfl,_⟩ <;> simp[Yv]
theorem IsSl.mono{h h':Qa}{s:SV}{e:ESz}{n:Nat}{vs:List SV}(hs:IsSl h s e n vs)(hh:∀(i:Nat) (b:Blk),h[i]?=some b->h'[i]?=some b):IsSl h' s e n vs:=by
 rcases hs with hs|⟨id,off,cap,b,h1,h2,h3⟩
 ·exact .inl hs
 ·exact .inr ⟨id,off,cap,b,h1,hh _ _ h2,h3⟩
theorem IsInts.at{h:Qa}{s:SV}{xs:List Int}(hs:IsInts h s xs){i:Nat}{x:Int}(hi:xs[i]?=some x) :
  ∃ id off cap,s = .slc id off xs.length cap/\Q9 h id (off+i*1) 1=some [.int .i64 x]:=by
 have hl:=(Gb.1 hi).1
 rcases hs with ⟨rfl,h1,h2⟩|⟨id,off,cap,b,h1,h2,h3,h4,h5⟩
 ·omega
 ·obtain⟨cs,rw',rfl,hc⟩:=h5 (by omega)
  refine⟨id,off,cap,h1,?_⟩
  unfold Q9
  rw[h2]
  simp only
  unfold cut at hc ⊢
  simp only[ESz.one_n]at hc
  split at hc
  ·rename_i hle
   simp only[Option.some.injEq]at hc
   rw[if_pos (by omega)]
   have h6:cs[off+i]?=some (.int .i64 x):=by
    have h7:((cs.drop off).take (xs.length*1))[i]?=some (.int .i64 x):=by rw[hc];simp[hi]
    rw[List.getElem?_take_of_lt (by omega),GG]at h7
    exact h7
   have h8:cs.drop (off+i*1) = .int .i64 x::cs.drop (off+i+1):=by
    rw[Hd]
    obtain⟨h9,h10⟩:=Gb.1 h6
    rw[Hn h9,h10]
   rw[h8];rfl
  ·simp at hc
theorem YN{h t:Qa}(i:Nat)(b:Blk)(hb:h[i]?=some b):(h++t)[i]?=some b:=by
 rw[Gq (Gb.1 hb).1,hb]
