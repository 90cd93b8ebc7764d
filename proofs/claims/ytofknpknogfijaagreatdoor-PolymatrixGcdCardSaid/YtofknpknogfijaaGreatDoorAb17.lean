import Derived.Test.YtofknpknogfijaaGreatDoorAb15
import Derived.Scope
import Derived.Below
/- Code and calls: what is reckoned here is what the model does. -/
namespace Go.Ab
set_option linter.all false
variable [Base]
def XW(P:Program)(n:Nat):AC->Code->Bool
 | .skip,.skip=>true
 | .skip,.label _=>true
 | .ret,.ret=>true
 | .exit i,.exit j=>decide (i=j)
 | .reg ops _,.region _ os false=>VC P n os ops os.toList
 | .regd ops _,.region _ os true=>okD Qdx alN P n os ops
 | .regs ops fr _,.region _ os true=>okD UB (alX fr) P n os ops&&Qaq os ops fr
 | .seq a b,.seq c d=>XW P n a c&&XW P n b d
 | .cond x a b,.cond y c d=>okO x y&&XW P n a c&&XW P n b d
 | .block i a,.block j c=>decide (i=j)&&XW P n a c
 | .loop _ a,.loop c=>XW P n a c
 | .scope a,.scope c=>XW P n a c
 | _,_=>false
def Qap(P:Program):ARes->ResultVar->Bool
 | .t n,.tmp m=>decide (n=m)
 | .cell a n agg,.cell b t=>decide (a=b)&&Y8 P t n&&Zd P t agg
 | _,_=>false
def UT(P:Program):List ARes->List ResultVar->Bool
 | [],[]=>true
 | x::xs,y::ys=>Qap P x y&&UT P xs ys
 | _,_=>false
def Qf8(P:Program)(F:AFun)(fn:Func):Bool :=
 (match fn.body with|some c=>XW P fn.ntmps F.body c|none=>false)&&UT P F.res fn.results.toList&&decide (F.np<=fn.ntmps)&&!(fn.name == "runtime.NumGoroutine")
def Qe7:Ex->Exit
 | .nm => .normal
 | .ex i => .exit i
 | .rt => .ret
def Qa1(P:Program)(c:Code)(Q:Exit->Act->World->Prop)(a:Act)(w:World):Prop :=
 ∀(b:Frame) (k:List Item) (cs:List Frame),∃ e a' w',Q e a' w'/\Arrives P (lone (b.at a (.code c :: .inLoop c::k)) cs w) b k cs e a' w'
theorem QiN{P:Program}{c:Code}{Q:Exit->Act->World->Prop}{a:Act}{w:World}(h:Qa1 P c Q a w):(Code.loop c).wp P Q a w:=by
 intro b k cs
 obtain⟨e,a',w',hq,harr⟩:=h b k cs
 exact⟨e,a',w',hq,.of_steps (.one step_loop) harr⟩
theorem QcI{P:Program}{c:Code}{Q:Exit->Act->World->Prop}{a:Act}{w:World}(h:c.wp P (Exit.then (Qa1 P c Q) Q) a w):Qa1 P c Q a w:=by
 intro b k cs
 obtain⟨e,a₁,w₁,hq,harr⟩:=h b (.inLoop c::k) cs
 cases e with
 | normal =>
  obtain⟨e₂,a₂,w₂,hq₂,harr₂⟩:=hq b k cs
  exact⟨e₂,a₂,w₂,hq₂,.of_steps (Steps.trans harr (.one step_inLoop)) harr₂⟩
 | exit id=>exact⟨_,a₁,w₁,hq,.pass (x := .inLoop c) rfl (fun _ _ => .inl (by simp)) harr⟩
 | goto l=>exact⟨_,a₁,w₁,hq,.pass (x := .inLoop c) rfl (fun _ _ => .inl (by simp)) harr⟩
 | ret=>exact⟨_,a₁,w₁,hq,.pass (x := .inLoop c) rfl (fun _ _ => .inl (by simp)) harr⟩
 | panic ch=>exact⟨_,a₁,w₁,hq,.pass (x := .inLoop c) rfl (fun _ _ => .inl (by simp)) harr⟩
 | outgrown=>exact⟨_,a₁,w₁,hq,.pass (x := .inLoop c) rfl (fun _ _ => .inl (by simp)) harr⟩
def Post(β:Bt)(h:Qa)(w:World)(n:Nat)(ds:List Deferred)(ex:Ex)(E':Env)(h':Qa)(Q:Exit->Act->World->Prop):Prop :=
 ∀ β' w' a',Stp β h w β' h' w'->Rep β' h' w'->ERel β' E' a'.tmps->a'.tmps.size=n->a'.defers=ds->Q (Qe7 ex) a' w'
variable {P:Program} {cf:CF}
theorem yF(CO:CallOK P cf)(m:Nat):∀ {c:AC} {E:Env} {h:Qa} {ex:Ex} {E':Env} {h':Qa},XD cf m c E h=some (ex,E',h')->h.length<=h'.length:=by
 intro c
 induction c with
 | skip=>intro E h ex E' h' hs;simp[XD]at hs;rw[hs.2.2];exact Ge _
 | ret=>intro E h ex E' h' hs;simp[XD]at hs;rw[hs.2.2];exact Ge _
 | exit id=>intro E h ex E' h' hs;simp[XD]at hs;rw[hs.2.2];exact Ge _
 | reg ops keep =>
  intro E h ex E' h' hs
  simp only[XD,Ga,Prod.mk.injEq]at hs
  obtain⟨⟨E1,h1⟩,hr,_,_,rfl⟩:=hs
  exact qO CO hr
 | regd ops keep =>
  intro E h ex E' h' hs
  simp only[XD,Ga,Prod.mk.injEq]at hs
  obtain⟨⟨E1,h1⟩,hr,_,_,rfl⟩:=hs
  obtain⟨tr,t1,t2,t3⟩:=Qfq hr
  have T:TR #[] Qdx alN cf ops tr:=TR.pure fun p x hx=>⟨(t3 p x hx).1,(t3 p x hx).2.imp (fun h=>h) (fun h=>Classical.not_not.2 h)⟩
  have:=Yt CO T (Gs ops.length) (Ge _)
  rw[t1,t2]at this
  exact this
 | regs ops fr keep =>
  intro E h ex E' h' hs
  simp only[XD,Ga,Prod.mk.injEq]at hs
  obtain⟨⟨E1,h1⟩,hr,_,_,rfl⟩:=hs
  exact zH CO hr
 | seq a b iha ihb =>
  intro E h ex E' h' hs
  simp only[XD]at hs
  split at hs
  ·rename_i E1 h1 he
   exact Gh (iha he) (ihb hs)
  ·rename_i r hne
   exact iha hs
 | cond c a b iha ihb =>
  intro E h ex E' h' hs
  simp only[XD]at hs
  split at hs
  ·split at hs
   ·exact iha hs
   ·exact ihb hs
  ·simp at hs
 | block id a iha =>
  intro E h ex E' h' hs
  simp only[XD]at hs
  split at hs
  ·rename_i i E1 h1 he
   split at hs
   ·simp at hs;rw[← hs.2.2];exact iha he
   ·simp at hs;rw[← hs.2.2];exact iha he
  ·exact iha hs
 | loop keep a iha =>
  intro E h ex E' h' hs
  simp only[XD]at hs
  have key:∀(k:Nat) {E:Env} {h:Qa} {ex:Ex} {E':Env} {h':Qa},qB keep (XD cf m a) k E h=some (ex,E',h')->h.length<=h'.length:=by
   intro k
   induction k with
   | zero=>intro E h ex E' h' hs;simp[qB]at hs
   | succ k ih =>
    intro E h ex E' h' hs
    simp only[qB]at hs
    split at hs
    ·rename_i E1 h1 he
     exact Gh (iha he) (ih hs)
    ·exact iha hs
  exact key m hs
 | scope a iha =>
  intro E h ex E' h' hs
  simp only[XD]at hs
  exact iha hs
theorem QcU(hm:P.follows .mixedOrders=true)(CO:CallOK P cf)(m n:Nat):∀ {c:AC} {d:Code} {β:Bt} {E:Env} {h:Qa} {w:World} {a:Act} {ex:Ex} {E':Env} {h':Qa} {Q:Exit->Act->World->Prop},
  XW P n c d=true->a.tmps.size=n->ERel β E a.tmps->Rep β h w->fresh β h h'->XD cf m c E h=some (ex,E',h')->Post β h w n a.defers ex E' h' Q->d.wp P Q a w:=by
 intro c
 induction c with
 | skip =>
  intro d β E h w a ex E' h' Q hok hn hE R hf hs hK
  cases d <;> simp[XW]at hok
  all_goals
   simp[XD]at hs
   obtain⟨rfl,rfl,rfl⟩:=hs
  ·exact wp_skip (hK β w a (Stp.refl _ _ _) R hE hn rfl)
  ·exact wp_label (hK β w a (Stp.refl _ _ _) R hE hn rfl)
 | ret =>
  intro d β E h w a ex E' h' Q hok hn hE R hf hs hK
  cases d <;> simp[XW]at hok
  simp[XD]at hs
  obtain⟨rfl,rfl,rfl⟩:=hs
  exact wp_ret (hK β w a (Stp.refl _ _ _) R hE hn rfl)
 | exit id =>
  intro d β E h w a ex E' h' Q hok hn hE R hf hs hK
  cases d <;> simp[XW]at hok
  subst hok
  simp[XD]at hs
  obtain⟨rfl,rfl,rfl⟩:=hs
  exact wp_exit (hK β w a (Stp.refl _ _ _) R hE hn rfl)
 | reg ops keep =>
  intro d β E h w a ex E' h' Q hok hn hE R hf hs hK
  cases d
  case region id os dr =>
   cases dr <;> simp[XW]at hok
   simp only[XD,Ga,Prod.mk.injEq]at hs
   obtain⟨⟨E1,h1⟩,hr,rfl,rfl,rfl⟩:=hs
   exact wp_region_list (VB CO hok hn hE R hf hr fun β' w' a' s1 s2 s3 s4 s5=>hK β' w' a' s1 s2 (s3.keep keep) s4 s5)
  all_goals simp[XW]at hok
 | regd ops keep =>
  intro d β E h w a ex E' h' Q hok hn hE R hf hs hK
  cases d
  case region id os dr =>
   cases dr <;> simp[XW]at hok
   simp only[XD,Ga,Prod.mk.injEq]at hs
   obtain⟨⟨E1,h1⟩,hr,rfl,rfl,rfl⟩:=hs
   exact Qcw hm CO hok hn hE R hf hr fun β' w' a' s1 s2 s3 s4 s5=>hK β' w' a' s1 s2 (s3.keep keep) s4 s5
  all_goals simp[XW]at hok
 | regs ops fr keep =>
  intro d β E h w a ex E' h' Q hok hn hE R hf hs hK
  cases d
  case region id os dr =>
   cases dr <;> simp[XW]at hok
   simp only[XD,Ga,Prod.mk.injEq]at hs
   obtain⟨⟨E1,h1⟩,hr,rfl,rfl,rfl⟩:=hs
   exact Qcv hm CO hok.1 hok.2 hn hE R hf hr (fun _ h=>h) fun β' w' a' s1 s2 s3 s4 s5=>hK β' w' a' s1 s2 (s3.keep keep) s4 s5
  all_goals simp[XW]at hok
 | seq a b iha ihb =>
  intro d β E h w ac ex E' h' Q hok hn hE R hf hs hK
  cases d <;> simp[XW]at hok
  simp only[XD]at hs
  split at hs
  ·rename_i E1 h1 he
   refine wp_seq (iha hok.1 hn hE R (hf.first (yF CO m hs)) he fun β1 w1 a1 s1 s2 s3 s4 s5=>?_)
   refine ihb hok.2 s4 s3 s2 (hf.rest s1) hs fun β2 w2 a2 t1 t2 t3 t4 t5=>hK β2 w2 a2 (s1.trans t1) t2 t3 t4 (t5.trans s5)
  ·rename_i r hne
   refine wp_seq (iha hok.1 hn hE R hf hs fun β1 w1 a1 s1 s2 s3 s4 s5=>?_)
   have:=hK β1 w1 a1 s1 s2 s3 s4 s5
   cases ex with
   | nm=>exact absurd hs (hne E' h')
   | ex i=>exact this
   | rt=>exact this
 | cond c a b iha ihb =>
  intro d β E h w ac ex E' h' Q hok hn hE R hf hs hK
  cases d <;> simp[XW]at hok
  obtain⟨⟨k1,k2⟩,k3⟩:=hok
  simp only[XD]at hs
  split at hs
  ·rename_i t hc
   have r:=QN k1 hE hc
   generalize hcv:ac.eval _=cv at r
   cases r
   cases t
   ·simp only[Bool.false_eq_true,if_false]at hs
    exact wp_cond_false hcv (ihb k3 hn hE R hf hs hK)
   ·simp only[if_true]at hs
    exact wp_cond_true hcv (iha k2 hn hE R hf hs hK)
  ·simp at hs
 | block id a iha =>
  intro d β E h w ac ex E' h' Q hok hn hE R hf hs hK
  cases d <;> simp[XW]at hok
  obtain⟨rfl,k2⟩:=hok
  simp only[XD]at hs
  split at hs
  ·rename_i i E1 h1 he
   split at hs
   ·rename_i hi
    simp at hs
    obtain⟨rfl,rfl,rfl⟩:=hs
    refine wp_block (iha k2 hn hE R hf he fun β1 w1 a1 s1 s2 s3 s4 s5=>?_)
    simp only[Qe7,Exit.inBlock,hi,if_true]
    exact hK β1 w1 a1 s1 s2 s3 s4 s5
   ·rename_i hi
    simp at hs
    obtain⟨rfl,rfl,rfl⟩:=hs
    refine wp_block (iha k2 hn hE R hf he fun β1 w1 a1 s1 s2 s3 s4 s5=>?_)
    simp only[Qe7,Exit.inBlock,hi,if_false]
    exact hK β1 w1 a1 s1 s2 s3 s4 s5
  ·rename_i r hne
   refine wp_block (iha k2 hn hE R hf hs fun β1 w1 a1 s1 s2 s3 s4 s5=>?_)
   have:=hK β1 w1 a1 s1 s2 s3 s4 s5
   cases ex with
   | nm=>exact this
   | ex i=>exact absurd hs (hne i E' h')
   | rt=>exact this
 | loop keep a iha =>
  intro d β E h w ac ex E' h' Q hok hn hE R hf hs hK
  cases d <;> simp[XW]at hok
  rename_i c
  simp only[XD]at hs
  refine QiN ?_
  have key:∀(k:Nat) {β:Bt} {E:Env} {h:Qa} {w:World} {ac:Act},ac.tmps.size=n->ERel β E ac.tmps->Rep β h w->fresh β h h'->qB keep (XD cf m a) k E h=some (ex,E',h') ->
    Post β h w n ac.defers ex E' h' Q->Qa1 P c Q ac w:=by
   intro k
   induction k with
   | zero=>intro β E h w ac _ _ _ _ hs _;simp[qB]at hs
   | succ k ih =>
    intro β E h w ac hn hE R hf hs hK
    simp only[qB]at hs
    refine QcI ?_
    split at hs
    ·rename_i E1 h1 he
     have hl:h1.length<=h'.length:=by
      have:XD cf m (.loop keep a) E1 h1=some (ex,E',h')∨True := .inr trivial
      have key2:∀(k:Nat) {E:Env} {h:Qa} {ex:Ex} {E':Env} {h':Qa},qB keep (XD cf m a) k E h=some (ex,E',h')->h.length<=h'.length:=by
       intro k
       induction k with
       | zero=>intro E h ex E' h' hs;simp[qB]at hs
       | succ k ih =>
        intro E h ex E' h' hs
        simp only[qB]at hs
        split at hs
        ·rename_i E1 h1 he
         exact Gh (yF CO m he) (ih hs)
        ·exact yF CO m hs
      exact key2 k hs
     refine iha hok hn (hE.keep keep) R (hf.first hl) he fun β1 w1 a1 s1 s2 s3 s4 s5=>?_
     exact ih s4 s3 s2 (hf.rest s1) hs fun β2 w2 a2 t1 t2 t3 t4 t5=>hK β2 w2 a2 (s1.trans t1) t2 t3 t4 (t5.trans s5)
    ·rename_i r hne
     refine iha hok hn (hE.keep keep) R hf hs fun β1 w1 a1 s1 s2 s3 s4 s5=>?_
     have:=hK β1 w1 a1 s1 s2 s3 s4 s5
     cases ex with
     | nm=>exact absurd hs (hne E' h')
     | ex i=>exact this
     | rt=>exact this
  exact key m hn hE R hf hs hK
 | scope a iha =>
  intro d β E h w ac ex E' h' Q hok hn hE R hf hs hK
  cases d <;> simp[XW]at hok
  simp only[XD]at hs
  refine wp_scope_straight (iha hok hn hE R hf hs fun β1 w1 a1 s1 s2 s3 s4 s5=>?_)
  have:=hK β1 w1 a1 s1 s2 s3 s4 s5
  cases ex with
  | nm=>exact this
  | ex i=>exact this
  | rt=>exact this
theorem QfU{β:Bt}{E:Env}{h:Qa}{w:World}{tmps:Array Value}{r:ARes}{s:ResultVar}{v:PV}(hok:Qap P r s=true)(hE:ERel β E tmps)(R:Rep β h w)(hr:Z6 E h r=some v) :
  ∃ c,((match s with
   | .tmp t=>pure (tmps.getD t undef)
   | .cell a t=>do loadVar t (← asAddr (tmps.getD a undef))):Sem Value).run P w = .ok c w/\PRel β v c:=by
 cases r with
 | t k =>
  cases s <;> simp[Qap]at hok
  subst hok
  simp only[Z6,Gd]at hr
  obtain⟨u,hu,hp⟩:=hr
  obtain⟨c,h1,h2⟩:=hE _ _ hu
  exact⟨c,by simp[Array.getD_eq_getD_getElem?,h1],h2.pv hp⟩
 | cell a k agg =>
  cases s <;> simp[Qap]at hok
  rename_i b t
  obtain⟨⟨rfl,k2⟩,k3⟩:=hok
  simp only[Z6]at hr
  split at hr
  ·rename_i id off hg
   simp only[Gd]at hr
   obtain⟨vs,hvs,u,hu,hp⟩:=hr
   obtain⟨c,h1,h2⟩:=hE _ _ hg
   cases h2 with
   | sc h2 =>
    cases h2 with
    | ptr hL hn' =>
     obtain⟨c',e1,e2⟩:=zP (P:=P) k2 k3 R hL hn' hvs hu
     exact⟨c',by simp[Array.getD_eq_getD_getElem?,h1,asAddr,e1],e2.pv hp⟩
  ·simp at hr
theorem UH{β:Bt}{E:Env}{h:Qa}{w:World}{tmps:Array Value}:∀ {rs:List ARes} {ss:List ResultVar} {vs:List PV},UT P rs ss=true->ERel β E tmps->Rep β h w->Zu E h rs=some vs ->
  ∃ cs:List Value,(ss.mapM (fun s=>(match s with
   | .tmp t=>pure (tmps.getD t undef)
   | .cell a t=>do loadVar t (← asAddr (tmps.getD a undef))):ResultVar->Sem Value)).run P w = .ok cs w/\F2 (PRel β) vs cs
 | [],[],vs,_,_,_,hr=>by simp[Zu]at hr;subst hr;exact⟨[],by simp,.nil⟩
 | r::rs,s::ss,vs,hok,hE,R,hr=>by
  simp only[UT,Bool.and_eq_true]at hok
  simp only[Zu,Gd,Ga]at hr
  obtain⟨v,hv,us,hus,rfl⟩:=hr
  obtain⟨c,e1,e2⟩:=QfU hok.1 hE R hv
  obtain⟨cs,e3,e4⟩:=UH hok.2 hE R hus
  refine⟨c::cs,?_,.cons e2 e4⟩
  rw[List.mapM_cons]
  simp only[Sem.run_bind,e1,Result.andThen_ok,e3,Sem.run_pure]
 | [],_::_,_,hok,_,_,_=>by simp[UT]at hok
 | _::_,[],_,hok,_,_,_=>by simp[UT]at hok
theorem Qct{E:Env}{h:Qa}{rs:List ARes}{v:AV}(hr:XK rs E h=some v):∃ vs,Zu E h rs=some vs/\v=(match vs with|[p]=>p.av|ps => .tup ps):=by
 unfold XK at hr
 split at hr
 ·simp only[Ga]at hr
  obtain⟨p,hp,rfl⟩:=hr
  exact⟨[p],by simp[Zu,hp],rfl⟩
 ·rename_i hne
  simp only[Ga]at hr
  obtain⟨ps,hp,rfl⟩:=hr
  refine⟨ps,hp,?_⟩
  match rs,ps,hne,hp with
  | [],ps,_,hp=>simp[Zu]at hp;subst hp;rfl
  | [r],ps,hne,_=>exact absurd rfl (hne r)
  | r::s::rs,ps,_,hp =>
   simp only[Zu,Gd,Ga]at hp
   obtain⟨a,_,q,⟨b,_,c,_,rfl⟩,rfl⟩:=hp
   rfl
theorem Qbi{β:Bt}{E:Env}{h:Qa}{w:World}{tmps:Array Value}{rs:List ARes}{fn:Func}{v:AV}(hok:UT P rs fn.results.toList=true)(hE:ERel β E tmps)(R:Rep β h w)
  (hr:XK rs E h=some v):∃ c,(results fn tmps).run P w = .ok c w/\ARel β v c:=by
 obtain⟨vs,h1,rfl⟩:=Qct hr
 obtain⟨cs,h2,h3⟩:=UH hok hE R h1
 have h4:(results fn tmps).run P w = .ok (if h:cs.toArray.size=1 then cs.toArray[0] else .tuple cs.toArray) w:=by
  unfold results
  simp only[Sem.run_bind]
  rw[Array.mapM_eq_mapM_toList]
  simp only[Sem.run_map]
  erw [h2]
  simp
 rw[h4]
 refine⟨_,rfl,?_⟩
 cases h3 with
 | nil=>exact .tup .nil
 | cons a b =>
  cases b with
  | nil=>exact a.av
  | cons c d=>exact .tup (.cons a (.cons c d))
structure FTok(P:Program)(FT:zzA):Prop where
 mixed:P.follows .mixedOrders=true
 ok:∀ f F,FT f=some F->∃ fn,P.funcs[f]?=some fn/\Qf8 P F fn=true
theorem UO:∀(vs:List AV) (k t:Nat) (v:AV),Env.get (params k vs) t=some v->k<=t/\vs[t-k]?=some v
 | [],k,t,v,h=>by simp[params,Env.get]at h
 | u::vs,k,t,v,h=>by
  simp only[params,Env.get]at h
  split at h
  ·rename_i e;subst e
   simp at h;subst h
   exact⟨Ge _,by simp⟩
  ·obtain⟨h1,h2⟩:=UO vs (k+1) t v h
   refine⟨by omega,?_⟩
   rw[show t-k=(t-(k+1))+1 by omega]
   simpa using h2
structure HkOK(P:Program)(f:FuncId)(g:Xq):Prop where
 fn:U1 P f=true
 len:∀ args h v h',g args h=some (v,h')->h.length<=h'.length
 run:∀ args h v h',g args h=some (v,h')->∀ β w vs,F2 (ARel β) args vs->Rep β h w->fresh β h h' ->
  Calls P f vs.toArray w fun e w'=>∃ β' c,e = .returned c/\ARel β' v c/\Stp β h w β' h' w'/\Rep β' h' w'
def qE(P:Program)(HK:zzH):Prop:=∀ f g,HK f=some g->HkOK P f g
theorem QbZ{F:AFun}{r:Out}{v:AV}{h':Qa}(h:y8 F r=some (v,h')):∃ ex E',r=some (ex,E',h')/\(ex = .nm∨ex = .rt)/\XK F.res E' h'=some v:=by
 unfold y8 at h
 split at h
 ·simp only[Ga,Prod.mk.injEq]at h
  obtain⟨u,hu,rfl,rfl⟩:=h
  exact⟨_,_,rfl,.inl rfl,hu⟩
 ·simp only[Ga,Prod.mk.injEq]at h
  obtain⟨u,hu,rfl,rfl⟩:=h
  exact⟨_,_,rfl,.inr rfl,hu⟩
 ·simp at h
theorem Uv{FT:zzA}{HK:zzH}(ok:FTok P FT)(hk:qE P HK):∀ m,CallOK P (X6 FT HK m)
 | 0=>⟨fun _ _ _ _ _ h=>by simp[X6]at h,fun _ _ _ _ h=>by simp[X6]at h,fun _ _ _ _ _ h=>by simp[X6]at h⟩
 | m+1=>by
  have ih:=Uv ok hk m
  have body:∀ f args h v h',X6 FT HK (m+1) f args h=some (v,h')->(∃ g,HK f=some g/\g args h=some (v,h')) ∨
    ∃ F ex E',FT f=some F/\args.length=F.np/\XD (X6 FT HK m) m F.body (params 0 args) h=some (ex,E',h')/\(ex = .nm∨ex = .rt)/\XK F.res E' h'=some v:=by
   intro f args h v h' hs
   simp only[X6]at hs
   split at hs
   ·exact .inl ⟨_,by assumption,hs⟩
   ·split at hs
    ·simp at hs
    ·rename_i F hF
     split at hs
     ·rename_i hl
      obtain⟨ex,E',h1,h2,h3⟩:=QbZ hs
      exact .inr ⟨F,ex,E',hF,hl,h1,h2,h3⟩
     ·simp at hs
  refine⟨fun f args h v h' hs=>?_,fun f args h r hs=>?_,fun f args h v h' hs β w vs hr R hf=>?_⟩
  ·rcases body f args h v h' hs with ⟨g,h1,h2⟩|⟨F,ex,E',_,_,he,_,_⟩
   ·exact(hk f g h1).len _ _ _ _ h2
   ·exact yF ih m he
  ·rcases body f args h r.1 r.2 hs with ⟨g,h1,h2⟩|⟨F,ex,E',hF,_⟩
   ·exact(hk f g h1).fn
   ·obtain⟨fn,h1,h2⟩:=ok.ok f F hF
    simp only[Qf8,Bool.and_eq_true]at h2
    obtain⟨⟨⟨h3,h4⟩,h5⟩,h6⟩:=h2
    split at h3
    ·rename_i c hc
     simp[U1,h1,hc]
     simpa using h6
    ·simp at h3
  ·rcases body f args h v h' hs with ⟨g,h1,h2⟩|⟨F,ex,E',hF,hl,he,hex,hres⟩
   ·exact(hk f g h1).run _ _ _ _ h2 β w vs hr R hf
   ·obtain⟨fn,h1,h2⟩:=ok.ok f F hF
    simp only[Qf8,Bool.and_eq_true,decide_eq_true_eq]at h2
    obtain⟨⟨⟨h3,h4⟩,h5⟩,h6⟩:=h2
    split at h3
    ·rename_i c hc
     have hvl:=hr.length
     refine calls_of_wp h1 hc (QcU ok.mixed ih m fn.ntmps h3 ?_ ?_ R hf he ?_)
     ·simp;omega
     ·intro t u ht
      obtain⟨-,k2⟩:=UO args 0 t u ht
      simp at k2
      obtain⟨cv,k3,k4⟩:=hr.get k2
      refine⟨cv,?_,k4⟩
      have hlt:t<vs.length:=(Gb.1 k3).1
      rw[Array.getElem?_append_left (by simpa using hlt)]
      simpa using k3
     ·intro β' w' a' s1 s2 s3 s4 s5
      obtain⟨cv,r1,r2⟩:=Qbi h4 s3 s2 hres
      rcases hex with rfl|rfl
      ·exact⟨s5,cv,r1,β',cv,rfl,r2,s1,s2⟩
      ·exact⟨s5,cv,r1,β',cv,rfl,r2,s1,s2⟩
    ·simp at h3
def Zj(v:AV):Xq:=fun args h=>if args.isEmpty then some (v,h) else none
theorem yU{β:Bt}{h:Qa}{w w':World}(R:Rep β h w)(hw:∀ b,b<w.heap.size->w'.heap[b]?=w.heap[b]?):Rep β h w' :=
 ⟨R.sz,fun id L cs rw esz hg hL=>let B:=R.blk id L cs rw esz hg hL;B.mono (fun _ _ h=>h) (hw _ B.lt),R.exc,by
  refine⟨?_,fun b hb=>(hw b (GJ hb R.keep.1)).trans (R.keep.2 b hb)⟩
  rcases Nat.eq_zero_or_pos Base.B with h0|h0
  ·rw[h0];exact Gs _
  ·have h1:=hw (Base.B-1) (by have:=R.keep.1;omega)
   rw[G6 (show Base.B-1<w.heap.size by have:=R.keep.1;omega)]at h1
   have:=(Gv.1 h1).1
   omega⟩
end Go.Ab
namespace Go.Ab
section
local instance zPin:Base:=⟨0,default⟩
end
set_option linter.all false
variable [Base]
structure ArgB(w:World)(L:Loc)(b:Blk):Prop where
 esz:L.esz=b.esz
 ty:b.esz.ty=none/\b.esz.n<1000000
 cells:∀ cs rw e,b = .cells cs rw e->rw=false/\∃ ccs e' fz,w.heap[L.b]?=some (.cells ccs e' fz)/\ccs.size=L.sz/\L.base+cs.length<=L.sz ∧
  ∀(i:Nat) (v:SV),cs[i]?=some v->∃ c,ccs[L.base+i]?=some c/\∀ β:Bt,SRel β v c
theorem Rep.var{P:Program}{β:Bt}{h:Qa}{w:World}(R:Rep β h w){n:String}{g:Nat}(hg:P.globalNamed n=some g)(hb:g<Base.B):w.var? P n=Base.W.var? P n:=by
 unfold World.var?
 rw[hg]
 simp only[Gi,R.keep.2 _ hb]
def IsSl(h:Qa)(s:SV)(esz:ESz)(n:Nat)(vs:List SV):Prop :=
 (s = .nilS/\n=0/\vs=[])∨∃ id off cap b,s = .slc id off n cap/\h[id]?=some b/\b.esz=esz/\(n=0->vs=[])/\(0<n->∃ cs rw,b = .cells cs rw esz/\cut cs off (n*esz.n)=some vs)
def IsInts(h:Qa)(s:SV)(xs:List Int):Prop:=IsSl h s 1 xs.length (xs.map (.int .i64))
theorem Qhz{w:World}{x:Addr}{v:Value}(h:w.cell? (x.add 0)=some v):x=⟨x.block,x.off,none⟩:=by
 have h0:x.add 0=x:=by simp[Addr.add]
 rw[h0]at h
 unfold World.cell? at h
 split at h
 ·split at h
  ·simp at h
  ·rename_i hs
   cases x
   simp at hs
   simp[hs]
 ·simp at h
