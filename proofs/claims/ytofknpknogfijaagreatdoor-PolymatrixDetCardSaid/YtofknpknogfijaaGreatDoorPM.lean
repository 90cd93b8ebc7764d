/- Laurent polynomials as lists of terms: plain. -/
import Derived.Test.YtofknpknogfijaaGreatDoorAb2
import Derived.Test.YtofknpknogfijaaGreatDoorW3
import Derived.Test.YtofknpknogfijaaGreatDoorAb41
namespace Go.Proofs.YtofknpknogfijaaGreatDoor
set_option linter.unusedVariables false
abbrev Tm:=Int × Int
def S (f:Int→Int):List Tm→Int
  | []=>0
  | t::r=>t.2*f t.1+S f r
theorem Qjy (f:Int→Int):∀ a b,S f (a++b)=S f a+S f b
  | [],b=>by simp [S]
  | t::a,b=>by simp [S,Qjy f a b,Int.add_assoc]
theorem zG {f g:Int→Int}:∀ {l:List Tm},(∀ t∈l,f t.1=g t.1)→S f l=S g l
  | [],_=>rfl
  | t::r,h=>by
    simp only [S]
    rw [h t (.head _),zG fun u hu=>h u (.tail _ hu)]
theorem Qgu:∀ l,S (fun _=>0) l=0
  | []=>rfl
  | t::r=>by simp [S,Qgu r]
def dl (e x:Int):Int:=if x=e then 1 else 0
theorem yl (e:Int):dl e e=1:=if_pos rfl
theorem U5 {e x:Int} (h:x≠e):dl e x=0:=if_neg h
def cf (l:List Tm) (e:Int):Int:=S (dl e) l
theorem JU {l:List Tm} {e:Int} (h:∀ t∈l,t.1≠e):cf l e=0:=by
  unfold cf
  rw [zG (g:=fun _=>0) fun t ht=>U5 (h t ht),Qgu]
theorem Ji (t:Tm) (r:List Tm) (e:Int):cf (t::r) e=t.2*dl e t.1+cf r e:=rfl
theorem QkZ (a b:List Tm) (e:Int):cf (a++b) e=cf a e+cf b e:=Qjy _ _ _
structure Can (l:List Tm):Prop where
  asc:l.Pairwise fun a b=>a.1 < b.1
  nz:∀ t∈l,t.2≠0
theorem Can.nil:Can []:=⟨.nil,by simp⟩
theorem Can.tail {t:Tm} {r:List Tm} (h:Can (t::r)):Can r:=⟨(List.pairwise_cons.1 h.asc).2,fun u hu=>h.nz u (.tail _ hu)⟩
theorem Can.lt {t:Tm} {r:List Tm} (h:Can (t::r)):∀ u∈r,t.1 < u.1:=(List.pairwise_cons.1 h.asc).1
theorem Can.cons {t:Tm} {r:List Tm} (h:Can r) (h0:t.2≠0) (hl:∀ u∈r,t.1 < u.1):Can (t::r) :=
  ⟨List.pairwise_cons.2 ⟨hl,h.asc⟩,fun u hu=>(List.mem_cons.1 hu).elim (fun e=>by rw [e];exact h0) (h.nz u)⟩
theorem Can.cf_head {t:Tm} {r:List Tm} (h:Can (t::r)):cf (t::r) t.1=t.2:=by
  rw [Ji,yl,JU fun u hu=>by have:=h.lt u hu;omega];omega
theorem Can.cf_low {t:Tm} {r:List Tm} (h:Can (t::r)) {e:Int} (he:e < t.1):cf (t::r) e=0:=by
  refine JU fun u hu=>?_
  rcases List.mem_cons.1 hu with rfl | hu
  · omega
  · have:=h.lt u hu;omega
theorem Can.ext:∀ {p q:List Tm},Can p→Can q→(∀ e,cf p e=cf q e)→p=q
  | [],[],_,_,_=>rfl
  | [],u::q,_,hq,h=>by
    have:=h u.1
    rw [hq.cf_head] at this
    exact absurd this.symm (hq.nz u (.head _))
  | t::p,[],hp,_,h=>by
    have:=h t.1
    rw [hp.cf_head] at this
    exact absurd this (hp.nz t (.head _))
  | t::p,u::q,hp,hq,h=>by
    have h1:t.1=u.1:=by
      rcases Int.lt_trichotomy t.1 u.1 with hlt | he | hgt
      · have:=h t.1
        rw [hp.cf_head,hq.cf_low hlt] at this
        exact absurd this (hp.nz t (.head _))
      · exact he
      · have:=h u.1
        rw [hq.cf_head,hp.cf_low hgt] at this
        exact absurd this.symm (hq.nz u (.head _))
    have h2:t.2=u.2:=by
      have:=h t.1
      rw [hp.cf_head,h1,hq.cf_head] at this
      exact this
    have h3:t=u:=Prod.ext h1 h2
    subst h3
    rw [Can.ext hp.tail hq.tail fun e=>by have:=h e;rw [Ji,Ji] at this;omega]
def put (e c:Int):List Tm:=if c=0 then [] else [(e,c)]
def mrg (f:Int→Int→Int):List Tm→List Tm→List Tm
  | [],[]=>[]
  | t::p,[]=>put t.1 (f t.2 0)++mrg f p []
  | [],u::q=>put u.1 (f 0 u.2)++mrg f [] q
  | t::p,u::q=>if t.1 < u.1 then put t.1 (f t.2 0)++mrg f p (u::q) else if u.1 < t.1 then put u.1 (f 0 u.2)++mrg f (t::p) q else put t.1 (f t.2 u.2)++mrg f p q
termination_by p q=>p.length+q.length
def sumR (g:Int→Int) (lo:Int):Nat→Int
  | 0=>0
  | n+1=>sumR g lo n+g (lo+n)
def Qff (g:Int→Int) (lo:Int) (n:Nat):List Tm:=(List.range n).flatMap fun k:Nat=>put (lo+(k:Int)) (g (lo+(k:Int)))
end Go.Proofs.YtofknpknogfijaaGreatDoor


namespace Go.Proofs.YtofknpknogfijaaGreatDoor
set_option linter.unusedVariables false
def S2 (f:Int→Int) (p q:List Tm):Int:=S (fun a=>S (fun b=>f (a+b)) q) p
def mc (p q:List Tm) (e:Int):Int:=S2 (dl e) p q
theorem mc_nil (q:List Tm) (e:Int):mc [] q e=0:=rfl
theorem QfD (q:List Tm) (a e:Int):S (fun b=>dl e (a+b)) q=cf q (e-a):=by
  unfold cf
  refine zG fun t _=>?_
  by_cases h:a+t.1=e
  · rw [h,yl,show t.1=e-a by omega,yl]
  · rw [U5 h,U5 (by omega)]
theorem mc_S (p q:List Tm) (e:Int):mc p q e=S (fun a=>cf q (e-a)) p:=zG fun t _=>QfD q t.1 e
theorem QhJ (t:Tm) (p q:List Tm) (e:Int):mc (t::p) q e=t.2*cf q (e-t.1)+mc p q e:=by
  rw [mc_S,mc_S];rfl
def mulL (p q:List Tm) (lo:Int) (n:Nat):List Tm:=Qff (mc p q) lo n
def lo0 (p:List Tm):Int:=match p with | []=>0 | t::_=>t.1
def hi0 (p:List Tm):Int:=match p.getLast? with | none=>0 | some t=>t.1
theorem QeR {p:List Tm} (h:Can p):∀ t∈p,lo0 p≤t.1:=by
  cases p with
  | nil=>simp
  | cons u r =>
    intro t ht
    rcases List.mem_cons.1 ht with rfl | ht
    · exact Int.le_refl _
    · exact Int.le_of_lt (h.lt t ht)
theorem QaP {t u:Tm} {r:List Tm}:hi0 (t::u::r)=hi0 (u::r):=by simp [hi0,List.getLast?_cons_cons]
theorem VL:∀ {p:List Tm},Can p→∀ t∈p,t.1≤hi0 p
  | [],_,t,ht=>by simp at ht
  | [v],_,t,ht=>by simp at ht;subst ht;simp [hi0]
  | v::u::r,h,t,ht=>by
    rw [QaP]
    have ih:=VL h.tail
    rcases List.mem_cons.1 ht with rfl | ht
    · have:=h.lt u (.head _)
      have:=ih u (.head _)
      omega
    · exact ih t ht
theorem VK:∀ {p:List Tm},p≠[]→∃ t∈p,t.1=hi0 p
  | [],h=>absurd rfl h
  | [v],_=>⟨v,by simp,by simp [hi0]⟩
  | v::u::r,_=>by
    obtain ⟨t,h1,h2⟩:=VK (p:=u::r) (by simp)
    exact ⟨t,.tail _ h1,by rw [QaP];exact h2⟩
theorem Uq {p:List Tm} (h:Can p):∀ {t:Tm},t∈p→cf p t.1=t.2:=by
  induction p with
  | nil=>intro t ht;simp at ht
  | cons u r ih =>
    intro t ht
    rcases List.mem_cons.1 ht with rfl | ht
    · exact h.cf_head
    · rw [Ji,U5 (by have:=h.lt t ht;omega),ih h.tail ht];omega
theorem cf_ne {p:List Tm} {e:Int} (h:cf p e≠0):∃ t∈p,t.1=e:=by
  refine Classical.byContradiction fun hn=>h (JU fun t ht he=>hn ⟨t,ht,he⟩)
end Go.Proofs.YtofknpknogfijaaGreatDoor


namespace Go.Proofs.YtofknpknogfijaaGreatDoor
set_option linter.unusedVariables false
def rk (p q r:List Tm) (k:Nat):Int:=cf p (lo0 p+k)-mc r q (lo0 p+k)
def dvL (p q:List Tm) (M X:Nat):Nat→Option (List Tm)
  | 0=>some []
  | i+1=>(dvL p q M X i).bind fun r =>
    if rk p q r i=0 then some r
    else if rk p q r i%cf q (lo0 q)=0∧(rk p q r i / cf q (lo0 q)).natAbs≤M∧(lo0 p-lo0 q+i).natAbs≤X then some (r++[(lo0 p-lo0 q+i,rk p q r i / cf q (lo0 q))]) else none
def dvN (p q:List Tm):Int:=hi0 p-lo0 p-(hi0 q-lo0 q)
structure DvOk (p q:List Tm) (M X i:Nat) (r:List Tm):Prop where
  can:Can r
  rng:∀ t∈r,lo0 p-lo0 q≤t.1∧t.1 < lo0 p-lo0 q+i
  bd:∀ t∈r,t.2.natAbs≤M∧t.1.natAbs≤X
  zero:∀ k,k < i→rk p q r k=0
noncomputable def dvR (p q:List Tm) (M X:Nat):Option (List Tm):=open Classical in
  if dvN p q < 0 then none else (dvL p q M X ((dvN p q).toNat+1)).bind fun r=>if ∀ k:Nat,(dvN p q).toNat < k→(k:Int)≤hi0 p-lo0 p→rk p q r k=0 then some r else none
end Go.Proofs.YtofknpknogfijaaGreatDoor




namespace Go.Proofs.YtofknpknogfijaaGreatDoor
open Go.Ab
set_option linter.unusedVariables false
set_option linter.unusedSimpArgs false
set_option maxRecDepth 20000
set_option maxHeartbeats 4000000
attribute [local irreducible] Qj wA Xm Xk QI Qo QW QV
set_option linter.unusedSectionVars false
variable [HB]
def smV (v:Int):Int:=if v.natAbs≤1125899906842624 then v else 0
def quoOk (v c:Int):Prop:=c ∣ v∧(v / c).natAbs≤1125899906842624
instance (v c:Int):Decidable (quoOk v c):=inferInstanceAs (Decidable (_∧_))
end Go.Proofs.YtofknpknogfijaaGreatDoor


namespace Go.Proofs.YtofknpknogfijaaGreatDoor
open Go.Ab
set_option linter.unusedVariables false
set_option linter.unusedSimpArgs false
set_option maxRecDepth 20000
set_option maxHeartbeats 4000000
attribute [local irreducible] Qj wA Xm Xk QI Qo QW QV
set_option linter.unusedSectionVars false
variable [HB]
abbrev cM:Nat:=1125899906842624
abbrev eM:Nat:=1048576
def tmP (t:Tm):P2:=(.int .i64 t.1,.int .i64 t.2)
abbrev tms (ts:List Tm):List P2:=ts.map tmP
structure Pol where
  big:Bool
  ts:List Tm
  deriving DecidableEq
def IsPol (h:Qa) (v:AV) (p:Pol):Prop:=∃ s,v=.agg [.bool p.big,s]∧IsD h s (tms p.ts)
structure Pok (p:Pol):Prop where
  big:p.big=true→p.ts=[]
  can:Can p.ts
  cf:∀ t∈p.ts,t.2.natAbs≤cM
  ex:∀ t∈p.ts,t.1.natAbs≤eM
abbrev JY:Pol:=⟨true,[]⟩
abbrev Qiw:Pol:=⟨false,[]⟩
theorem zy:∀ {ts:List Tm} {lo:Int} {n:Nat},Can ts→(∀ t∈ts,lo≤t.1∧t.1 < lo+n)→ts.length≤n
  | [],_,_,_,_=>Nat.zero_le _
  | t::r,lo,n,hc,h=>by
    have h0:=h t (.head _)
    have ih:=zy (lo:=t.1+1) (n:=(lo+n-(t.1+1)).toNat) hc.tail fun u hu=>by
      have h1:=hc.lt u hu
      have h2:=(h u (.tail _ hu)).2
      omega
    rw [List.length_cons];omega
theorem Xg (ts:List Tm):(tms ts).length=ts.length:=by simp
theorem VX (h0:Qa) (b:Bool) (s:SV):∃ r h',Cal FT HKt 39 [.agg [.bool b,s]] h0 r h'∧Ext h0 h'∧r=.sc (.bool b):=by
  refine Cal.of (F:=a39) rfl rfl rfl ?_
  repeat' (first | refine Qg ?_ | refine Qb ?_ | refine Qv ?_ | refine Qf ?_ | ((refine Qe ?_);refine Qq rfl ?_) | ((refine Qc ?_);first | (refine Q3 rfl ?_;intro h1 e1 c1) | refine Q6 rfl c1 ?_ | refine Qm rfl ?_ | refine X6 rfl rfl ?_))
  exact ⟨.inr rfl,e1,rfl⟩
theorem QfL (h0:Qa) (b:Bool) (s:SV) (ts:List Tm) (hs:IsD h0 s (tms ts)):∃ r h',Cal FT HKt 14 [.agg [.bool b,s]] h0 r h'∧Ext h0 h'∧r=.sc (.bool (!b && decide (ts=[]))):=by
  refine Cal.of (F:=a14) rfl rfl rfl ?_
  have ls:=hs.len
  rw [Xg] at ls
  cases b with
  | true =>
    repeat' (first | refine Qg ?_ | refine Qb ?_ | refine Qv ?_ | refine Qf ?_ | ((refine Qe ?_);refine Qq rfl ?_) | ((refine Qc ?_);first | (refine Q3 rfl ?_;intro h1 e1 c1) | refine Q6 rfl c1 ?_ | refine Xo rfl ?_ | refine Qm rfl ?_ | refine QU rfl rfl ?_ | refine XZ rfl ?_ | refine X6 rfl rfl ?_))
    exact ⟨.inr rfl,e1,rfl⟩
  | false =>
    cases ts with
    | nil =>
      rw [List.length_nil] at ls
      repeat' (first | refine Qg ?_ | refine Qb ?_ | refine Qv ?_ | refine Qf ?_ | ((refine Qe ?_);refine Qq rfl ?_) | ((refine Qc ?_);first | (refine Q3 rfl ?_;intro h1 e1 c1) | refine Q6 rfl c1 ?_ | refine Xc rfl c1 ?_ | refine Qu rfl ls ?_ | refine QX rfl ?_ | refine Qm rfl ?_ | refine QY rfl rfl ?_ | refine Yh rfl ?_ | refine Xt rfl rfl (by omega) ?_ | refine X6 rfl rfl ?_))
      exact ⟨.inr rfl,e1,rfl⟩
    | cons t r =>
      rw [List.length_cons] at ls
      repeat' (first | refine Qg ?_ | refine Qb ?_ | refine Qv ?_ | refine Qf ?_ | ((refine Qe ?_);refine Qq rfl ?_) | ((refine Qc ?_);first | (refine Q3 rfl ?_;intro h1 e1 c1) | refine Q6 rfl c1 ?_ | refine Xc rfl c1 ?_ | refine Qu rfl ls ?_ | refine QX rfl ?_ | refine Qm rfl ?_ | refine QY rfl rfl ?_ | refine Yh rfl ?_ | refine Xh rfl rfl (by omega) ?_ | refine X6 rfl rfl ?_))
      exact ⟨.inr rfl,e1,by simp;rfl⟩
theorem rd1 {h:Qa} {id off:Nat} {a b:SV} (hr:QT h id off 2=some [a,b]):QT h id off 1=some [a]∧QT h id (off+1) 1=some [b]:=by
  unfold QT at hr ⊢
  split at hr
  · unfold cut at hr ⊢
    split at hr
    · rename_i hle
      simp only [Option.some.injEq] at hr
      rw [if_pos (by omega),if_pos (by omega)]
      refine ⟨?_,?_⟩
      · have:=congrArg (List.take 1) hr
        rw [List.take_take] at this
        simpa using this
      · have:=congrArg (List.drop 1) hr
        rw [List.drop_take,List.drop_drop] at this
        simpa using this
    · cases hr
  · cases hr
theorem QfG (h0:Qa) (b:Bool) (s:SV) (ts:List Tm) (hs:IsD h0 s (tms ts)):∃ r h',Cal FT HKt 53 [.agg [.bool b,s]] h0 r h'∧Ext h0 h'∧r=.sc (.int .i64 (lo0 ts)):=by
  refine Cal.of (F:=a53) rfl rfl rfl ?_
  have ls:=hs.len
  rw [Xg] at ls
  cases ts with
  | nil =>
    rw [List.length_nil] at ls
    repeat' (first | refine Qg ?_ | refine Qb ?_ | refine QL ?_ | refine Qv ?_ | refine Qf ?_ | ((refine Qh ?_);refine Qk rfl ?_) | ((refine Qe ?_);first | refine Qq rfl ?_ | refine Qy rfl rfl ?_) | ((refine Qc ?_);first | (refine Q3 rfl ?_;intro h1 e1 c1) | refine Xc rfl c1 ?_ | refine Qu rfl ls ?_ | refine Qm rfl ?_ | refine Xt rfl rfl (by omega) ?_ | refine X6 rfl rfl ?_))
    exact ⟨.inr rfl,e1,rfl⟩
  | cons t r =>
    rw [List.length_cons] at ls
    obtain ⟨id,off,cap,e,hr⟩:=hs.at (i:=0) (p:=tmP t) rfl
    rw [Xg,List.length_cons] at e
    subst e
    have hr1:=fun H (e:Ext h0 H)=>QA e (rd1 hr).1
    repeat' (first | refine Qg ?_ | refine Qb ?_ | refine Qp ?_ | refine Qv ?_ | refine Qf ?_ | ((refine Qh ?_);refine Qi rfl ?_) | ((refine Qe ?_);first | refine Qq rfl ?_ | refine Qy rfl rfl ?_) | ((refine Qc ?_);first | (refine Q3 rfl ?_;intro h1 e1 c1) | refine Xc rfl c1 ?_ | refine Qu rfl ls ?_ | refine Qx (esz:=2) rfl rfl (by omega) ?_ | refine QQ rfl ?_ | refine Q2 rfl (hr1 _ e1) ?_ | refine Qm rfl ?_ | refine Xh rfl rfl (by omega) ?_))
    exact ⟨.inr rfl,e1,rfl⟩
theorem QbL (h0:Qa) (v l:Int) (hl:0≤l∧l≤9223372036854775807):∃ r h',Cal FT HKt 50 [.sc (.int .i64 v),.sc (.int .i64 l)] h0 r h'∧r=.sc (.bool (decide (v.natAbs≤l.toNat)))∧h'=h0:=by
  refine Cal.of (F:=a50) rfl rfl rfl ?_
  by_cases h:v.natAbs≤l.toNat
  · rw [decide_eq_true h]
    repeat' (first | refine Qg ?_ | refine Qb ?_ | refine Qv ?_ | refine Qf ?_ | ((refine Qe ?_);first | refine Qq rfl ?_ | refine Qy rfl rfl ?_) | ((refine Qc ?_);first | refine QX rfl ?_ | refine Qm rfl ?_ | refine QY rfl rfl ?_ | refine Y1 rfl (by omega) ?_ | refine Zj rfl rfl (by omega) ?_ | refine XK rfl rfl (by omega) ?_))
    exact ⟨.inr rfl,rfl,rfl⟩
  · rw [decide_eq_false h]
    by_cases h2 : -l≤v
    · repeat' (first | refine Qg ?_ | refine Qb ?_ | refine Qv ?_ | refine Qf ?_ | ((refine Qe ?_);first | refine Qq rfl ?_ | refine Qy rfl rfl ?_) | ((refine Qc ?_);first | refine QX rfl ?_ | refine Qm rfl ?_ | refine QY rfl rfl ?_ | refine Y1 rfl (by omega) ?_ | refine Y4 rfl rfl (by omega) ?_ | refine XK rfl rfl (by omega) ?_))
      exact ⟨.inr rfl,rfl,rfl⟩
    · repeat' (first | refine Qg ?_ | refine Qb ?_ | refine Qv ?_ | refine Qf ?_ | ((refine Qe ?_);first | refine Qq rfl ?_ | refine Qy rfl rfl ?_) | ((refine Qc ?_);first | refine Xo rfl ?_ | refine Qm rfl ?_ | refine QU rfl rfl ?_ | refine Y1 rfl (by omega) ?_ | refine XH rfl rfl (by omega) ?_))
      exact ⟨.inr rfl,rfl,rfl⟩
end Go.Proofs.YtofknpknogfijaaGreatDoor


