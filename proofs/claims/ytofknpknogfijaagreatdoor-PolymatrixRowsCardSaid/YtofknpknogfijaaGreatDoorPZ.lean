/- Mul: the round. -/
import Derived.Test.YtofknpknogfijaaGreatDoorSP1
import Derived.Test.YtofknpknogfijaaGreatDoorC3
namespace Go.Proofs.YtofknpknogfijaaGreatDoor
open Go.Ab
set_option linter.all false
set_option maxHeartbeats 16000000
set_option maxRecDepth 20000
attribute [local irreducible] Ql wA Xr Xp QA Qp QW QY
variable [HB]
def qk (p q:List Tm):Int:=lo0 p+lo0 q
def Zs (p q:List Tm):Nat:=(hi0 p+hi0 q-(lo0 p+lo0 q)+1).toNat
def Yl (p q:Pol):Pol:=open Classical in
 if p.big=true∨q.big=true then YP
 else if p.ts=[]∨q.ts=[] then qL
 else if qk p.ts q.ts < -1048576∨1048576 < hi0 p.ts+hi0 q.ts then YP
 else if ∀ t∈Vd p.ts q.ts (qk p.ts q.ts) (Zs p.ts q.ts),t.2.natAbs≤cM then ⟨false,Vd p.ts q.ts (qk p.ts q.ts) (Zs p.ts q.ts)⟩ else YP
theorem Qai {p q:List Tm} (hp:Can p) (hq:Can q):∀ t∈p,∀ u∈q,qk p q≤t.1+u.1∧t.1+u.1 < qk p q+Zs p q:=fun t ht u hu=>by
 have a:=UF hp t ht
 have b:=UF hq u hu
 have c:=yZ hp t ht
 have d:=yZ hq u hu
 unfold qk Zs
 omega
theorem yk {p:List Tm} (h0:p≠[]):∃ t∈p,t.1=lo0 p:=by
 cases p with
 | nil=>exact absurd rfl h0
 | cons t r=>exact ⟨t,.head _,rfl⟩
theorem Pok.lo {p:Pol} (k:Pok p) : -1048576≤lo0 p.ts∧lo0 p.ts≤1048576 ∧ -1048576≤hi0 p.ts∧hi0 p.ts≤1048576∧lo0 p.ts≤hi0 p.ts:=by
 by_cases h:p.ts=[]
 ·rw [h];simp [lo0,hi0]
 ·obtain ⟨t,t1,t2⟩:=yk h
  obtain ⟨u,u1,u2⟩:=yp h
  have a:=k.ex t t1
  have b:=k.ex u u1
  have c:=UF k.can u u1
  simp only [eM] at a b
  omega
theorem Qbq {p q:Pol} (kp:Pok p) (kq:Pok q) (e:Int) : -170141183460469231731687303715884105728 < mc p.ts q.ts e∧mc p.ts q.ts e < 170141183460469231731687303715884105728:=by
 have h1:=Qgg (p:=p.ts) kq.can kq.cf e kp.cf
 have h2:=GE (cM*cM) kp.len
 simp only [cM] at *
 omega
structure St22 (h0 h:Qa) (q4 q5 q8:Nat) (lo:Int) (a:Bool) (S s:SV) (vs:List Int) (r:List Tm):Prop where
 e:Ext h0 h
 c4:Cel h q4 (.bool a) .nilS
 c5:Cel1 h q5 (.int .i64 lo)
 c8:Cel h q8 (.bool false) s
 o:OwnD h0 h s (tms r)
 sm:IsD h S (vs.map wdP)
 ap:Go.Ab.Apart s S
theorem St22.ext {h0 h h':Qa} {q4 q5 q8:Nat} {lo:Int} {a:Bool} {S s:SV} {vs:List Int} {r:List Tm} (st:St22 h0 h q4 q5 q8 lo a S s vs r) (he:Ext h h'):St22 h0 h' q4 q5 q8 lo a S s vs r :=
 ⟨st.e.trans he,st.c4.ext he,st.c5.ext he,st.c8.ext he,st.o.ext he,st.sm.ext he,st.ap⟩
theorem St22.wr {h0 h h1:Qa} {q4 q5 q8 q:Nat} {lo:Int} {a:Bool} {S s:SV} {vs:List Int} {r:List Tm} {x y:SV} (st:St22 h0 h q4 q5 q8 lo a S s vs r) (w:Wr h h1 q x y) (hq:h0.length≤q∧q4≠q∧q5≠q∧q8≠q):St22 h0 h1 q4 q5 q8 lo a S s vs r:=by
 refine ⟨w.ext st.e hq.1,w.keep st.c4 hq.2.1,?_,w.keep st.c8 hq.2.2.2,st.o.wrC w,st.sm.wrC w,st.ap⟩
 have:=st.c5
 unfold Cel1 at this ⊢
 rw [w.eq,Gj (Ne.symm hq.2.2.1)];exact this
def I22 (h0:Qa) (q4 q5 q8:Nat) (lo:Int) (S:SV) (f:Int→Int) (n:Nat) (E:Env) (h:Qa):Prop:=∃ (i:Nat) (s:SV),i≤n∧(∀ k:Nat,k < i→(f (lo+k)).natAbs≤cM)∧St22 h0 h q4 q5 q8 lo false S s (smL f lo n) (Y0 f lo i) ∧
 E.keep [4,5,8,73,74,75]=[(4,some (.sc (.ptr q4 0))),(5,some (.sc (.ptr q5 0))),(8,some (.sc (.ptr q8 0))),(73,some (.sc S)),(74,some (.sc (.int .i64 (n:Nat)))),(75,some (.sc (.int .i64 (i:Nat))))]
def R22 (h0:Qa) (q4 q5 q8:Nat) (lo:Int) (S:SV) (f:Int→Int) (n:Nat) (ex:Ex) (E:Env) (h:Qa):Prop :=
 (ex=.ex 0∧∃ s a b c d,(∀ k:Nat,k < n→(f (lo+k)).natAbs≤cM)∧St22 h0 h q4 q5 q8 lo false S s (smL f lo n) (Y0 f lo n)∧E=[(4,some (.sc (.ptr q4 0))),(5,a),(8,some (.sc (.ptr q8 0))),(73,b),(74,c),(75,d),(76,some (.sc (.bool false)))]) ∨
 (ex=.rt∧¬ (∀ k:Nat,k < n→(f (lo+k)).natAbs≤cM)∧Ext h0 h∧Cel h q4 (.bool true) .nilS∧E=[(4,some (.sc (.ptr q4 0)))])
theorem QeU (g:Int→Int) (lo:Int) (n:Nat):(Y0 g lo n).length≤n:=Jz (J9 g lo n) fun t ht=>⟨(fromC_mem.1 ht).1,(fromC_mem.1 ht).2.1⟩
theorem QiY (h0:Qa) (q4 q5 q8:Nat) (lo:Int) (S:SV) (f:Int→Int) (n:Nat) (hn:n≤5000000) (hlo : -2097152≤lo∧lo≤2097152) (hf:∀ e,-170141183460469231731687303715884105728 < f e∧f e < 170141183460469231731687303715884105728) (l4:h0.length≤q4) (l8:h0.length≤q8) (n48:q4≠q8) (E:Env) (h:Qa) (hI:I22 h0 q4 q5 q8 lo S f n E h) :
  wA FT HKt QkG (E.keep [4,5,8,73,74,75]) h (QA (I22 h0 q4 q5 q8 lo S f n) (cK [4,5,8,73,74,75] n 75) (cK [4,5,8,73,74,75] n 75 E h) (R22 h0 q4 q5 q8 lo S f n)):=by
 obtain ⟨i,s,hi,hsm,st,hE⟩:=hI
 have hm:cK [4,5,8,73,74,75] n 75 E h=n-i:=by unfold cK;rw [hE];rfl
 rw [hm,hE]
 by_cases hlt:i < n
 ·have hv:(smL f lo n)[i]?=some (f (lo+i)):=by simp [smL,hlt]
  obtain ⟨id,off,cap,e1,r0⟩:=st.sm.at (i:=i) (p:=wdP (f (lo+i))) (by simp [hv])
  rw [Gt,qV] at e1
  subst e1
  have k45:=fun H=>Qhc H (f (lo+i)) (hf _)
  have fl:=QeU f lo i
  have fs:=qD f lo i
  by_cases hb:(f (lo+i)).natAbs≤cM
  ·have hsm2:∀ k:Nat,k < i+1→(f (lo+k)).natAbs≤cM:=fun k hk=>by
    by_cases e:k=i
    ·subst e;exact hb
    ·exact hsm k (by omega)
   have e45:smV (f (lo+i))=f (lo+i):=by unfold smV;rw [if_pos hb]
   rw [e45,decide_eq_true hb] at k45
   generalize hv2:f (lo+i)=v at *
   simp only [Qd5] at k45
   have n4:=st.c4.lt
   have n5:=(Gb.1 st.c5).1
   have n8:=st.c8.lt
   have n0:=st.e.len
   by_cases hz:v=0
   ·have fs2:Y0 f lo (i+1)=Y0 f lo i:=by rw [fs];unfold put;rw [if_pos hz,Hc]
    subst hz
    repeat' (first | refine Qg ?_ | refine Qb ?_ | refine Qv ?_ | refine QJ ?_ | refine Qn ?_ | refine Qf ?_ | ((refine Qh ?_);first | refine Qj rfl ?_ | refine Qk rfl ?_) | ((refine Qe ?_);first | refine QT rfl rfl rfl rfl rfl rfl ?_ | refine Xn rfl rfl rfl rfl rfl rfl rfl ?_ | refine Xa rfl rfl rfl rfl rfl rfl rfl rfl ?_ | refine Q5 rfl rfl rfl rfl rfl rfl rfl rfl rfl ?_) | ((refine Qc ?_);first | refine Qw (esz:=2) rfl rfl (by omega) ?_ | refine XX rfl r0 ?_ | (refine Xb ?_;intro h2 e2 c2;have s2:=st.ext e2;have n2:=e2.len) | (refine Xm rfl rfl c2 ?_;intro h3 w3;have c3:=w3.cel;have s3:=s2.wr w3 (by omega)) | refine QI rfl c3 ?_ | (refine Qi rfl (k45 _) ?_;rintro r h4 ⟨e4,rfl⟩;have s4:=s3.ext e4) | refine Qo rfl ?_ | refine XR rfl ?_ | refine QK rfl rfl (by omega) ?_ | refine Qy rfl rfl (by omega) ?_ | refine XS rfl rfl (by omega) ?_ | refine Xt rfl rfl ?_))
    exact Xo ⟨i+1,s,by omega,hsm2,by rw [fs2];exact s4,rfl⟩ (by simp [cK,Env.keep,Env.get];omega)
   ·have fs2:Y0 f lo (i+1)=Y0 f lo i++[(lo+i,v)]:=by rw [fs];unfold put;rw [if_neg hz]
    repeat' (first | refine Qg ?_ | refine Qb ?_ | refine Qv ?_ | refine QJ ?_ | refine Qn ?_ | refine Qf ?_ | ((refine Qh ?_);first | refine Qj rfl ?_ | refine Qk rfl ?_) | ((refine Qe ?_);first | refine QT rfl rfl rfl rfl rfl rfl ?_ | refine Xn rfl rfl rfl rfl rfl rfl rfl ?_ | refine Xa rfl rfl rfl rfl rfl rfl rfl rfl ?_ | refine Q5 rfl rfl rfl rfl rfl rfl rfl rfl rfl ?_) | ((refine Qc ?_);first | refine Qw (esz:=2) rfl rfl (by omega) ?_ | refine XX rfl r0 ?_ | (refine Xb ?_;intro h2 e2 c2;have s2:=st.ext e2;have n2:=e2.len) | (refine Xm rfl rfl c2 ?_;intro h3 w3;have c3:=w3.cel;have s3:=s2.wr w3 (by omega)) | refine QI rfl c3 ?_ | (refine Qi rfl (k45 _) ?_;rintro r h4 ⟨e4,rfl⟩;have s4:=s3.ext e4) | refine Xi rfl ?_ | refine Qz rfl s4.c8 ?_ | refine Xu rfl s4.c5.at rfl ?_ | (refine XE rfl rfl ?_) | (refine Js s4.e s4.o rfl rfl (by rw [Q6];simp only [Yu];omega) ?_;intro s' h5 o5 e5 f5 l5;have d8:=s4.c8.fram f5 (s4.o.cel s4.c8)) | (refine Jr rfl rfl d8 ?_;intro h6 w6) | refine Qo rfl ?_ | refine XR rfl ?_ | refine QK rfl rfl (by omega) ?_ | refine Qy rfl rfl (by omega) ?_ | refine Yg rfl rfl (by omega) ?_ | refine Xt rfl rfl ?_))
    have d4:=s4.c4.fram f5 (s4.o.cel s4.c4)
    have d5:=s4.c5.fram f5 (s4.o.cel s4.c5)
    have dS:IsD h5 (.slc id off n cap) ((smL f lo n).map wdP):=IsSl.away s4.sm f5 s4.ap
    have dA:=Fram.apart f5 s4.sm s4.ap
    have c5':Cel1 h6 q5 (.int .i64 lo):=by
     unfold Cel1 at d5 ⊢
     rw [w6.eq,Gj (fun e=>by
      subst e
      have:=s4.c5
      have c8':=s4.c8
      unfold Cel1 at this
      unfold Cel at c8'
      rw [c8'] at this
      simp at this)]
     exact d5
    refine Xo ⟨i+1,s',by omega,hsm2,⟨w6.ext e5 l8,w6.keep d4 n48,c5',w6.cel,?_,dS.wrC w6,dA⟩,rfl⟩ (by simp [cK,Env.keep,Env.get];omega)
    rw [fs2]
    have:=o5.wrC w6
    simpa [tms,tmP] using this
  ·have e45:smV (f (lo+i))=0:=by unfold smV;rw [if_neg hb]
   rw [e45,decide_eq_false hb] at k45
   generalize hv2:f (lo+i)=v at *
   simp only [Qd5] at k45
   have n4:=st.c4.lt
   have n5:=(Gb.1 st.c5).1
   have n8:=st.c8.lt
   have n0:=st.e.len
   repeat' (first | refine Qg ?_ | refine Qb ?_ | refine QD ?_ | refine Qv ?_ | refine Xs ?_ | refine Qn ?_ | refine Qt ?_ | refine Qf ?_ | ((refine Qh ?_);refine Qj rfl ?_) | ((refine Qe ?_);first | refine Qq rfl ?_ | refine Xn rfl rfl rfl rfl rfl rfl rfl ?_ | refine Xa rfl rfl rfl rfl rfl rfl rfl rfl ?_ | refine Q5 rfl rfl rfl rfl rfl rfl rfl rfl rfl ?_) | ((refine Qc ?_);first | refine Qw (esz:=2) rfl rfl (by omega) ?_ | refine XX rfl r0 ?_ | (refine Xb ?_;intro h2 e2 c2;have s2:=st.ext e2;have n2:=e2.len) | (refine Xm rfl rfl c2 ?_;intro h3 w3;have c3:=w3.cel;have s3:=s2.wr w3 (by omega)) | refine QI rfl c3 ?_ | (refine Qi rfl (k45 _) ?_;rintro r h4 ⟨e4,rfl⟩;have s4:=s3.ext e4) | (refine XE rfl rfl ?_) | (have c4:=s4.c4;refine Xm rfl rfl c4 ?_;intro h6 w6) | refine Qo rfl ?_ | refine Yw rfl ?_ | refine Qy rfl rfl (by omega) ?_ | refine Xt rfl rfl ?_))
   exact Z5 (.inr ⟨rfl,fun h=>hb (by have:=h i hlt;rwa [hv2] at this),w6.ext s4.e l4,w6.cel,rfl⟩)
 ·have:i=n:=by omega
  subst this
  repeat' (first | refine Qg ?_ | refine Qb ?_ | refine Q0 ?_ | refine QX ?_ | refine Qf ?_ | ((refine Qh ?_);refine Qk rfl ?_) | ((refine Qe ?_);refine Xn rfl rfl rfl rfl rfl rfl rfl ?_) | ((refine Qc ?_);refine QM rfl rfl (by omega) ?_))
  exact XM (.inl ⟨rfl,s,_,_,_,_,hsm,st,rfl⟩)
end Go.Proofs.YtofknpknogfijaaGreatDoor
namespace Go.Proofs.YtofknpknogfijaaGreatDoor
open Go.Ab
set_option linter.all false
variable [HB]
def mvL (f:Int→Int) (up:Bool) (l:List Tm):List Tm:=if up=true then l.map (fun t=>(f t.1,t.2)) else (l.map fun t=>(f t.1,t.2)).reverse
def Mvf (f:Int→Int) (up:Bool):Prop:=∀ a b,a < b→if up=true then f a < f b else f b < f a
theorem Mvf.inj {f:Int→Int} {up:Bool} (m:Mvf f up) {a b:Int} (h:f a=f b):a=b:=by
 rcases Int.lt_trichotomy a b with h1 | h1 | h1
 ·have:=m a b h1
  cases up <;> simp at this <;> omega
 ·exact h1
 ·have:=m b a h1
  cases up <;> simp at this <;> omega
def movP (f:Int→Int) (up:Bool) (p:Pol):Pol:=open Classical in
 if p.big=true then p else if ∀ t∈p.ts,(f t.1).natAbs≤eM then ⟨false,mvL f up p.ts⟩ else YP
theorem QmS {p:Pol} (k:Pok p) (h:p.big=true):p=YP:=by
 obtain ⟨b,ts⟩:=p
 have:=k.big h
 simp only at h this
 subst h this
 rfl
def Bd (k:Nat) (l:List Tm):Prop:=∀ t∈l,t.1.natAbs≤k
theorem Bd.lh {k:Nat} {l:List Tm} (h:Bd k l) (h0:l≠[]):(lo0 l).natAbs≤k∧(hi0 l).natAbs≤k:=by
 obtain ⟨t,a,b⟩:=yk h0
 obtain ⟨u,c,d⟩:=yp h0
 rw [← b,← d]
 exact ⟨h t a,h u c⟩
set_option maxHeartbeats 16000000
set_option maxRecDepth 20000
attribute [local irreducible] Ql wA Xr Xp QA Qp QW QY
def Qnk (h0 h:Qa) (v:AV) (p:Pol):Prop:=∃ s,v=.agg [.bool p.big,s]∧OwnD h0 h s (tms p.ts)
theorem QjH (h0:Qa) (sp sq:SV) (p q:Pol) (hp:IsD h0 sp (tms p.ts)) (hq:IsD h0 sq (tms q.ts)) (kp:Pok p) (kq:Pok q) (hd:p.ts≠[]→q.ts≠[]→hi0 p.ts+hi0 q.ts-(lo0 p.ts+lo0 q.ts)≤64+4*(p.ts.length:Int)*q.ts.length) :
  ∃ r h',Cal FT HKt 22 [.agg [.bool p.big,sp],.agg [.bool q.big,sq]] h0 r h'∧Ext h0 h'∧Qnk h0 h' r (Yl p q):=by
 refine Cal.of (F:=a22) rfl rfl rfl ?_
 have lp:=hp.len
 have lq:=hq.len
 rw [Q6] at lp lq
 by_cases hbp:p.big=true
 ·have e:Yl p q=YP:=by unfold Yl;rw [if_pos (.inl hbp)]
  rw [e,hbp]
  repeat' (first | refine Qg ?_ | refine Qb ?_ | refine QD ?_ | refine Qt ?_ | refine Qf ?_ | ((refine Qh ?_);refine Qj rfl ?_) | ((refine Qe ?_);first | refine Qq rfl ?_ | refine Qu rfl rfl rfl ?_ | refine QG rfl rfl rfl rfl ?_) | ((refine Qc ?_);first | (have z:=e2;refine Xb ?_;intro h3 e3 c3;have d1:=(c1.ext e2).ext e3;have d2:=c2.ext e3) | (have z:=e1;refine Qx rfl ?_;intro h2 e2 c2) | (refine Qx rfl ?_;intro h1 e1 c1) | refine QQ rfl d1 ?_ | (refine XE rfl rfl ?_) | (refine Xm rfl rfl c3 ?_;intro h4 w4) | refine Xd rfl ?_ | refine Qo rfl ?_ | refine QS rfl rfl ?_ | refine Xt rfl rfl ?_))
  exact ⟨.inr rfl,Xg rfl w4.cel.read ⟨w4.ext (e1.trans (e2.trans e3)) (Gn e1.len e2.len),.nilS,rfl,.inl ⟨rfl,rfl⟩⟩⟩
 have hbp':p.big=false:=by simpa using hbp
 rw [hbp']
 by_cases hbq:q.big=true
 ·have e:Yl p q=YP:=by unfold Yl;rw [if_pos (.inr hbq)]
  rw [e,hbq]
  repeat' (first | refine Qg ?_ | refine Qb ?_ | refine QD ?_ | refine Qt ?_ | refine Qf ?_ | ((refine Qh ?_);refine Qj rfl ?_) | ((refine Qe ?_);first | refine Qq rfl ?_ | refine Qu rfl rfl rfl ?_ | refine QG rfl rfl rfl rfl ?_) | ((refine Qc ?_);first | (have z:=e2;refine Xb ?_;intro h3 e3 c3;have d1:=(c1.ext e2).ext e3;have d2:=c2.ext e3) | (have z:=e1;refine Qx rfl ?_;intro h2 e2 c2) | (refine Qx rfl ?_;intro h1 e1 c1) | refine QQ rfl d1 ?_ | refine QQ rfl d2 ?_ | (refine XE rfl rfl ?_) | (refine Xm rfl rfl c3 ?_;intro h4 w4) | refine QL rfl ?_ | refine Qo rfl ?_ | refine QC rfl rfl ?_ | refine Xt rfl rfl ?_))
  exact ⟨.inr rfl,Xg rfl w4.cel.read ⟨w4.ext (e1.trans (e2.trans e3)) (Gn e1.len e2.len),.nilS,rfl,.inl ⟨rfl,rfl⟩⟩⟩
 have hbq':q.big=false:=by simpa using hbq
 rw [hbq']
 have nb:¬ (p.big=true∨q.big=true):=fun h=>h.elim hbp hbq
 by_cases hpe:p.ts=[]
 ·have e:Yl p q=qL:=by unfold Yl;rw [if_neg nb,if_pos (.inl hpe)]
  have lp0:Yi false sp=some 0:=by rw [lp,hpe];rfl
  rw [e]
  repeat' (first | refine Qg ?_ | refine Qb ?_ | refine QD ?_ | refine Qn ?_ | refine Qt ?_ | refine Qf ?_ | ((refine Qh ?_);first | refine Qj rfl ?_ | refine Qk rfl ?_) | ((refine Qe ?_);first | refine Qq rfl ?_ | refine Qu rfl rfl rfl ?_ | refine QG rfl rfl rfl rfl ?_) | ((refine Qc ?_);first | (have z:=e2;refine Xb ?_;intro h3 e3 c3;have d1:=(c1.ext e2).ext e3;have d2:=c2.ext e3) | (have z:=e1;refine Qx rfl ?_;intro h2 e2 c2) | (refine Qx rfl ?_;intro h1 e1 c1) | refine QQ rfl d1 ?_ | refine QQ rfl d2 ?_ | refine Qz rfl d1 ?_ | refine Qs rfl lp0 ?_ | (refine XE rfl rfl ?_) | (refine Xm rfl rfl c3 ?_;intro h4 w4) | refine Xd rfl ?_ | refine QL rfl ?_ | refine Qo rfl ?_ | refine QS rfl rfl ?_ | refine QC rfl rfl ?_ | refine XD rfl rfl (by omega) ?_ | refine Xt rfl rfl ?_))
  exact ⟨.inr rfl,Xg rfl w4.cel.read ⟨w4.ext (e1.trans (e2.trans e3)) (Gn e1.len e2.len),.nilS,rfl,.inl ⟨rfl,rfl⟩⟩⟩
 have lpp:0 < p.ts.length:=G5.2 hpe
 by_cases hqe:q.ts=[]
 ·have e:Yl p q=qL:=by unfold Yl;rw [if_neg nb,if_pos (.inr hqe)]
  have lq0:Yi false sq=some 0:=by rw [lq,hqe];rfl
  rw [e]
  repeat' (first | refine Qg ?_ | refine Qb ?_ | refine QD ?_ | refine Qn ?_ | refine Qt ?_ | refine Qf ?_ | ((refine Qh ?_);first | refine Qj rfl ?_ | refine Qk rfl ?_) | ((refine Qe ?_);first | refine Qq rfl ?_ | refine Qu rfl rfl rfl ?_ | refine QG rfl rfl rfl rfl ?_) | ((refine Qc ?_);first | (have z:=e2;refine Xb ?_;intro h3 e3 c3;have d1:=(c1.ext e2).ext e3;have d2:=c2.ext e3) | (have z:=e1;refine Qx rfl ?_;intro h2 e2 c2) | (refine Qx rfl ?_;intro h1 e1 c1) | refine QQ rfl d1 ?_ | refine QQ rfl d2 ?_ | refine Qz rfl d1 ?_ | refine Qz rfl d2 ?_ | refine Qs rfl lp ?_ | refine Qs rfl lq0 ?_ | (refine XE rfl rfl ?_) | (refine Xm rfl rfl c3 ?_;intro h4 w4) | refine QL rfl ?_ | refine Qo rfl ?_ | refine QC rfl rfl ?_ | refine XD rfl rfl (by omega) ?_ | refine Xf rfl rfl (by omega) ?_ | refine Xt rfl rfl ?_))
  exact ⟨.inr rfl,Xg rfl w4.cel.read ⟨w4.ext (e1.trans (e2.trans e3)) (Gn e1.len e2.len),.nilS,rfl,.inl ⟨rfl,rfl⟩⟩⟩
 have lqp:0 < q.ts.length:=G5.2 hqe
 have ne2:¬ (p.ts=[]∨q.ts=[]):=fun h=>h.elim hpe hqe
 have hd:=hd hpe hqe
 have kl:=kp.lo
 have kl2:=kq.lo
 have plen:=kp.len
 have qlen:=kq.len
 have k27p:=fun H (e:Ext h0 H)=>zb H false sp p.ts (hp.ext e)
 have k27q:=fun H (e:Ext h0 H)=>zb H false sq q.ts (hq.ext e)
 have k28p:=fun H (e:Ext h0 H)=>za H false sp p.ts (hp.ext e) plen
 have k28q:=fun H (e:Ext h0 H)=>za H false sq q.ts (hq.ext e) qlen
 have hmul:4*(p.ts.length:Int)*(q.ts.length:Int)≤8388612*2097153:=by
  have h1:4*(p.ts.length:Int)*(q.ts.length:Int)≤8388612*(q.ts.length:Int):=GW (by omega) (by omega)
  omega
 have hmul0:0≤4*(p.ts.length:Int)*(q.ts.length:Int):=Hq (by omega) (by omega)
 have hrng:=Qai kp.can kq.can
 have hmlo:qk p.ts q.ts=lo0 p.ts+lo0 q.ts:=rfl
 have hmn:((Zs p.ts q.ts:Nat):Int)=hi0 p.ts+hi0 q.ts-(lo0 p.ts+lo0 q.ts)+1:=by unfold Zs;omega
 generalize hLo:lo0 p.ts+lo0 q.ts=lo at *
 generalize hHi:hi0 p.ts+hi0 q.ts=hi at *
 by_cases hout:lo < -1048576∨1048576 < hi
 ·have e:Yl p q=YP:=by unfold Yl;rw [if_neg nb,if_neg ne2,hmlo,hHi,if_pos hout]
  rw [e]
  by_cases ho1:lo < -1048576
  ·repeat' (first | refine Qg ?_ | refine Qb ?_ | refine QD ?_ | refine Qn ?_ | refine Qt ?_ | refine Qf ?_ | refine Q2 ?_ | refine Xk ?_ | refine Xl ?_ | ((refine Qh ?_);first | refine Qj rfl ?_ | refine Qk rfl ?_) | ((refine Qe ?_);first | refine Q1 ?_ | refine Xw ?_ | refine XZ (by assumption) ?_ | refine Qq rfl ?_ | refine Qu rfl rfl rfl ?_ | refine QG rfl rfl rfl rfl ?_ | refine QU rfl rfl rfl rfl rfl ?_ | refine QT rfl rfl rfl rfl rfl rfl ?_) | ((refine Qc ?_);first | (have z:=e2;refine Xb ?_;intro h3 e3 c3;have x3:=e1.trans (e2.trans e3);have n1:=e1.len;have n2:=e2.len;have n3:=c3.lt;have d1:=(c1.ext e2).ext e3;have d2:=c2.ext e3;have m1:=c1.lt;have m2:=c2.lt) | (have z:=e1;refine Qx rfl ?_;intro h2 e2 c2) | (refine Qx rfl ?_;intro h1 e1 c1) | refine QQ rfl d1 ?_ | refine QQ rfl d2 ?_ | refine Qz rfl d1 ?_ | refine Qz rfl d2 ?_ | refine Qs rfl lp ?_ | refine Qs rfl lq ?_ | refine QI rfl d1 ?_ | refine QI rfl d2_4 ?_ | refine QI rfl d1_5 ?_ | refine QI rfl d2_6 ?_ | (refine Qi rfl (k27p h3 x3) ?_;rintro r h4 ⟨e4,rfl⟩;have d1_4:=d1.ext e4;have d2_4:=d2.ext e4;have c3_4:=c3.ext e4) | (refine Qi rfl (k27q h4 (x3.trans e4)) ?_;rintro r h5 ⟨e5,rfl⟩;have d1_5:=d1_4.ext e5;have d2_5:=d2_4.ext e5;have c3_5:=c3_4.ext e5) | (refine Qi rfl (k28p h5 (x3.trans (e4.trans e5))) ?_;rintro r h6 ⟨e6,rfl⟩;have d1_6:=d1_5.ext e6;have d2_6:=d2_5.ext e6;have c3_6:=c3_5.ext e6) | (refine Qi rfl (k28q h6 (x3.trans (e4.trans (e5.trans e6)))) ?_;rintro r h7 ⟨e7,rfl⟩;have d1_7:=d1_6.ext e7;have d2_7:=d2_6.ext e7;have c3_7:=c3_6.ext e7) | (have z:=e7;refine QK rfl rfl (by omega) ?_;rw [hHi]) | (have z:=e5;refine QK rfl rfl (by omega) ?_;rw [hLo]) | (have z:=e7;refine ZY ?_;intro h8 e8 n8;have m7:=(e4.trans (e5.trans (e6.trans e7))).len;have d1_8:=d1_7.ext e8;have d2_8:=d2_7.ext e8;have c3_8:=c3_7.ext e8) | (refine qo rfl rfl n8 ?_;intro h9 w9 c9;have c3_9:Cel h9 h2.length (.bool false) .nilS:=(by unfold Cel;rw [w9,Gj (by omega)];exact c3_8)) | refine Xu rfl (Cel1.at c9) rfl ?_ | (refine XE rfl rfl ?_) | (refine Xm rfl rfl c3_9 ?_;intro hA wA) | refine Xd rfl ?_ | refine QL rfl ?_ | refine Qo rfl ?_ | refine QS rfl rfl ?_ | refine QC rfl rfl ?_ | refine Qy rfl rfl (by omega) ?_ | refine Xf rfl rfl (by omega) ?_ | refine Xt rfl rfl ?_))
   exact ⟨.inr rfl,Xg rfl wA.cel.read ⟨wA.ext (by rw [w9];exact (x3.trans (e4.trans (e5.trans (e6.trans (e7.trans e8))))).set (by omega) _) (Gn e1.len e2.len),.nilS,rfl,.inl ⟨rfl,rfl⟩⟩⟩
  ·have ho2:1048576 < hi:=by omega
   repeat' (first | refine Qg ?_ | refine Qb ?_ | refine QD ?_ | refine Qn ?_ | refine Qt ?_ | refine Qf ?_ | refine Q2 ?_ | refine Xk ?_ | refine Xl ?_ | ((refine Qh ?_);first | refine Qj rfl ?_ | refine Qk rfl ?_) | ((refine Qe ?_);first | refine Q1 ?_ | refine Xw ?_ | refine XZ (by assumption) ?_ | refine Qq rfl ?_ | refine Qu rfl rfl rfl ?_ | refine QG rfl rfl rfl rfl ?_ | refine QU rfl rfl rfl rfl rfl ?_ | refine QT rfl rfl rfl rfl rfl rfl ?_) | ((refine Qc ?_);first | (have z:=e2;refine Xb ?_;intro h3 e3 c3;have x3:=e1.trans (e2.trans e3);have n1:=e1.len;have n2:=e2.len;have n3:=c3.lt;have d1:=(c1.ext e2).ext e3;have d2:=c2.ext e3;have m1:=c1.lt;have m2:=c2.lt) | (have z:=e1;refine Qx rfl ?_;intro h2 e2 c2) | (refine Qx rfl ?_;intro h1 e1 c1) | refine QQ rfl d1 ?_ | refine QQ rfl d2 ?_ | refine Qz rfl d1 ?_ | refine Qz rfl d2 ?_ | refine Qs rfl lp ?_ | refine Qs rfl lq ?_ | refine QI rfl d1 ?_ | refine QI rfl d2_4 ?_ | refine QI rfl d1_5 ?_ | refine QI rfl d2_6 ?_ | (refine Qi rfl (k27p h3 x3) ?_;rintro r h4 ⟨e4,rfl⟩;have d1_4:=d1.ext e4;have d2_4:=d2.ext e4;have c3_4:=c3.ext e4) | (refine Qi rfl (k27q h4 (x3.trans e4)) ?_;rintro r h5 ⟨e5,rfl⟩;have d1_5:=d1_4.ext e5;have d2_5:=d2_4.ext e5;have c3_5:=c3_4.ext e5) | (refine Qi rfl (k28p h5 (x3.trans (e4.trans e5))) ?_;rintro r h6 ⟨e6,rfl⟩;have d1_6:=d1_5.ext e6;have d2_6:=d2_5.ext e6;have c3_6:=c3_5.ext e6) | (refine Qi rfl (k28q h6 (x3.trans (e4.trans (e5.trans e6)))) ?_;rintro r h7 ⟨e7,rfl⟩;have d1_7:=d1_6.ext e7;have d2_7:=d2_6.ext e7;have c3_7:=c3_6.ext e7) | (have z:=e7;refine QK rfl rfl (by omega) ?_;rw [hHi]) | (have z:=e5;refine QK rfl rfl (by omega) ?_;rw [hLo]) | (have z:=e7;refine ZY ?_;intro h8 e8 n8;have m7:=(e4.trans (e5.trans (e6.trans e7))).len;have d1_8:=d1_7.ext e8;have d2_8:=d2_7.ext e8;have c3_8:=c3_7.ext e8) | (refine qo rfl rfl n8 ?_;intro h9 w9 c9;have c3_9:Cel h9 h2.length (.bool false) .nilS:=(by unfold Cel;rw [w9,Gj (by omega)];exact c3_8)) | refine Xu rfl (Cel1.at c9) rfl ?_ | (refine XE rfl rfl ?_) | (refine Xm rfl rfl c3_9 ?_;intro hA wA) | refine QL rfl ?_ | refine Qo rfl ?_ | refine QC rfl rfl ?_ | refine QM rfl rfl (by omega) ?_ | refine XV rfl rfl (by omega) ?_ | refine Xf rfl rfl (by omega) ?_ | refine Xt rfl rfl ?_))
   exact ⟨.inr rfl,Xg rfl wA.cel.read ⟨wA.ext (by rw [w9];exact (x3.trans (e4.trans (e5.trans (e6.trans (e7.trans e8))))).set (by omega) _) (Gn e1.len e2.len),.nilS,rfl,.inl ⟨rfl,rfl⟩⟩⟩
 repeat' (first | refine Qg ?_ | refine Qb ?_ | refine Qn ?_ | refine Qf ?_ | refine Q2 ?_ | refine Xk ?_ | refine Xl ?_ | ((refine Qh ?_);refine Qk rfl ?_) | ((refine Qe ?_);first | refine Q1 ?_ | refine Xw ?_ | refine XZ (by assumption) ?_ | refine Qu rfl rfl rfl ?_ | refine QG rfl rfl rfl rfl ?_ | refine QU rfl rfl rfl rfl rfl ?_ | refine QT rfl rfl rfl rfl rfl rfl ?_) | ((refine Qc ?_);first | (have z:=eB;refine ZY ?_;intro hC eC cC;have oC:=oB.ext eC;have c9C:=Cel1.ext c9B eC;have d1_C:=d1_B.ext eC;have d2_C:=d2_B.ext eC;have c3_C:=c3_B.ext eC) | (have z:=e2;refine Xb ?_;intro h3 e3 c3;have x3:=e1.trans (e2.trans e3);have n1:=e1.len;have n2:=e2.len;have n3:=c3.lt;have d1:=(c1.ext e2).ext e3;have d2:=c2.ext e3;have m1:=c1.lt;have m2:=c2.lt) | (have z:=e1;refine Qx rfl ?_;intro h2 e2 c2) | (refine Qx rfl ?_;intro h1 e1 c1) | refine QQ rfl d1 ?_ | refine QQ rfl d2 ?_ | refine Qz rfl d1 ?_ | refine Qz rfl d2 ?_ | refine Qs rfl lp ?_ | refine Qs rfl lq ?_ | refine QI rfl d1 ?_ | refine QI rfl d2_4 ?_ | refine QI rfl d1_5 ?_ | refine QI rfl d2_6 ?_ | (refine Qi rfl (k27p h3 x3) ?_;rintro r h4 ⟨e4,rfl⟩;have d1_4:=d1.ext e4;have d2_4:=d2.ext e4;have c3_4:=c3.ext e4) | (refine Qi rfl (k27q h4 (x3.trans e4)) ?_;rintro r h5 ⟨e5,rfl⟩;have d1_5:=d1_4.ext e5;have d2_5:=d2_4.ext e5;have c3_5:=c3_4.ext e5) | (refine Qi rfl (k28p h5 (x3.trans (e4.trans e5))) ?_;rintro r h6 ⟨e6,rfl⟩;have d1_6:=d1_5.ext e6;have d2_6:=d2_5.ext e6;have c3_6:=c3_5.ext e6) | (refine Qi rfl (k28q h6 (x3.trans (e4.trans (e5.trans e6)))) ?_;rintro r h7 ⟨e7,rfl⟩;have d1_7:=d1_6.ext e7;have d2_7:=d2_6.ext e7;have c3_7:=c3_6.ext e7) | (have z:=e7;refine QK rfl rfl (by omega) ?_;rw [hHi]) | (have z:=e5;refine QK rfl rfl (by omega) ?_;rw [hLo]) | (have z:=e7;refine ZY ?_;intro h8 e8 n8;have m7:=(e4.trans (e5.trans (e6.trans e7))).len;have d1_8:=d1_7.ext e8;have d2_8:=d2_7.ext e8;have c3_8:=c3_7.ext e8) | (refine qo rfl rfl n8 ?_;intro h9 w9 c9;have x9:Ext h0 h9:=(by rw [w9];exact (x3.trans (e4.trans (e5.trans (e6.trans (e7.trans e8))))).set (by omega) _);have c3_9:Cel h9 h2.length (.bool false) .nilS:=(by unfold Cel;rw [w9,Gj (by omega)];exact c3_8);have d1_9:Cel h9 h0.length (.bool false) sp:=(by unfold Cel;rw [w9,Gj (by omega)];exact d1_8);have d2_9:Cel h9 h1.length (.bool false) sq:=(by unfold Cel;rw [w9,Gj (by omega)];exact d2_8)) | refine Xu rfl (Cel1.at c9) rfl ?_ | refine Qz rfl d1_9 ?_ | refine Qz rfl d2_9 ?_ | (refine Qdz x9 rfl rfl (by simp only [Yu];omega) ?_;intro S hB oB eB xB lB;have c9B:=Cel1.ext c9 eB;have d1_B:=d1_9.ext eB;have d2_B:=d2_9.ext eB;have c3_B:=c3_9.ext eB) | refine QL rfl ?_ | refine Qo rfl ?_ | refine QC rfl rfl ?_ | refine QK rfl rfl (by omega) ?_ | refine Z8 rfl rfl (by omega) ?_ | refine zx rfl rfl (by omega) ?_ | refine QM rfl rfl (by omega) ?_ | refine XT rfl rfl (by omega) ?_ | refine Xf rfl rfl (by omega) ?_ | refine Xt rfl rfl ?_))
 refine qo rfl rfl cC ?_
 intro hD wD cD
 have lC:hB.length < hC.length:=(Gb.1 cC).1
 have l79:h7.length < h9.length:=(Gb.1 c9).1
 have l19:=d1_9.lt
 have l29:=d2_9.lt
 have l39:=c3_9.lt
 have nD:X1 S hB.length:=oC.cel cC
 have xD:Ext h0 hD:=by rw [wD];exact (xB.trans eC).set xB.len _
 have hrep:List.replicate (hi-lo+1).toNat (SV.int IntKind.u64 0,SV.int IntKind.u64 0)=(List.replicate (Zs p.ts q.ts) (0:Int)).map wdP:=by
  rw [List.map_replicate,show (hi-lo+1).toNat=Zs p.ts q.ts from by omega]
  rfl
 rw [hrep] at oC
 have oD:OwnD h0 hD S ((List.replicate (Zs p.ts q.ts) (0:Int)).map wdP):=by rw [wD];exact (oC.set nD _).weaken x9.len
 have c9D:Cel1 hD h7.length (.int .i64 lo):=by unfold Cel1;rw [wD,Gj (by omega)];exact c9C
 have d1_D:Cel hD h0.length (.bool false) sp:=by unfold Cel;rw [wD,Gj (by omega)];exact d1_C
 have d2_D:Cel hD h1.length (.bool false) sq:=by unfold Cel;rw [wD,Gj (by omega)];exact d2_C
 have c3_D:Cel hD h2.length (.bool false) .nilS:=by unfold Cel;rw [wD,Gj (by omega)];exact c3_C
 have xS:Sx h0 hD hD S hB.length h7.length lo (List.replicate (Zs p.ts q.ts) 0):=⟨xD,oD,cD,c9D,fun _ _ h _=>h⟩
 rw [hmlo] at hrng
 have k43:=Qmu h0 hD S hB.length h7.length lo (Zs p.ts q.ts) (by omega) false false sp sq p.ts q.ts hp hq kp.fit kq.fit hrng (by omega) xS
 have n3:=oD.cel c3_D
 clear wD c9C d1_C d2_C c3_C oC oB
 refine JI ?_
 repeat' (first | refine Qg ?_ | refine Qb ?_ | refine Qv ?_ | refine Qf ?_ | ((refine Qe ?_);first | refine Qu rfl rfl rfl ?_ | refine QG rfl rfl rfl rfl ?_ | refine QT rfl rfl rfl rfl rfl rfl ?_) | ((refine Qc ?_);first | refine QI rfl d1_D ?_ | refine QI rfl d2_D ?_ | (refine Qi rfl k43 ?_;rintro r hE xE;have c3_E:=xE.k _ _ c3_D n3) | (have z:=xE;refine Xb ?_;intro hF eF c8;have xF:=xE.ext eF;have c3_F:=Cel.ext c3_E eF;have lS:Yi false S=some ((Zs p.ts q.ts:Nat):Int):=(by have:=xF.o.len;rwa [Gt,qV] at this)) | refine Xu rfl (Cel1.at xF.b7) rfl ?_ | refine Qs rfl lS ?_ | refine Qo rfl ?_ | refine Xt rfl rfl ?_))
 have hst:St22 h0 hF h2.length h7.length hE.length lo false S .nilS (smL (fun e=>mc p.ts q.ts e) lo (Zs p.ts q.ts)) (Y0 (fun e=>mc p.ts q.ts e) lo 0):=⟨xF.e,c3_F,xF.b5,c8,.inl ⟨rfl,rfl⟩,xF.o.is,fun j=>.inl (fun o n c e=>by cases e)⟩
 have nE:=c3_E
 have lE:h2.length < hE.length:=(Gb.1 c3_E).1
 have l02:h0.length≤h2.length:=Gn e1.len e2.len
 have hmul:Yl p q=if ∀ t∈Vd p.ts q.ts lo (Zs p.ts q.ts),t.2.natAbs≤cM then ⟨false,Vd p.ts q.ts lo (Zs p.ts q.ts)⟩ else YP:=by unfold Yl;rw [if_neg nb,if_neg ne2,hmlo,hHi,if_neg hout]
 refine YU (I22 h0 h2.length h7.length hE.length lo S (fun e=>mc p.ts q.ts e) (Zs p.ts q.ts)) (cK [4,5,8,73,74,75] (Zs p.ts q.ts) 75) (R22 h0 h2.length h7.length hE.length lo S (fun e=>mc p.ts q.ts e) (Zs p.ts q.ts)) ⟨0,.nilS,Gs _,fun k hk=>absurd hk (by omega),hst,rfl⟩ (QiY h0 h2.length h7.length hE.length lo S (fun e=>mc p.ts q.ts e) (Zs p.ts q.ts) (by omega) (by omega) (Qbq kp kq) l02 (by have:=xF.e.len;have:=xS.e.len;have:=xE.e.len;omega) (by omega)) ?_
 rintro ex E' h3 (⟨rfl,s,_,_,_,_,hsm,st,rfl⟩ | ⟨rfl,hns,e3,c4,rfl⟩)
 ·have c4:=st.c4
  repeat' (first | refine Qg ?_ | refine Qb ?_ | refine QP ?_ | refine Qt ?_ | refine Qf ?_ | ((refine Qe ?_);refine Qq rfl ?_) | ((refine Qc ?_);first | refine QI rfl st.c8 ?_ | (refine Xm rfl rfl c4 ?_;intro h4 w4)))
  refine ⟨.inr rfl,Xg rfl w4.cel.read ⟨w4.ext st.e l02,?_⟩⟩
  rw [hmul,if_pos]
  ·exact ⟨s,rfl,st.o.wrC w4⟩
  ·intro t ht
   obtain ⟨a,b,c,d⟩:=fromC_mem.1 ht
   have:=hsm (t.1-lo).toNat (by omega)
   rw [show lo+((t.1-lo).toNat:Int)=t.1 from by omega] at this
   rw [c];exact this
 ·repeat' (first | refine QD ?_ | refine Xs ?_)
  refine ⟨.inr rfl,Xg rfl c4.read ⟨e3,?_⟩⟩
  rw [hmul,if_neg]
  ·exact ⟨.nilS,rfl,.inl ⟨rfl,rfl⟩⟩
  ·intro hall
   refine hns fun k hk=>?_
   by_cases hz:mc p.ts q.ts (lo+k)=0
   ·show (mc p.ts q.ts (lo+k)).natAbs≤cM
    rw [hz];simp [cM]
   ·exact hall (lo+k,mc p.ts q.ts (lo+k)) (fromC_mem.2 ⟨by omega,by omega,rfl,hz⟩)
theorem QmF (h0:Qa) (sp sq:SV) (p q:Pol) (hp:IsD h0 sp (tms p.ts)) (hq:IsD h0 sq (tms q.ts)) (kp:Pok p) (kq:Pok q) (hd:p.ts≠[]→q.ts≠[]→hi0 p.ts+hi0 q.ts-(lo0 p.ts+lo0 q.ts)≤64+4*(p.ts.length:Int)*q.ts.length) :
  ∃ r h',Cal FT HKt 22 [.agg [.bool p.big,sp],.agg [.bool q.big,sq]] h0 r h'∧Ext h0 h'∧yN h' r (Yl p q):=by
 obtain ⟨r,h',a,b,s,c,d⟩:=QjH h0 sp sq p q hp hq kp kq hd
 exact ⟨r,h',a,b,s,c,d.is⟩
