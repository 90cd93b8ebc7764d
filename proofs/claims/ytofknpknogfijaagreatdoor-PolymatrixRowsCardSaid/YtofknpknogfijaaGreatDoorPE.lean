/- High,Of,Equal: contracts. -/
import Derived.Test.YtofknpknogfijaaGreatDoorPM
namespace Go.Proofs.YtofknpknogfijaaGreatDoor
open Go.Ab
set_option linter.all false
set_option maxHeartbeats 16000000
set_option maxRecDepth 20000
attribute [local irreducible] Ql wA Xr Xp QA Qp QW QY
variable [HB]
theorem QgA {ts:List Tm} {t:Tm} (h:ts[ts.length-1]?=some t) (h0:ts≠[]):hi0 ts=t.1:=by
 unfold hi0
 rw [List.getLast?_eq_getElem?,h]
theorem za (h0:Qa) (b:Bool) (s:SV) (ts:List Tm) (hs:IsD h0 s (tms ts)) (hl:ts.length≤2097153):∃ r h',Cal FT HKt 54 [.agg [.bool b,s]] h0 r h'∧Ext h0 h'∧r=.sc (.int .i64 (hi0 ts)):=by
 refine Cal.of (F:=a54) rfl rfl rfl ?_
 have ls:=hs.len
 rw [Q6] at ls
 by_cases h:ts=[]
 ·subst h
  rw [GV] at ls
  repeat' (first | refine Qg ?_ | refine Qb ?_ | refine QD ?_ | refine Qt ?_ | refine Qf ?_ | ((refine Qh ?_);refine Qj rfl ?_) | ((refine Qe ?_);first | refine Qq rfl ?_ | refine QE rfl rfl ?_) | ((refine Qc ?_);first | (refine Qx rfl ?_;intro h1 e1 c1) | refine Qz rfl c1 ?_ | refine Qs rfl ls ?_ | refine Qo rfl ?_ | refine XD rfl rfl (by omega) ?_ | refine Xt rfl rfl ?_))
  exact ⟨.inr rfl,e1,rfl⟩
 ·have hp:0 < ts.length:=G5.2 h
  obtain ⟨t,ht⟩:∃ t,ts[ts.length-1]?=some t:=⟨_,Ga (by omega)⟩
  obtain ⟨id,off,cap,e,hr⟩:=hs.at (i:=ts.length-1) (p:=tmP t) (by simp [ht])
  rw [Q6] at e
  subst e
  rw [QgA ht h]
  have ei:((ts.length:Int)-1).toNat=ts.length-1:=by omega
  have hr1:=fun H (e:Ext h0 H)=>QH e (rd1 hr).1
  rw [← ei] at hr1
  repeat' (first | refine Qg ?_ | refine Qb ?_ | refine Qn ?_ | refine Qt ?_ | refine Qf ?_ | ((refine Qh ?_);refine Qk rfl ?_) | ((refine Qe ?_);first | refine Qq rfl ?_ | refine QE rfl rfl ?_) | ((refine Qc ?_);first | (refine Qx rfl ?_;intro h1 e1 c1) | refine Qz rfl c1 ?_ | refine Qs rfl ls ?_ | refine Qw (esz:=2) rfl rfl (by omega) ?_ | refine Xi rfl ?_ | refine Q4 rfl (hr1 _ e1) ?_ | refine Qo rfl ?_ | refine Z8 rfl rfl (by omega) ?_ | refine Xf rfl rfl (by omega) ?_))
  exact ⟨.inr rfl,e1,rfl⟩
def ofN (low:Int) (xs:List Int):Nat→Option (List Tm)
 | 0=>some []
 | i+1=>(ofN low xs i).bind fun r=>if xs.getD i 0=0 then some r else if (xs.getD i 0).natAbs≤cM∧low≤eM∧(low+i).natAbs≤eM then some (r++[(low+i,xs.getD i 0)]) else none
def ofP (low:Int) (xs:List Int):Pol:=match ofN low xs xs.length with
 | some r=>⟨false,r⟩
 | none=>YP
theorem Qag {low:Int} {xs:List Int}:∀ {i:Nat} {r:List Tm},ofN low xs i=some r→Can r∧(∀ t∈r,low≤t.1∧t.1 < low+i∧t.2.natAbs≤cM∧t.1.natAbs≤eM)∧∀ e,cf r e=if low≤e∧e < low+i then xs.getD (e-low).toNat 0 else 0
 | 0,r,h=>by
  simp [ofN] at h;subst h
  refine ⟨.nil,by simp,fun e=>?_⟩
  rw [if_neg (by omega)];rfl
 | i+1,r',h=>by
  rw [ofN,Gd] at h
  obtain ⟨r,h1,h⟩:=h
  obtain ⟨a,b,c⟩:=Qag h1
  split at h
  ·rename_i hz
   cases h
   refine ⟨a,fun t ht=>?_,fun e=>?_⟩
   ·have:=b t ht;omega
   ·rw [c e]
    by_cases he:e=low+i
    ·subst he
     rw [if_neg (by omega),if_pos (by omega),show (low+(i:Int)-low).toNat=i by omega,hz]
    ·by_cases h2:low≤e∧e < low+i
     ·rw [if_pos h2,if_pos (by omega)]
     ·rw [if_neg h2,if_neg (by omega)]
  ·rename_i hz
   split at h
   ·rename_i hc
    cases h
    refine ⟨⟨List.pairwise_append.2 ⟨a.asc,by simp,fun u hu v hv=>?_⟩,fun t ht=>?_⟩,fun t ht=>?_,fun e=>?_⟩
    ·simp at hv;subst hv
     exact (b u hu).2.1
    ·rcases Gv.1 ht with ht | ht
     ·exact a.nz t ht
     ·simp at ht;subst ht;exact hz
    ·rcases Gv.1 ht with ht | ht
     ·have:=b t ht;omega
     ·rw [He] at ht;subst ht;simp only;omega
    ·rw [QcB,yG,c e]
     simp only
     rw [show cf [] e=0 from rfl]
     by_cases he:e=low+i
     ·subst he
      rw [if_neg (by omega),YX,if_pos (by omega),show (low+(i:Int)-low).toNat=i by omega];omega
     ·rw [Ja (by omega)]
      by_cases h2:low≤e∧e < low+i
      ·rw [if_pos h2,if_pos (by omega)];omega
      ·rw [if_neg h2,if_neg (by omega)];omega
   ·cases h
theorem Qjd {low:Int} {xs:List Int} {i:Nat} {r:List Tm} (h:ofN low xs i=some r):r.length≤i:=by
 obtain ⟨a,b,_⟩:=Qag h
 exact Jz a fun t ht=>⟨(b t ht).1,(b t ht).2.1⟩
theorem Qbm {low:Int} {xs:List Int}:∀ {i j:Nat},i≤j→ofN low xs i=none→ofN low xs j=none
 | i, 0, h, hn => by obtain rfl : i = 0 := by omega
                     exact hn
 | i,j+1,h,hn=>by
  by_cases e:i=j+1
  ·rw [← e];exact hn
  ·rw [ofN,Qbm (i:=i) (by omega) hn];rfl
structure St20 (h0 h:Qa) (q4 q5:Nat) (a b s:SV) (r:List Tm):Prop where
 e:Ext h0 h
 c4:Cel h q4 a b
 c5:Cel h q5 (.bool false) s
 o:OwnD h0 h s (tms r)
 l4:h0.length≤q4
 l5:h0.length≤q5
 ne:q4≠q5
def I20 (h0:Qa) (q4 q5:Nat) (low:Int) (c:SV) (xs:List Int) (E:Env) (h:Qa):Prop:=∃ (i:Nat) (r:List Tm) (s:SV),i≤xs.length∧ofN low xs i=some r∧St20 h0 h q4 q5 (.bool false) .nilS s r ∧
 E.keep [0,4,5,8,9,10]=[(0,some (.sc (.int .i64 low))),(4,some (.sc (.ptr q4 0))),(5,some (.sc (.ptr q5 0))),(8,some (.sc c)),(9,some (.sc (.int .i64 (xs.length:Nat)))),(10,some (.sc (.int .i64 (i:Nat))))]
def R20 (h0:Qa) (q4 q5:Nat) (low:Int) (xs:List Int) (ex:Ex) (E:Env) (h:Qa):Prop :=
 (ex=.ex 0∧∃ r s a b c d e,ofN low xs xs.length=some r∧St20 h0 h q4 q5 (.bool false) .nilS s r∧E=[(0,a),(4,some (.sc (.ptr q4 0))),(5,some (.sc (.ptr q5 0))),(8,b),(9,c),(10,d),(11,e)]) ∨
 (ex=.rt∧∃ (r:List Tm) (s:SV),ofN low xs xs.length=none∧St20 h0 h q4 q5 (.bool true) .nilS s r∧E=[(4,some (.sc (.ptr q4 0)))])
def cK (ks:List Nat) (n t:Nat) (E:Env) (_:Qa):Nat:=match (E.keep ks).get t with
 | some (.sc (.int _ i))=>n-i.toNat
 | _=>0
theorem Qc5 (h0:Qa) (q4 q5:Nat) (low:Int) (hlow : -9223372036854775808≤low∧low≤9223372036854775807) (c:SV) (xs:List Int) (hn:xs.length≤1000000) (hc:IsInts h0 c xs) (hw:∀ x∈xs,-9223372036854775808≤x∧x≤9223372036854775807) (E:Env) (h:Qa) (hI:I20 h0 q4 q5 low c xs E h) :
  wA FT HKt QkH (E.keep [0,4,5,8,9,10]) h (QA (I20 h0 q4 q5 low c xs) (cK [0,4,5,8,9,10] xs.length 10) (cK [0,4,5,8,9,10] xs.length 10 E h) (R20 h0 q4 q5 low xs)):=by
 obtain ⟨i,r,s,hi,hr,st,hE⟩:=hI
 have hm:cK [0,4,5,8,9,10] xs.length 10 E h=xs.length-i:=by unfold cK;rw [hE];rfl
 rw [hm,hE]
 by_cases hlt:i < xs.length
 ·obtain ⟨x,hx⟩:∃ x,xs[i]?=some x:=⟨_,Ga hlt⟩
  have hx2:xs.getD i 0=x:=by rw [Ge,hx];rfl
  obtain ⟨id,off,cap,rfl,rd0⟩:=IsInts.at hc hx
  have rd:=QH st.e rd0
  have hxw:=hw x (Gh hx)
  have k35:=fun H v l hl=>UW H v l hl
  by_cases hz:x=0
  ·have en:ofN low xs (i+1)=some r:=by rw [ofN,hr,Gm,hx2,if_pos hz]
   subst hz
   repeat' (first | refine Qg ?_ | refine Qb ?_ | refine Q0 ?_ | refine Qv ?_ | refine QP ?_ | refine Qn ?_ | refine QX ?_ | refine Qf ?_ | ((refine Qh ?_);refine Qj rfl ?_) | ((refine Qe ?_);first | refine QT rfl rfl rfl rfl rfl rfl ?_ | refine Xn rfl rfl rfl rfl rfl rfl rfl ?_ | refine Xa rfl rfl rfl rfl rfl rfl rfl rfl ?_ | refine Q5 rfl rfl rfl rfl rfl rfl rfl rfl rfl ?_) | ((refine Qc ?_);first | refine Qw (esz:=1) rfl rfl (by omega) ?_ | refine Q4 rfl rd ?_ | refine Qo rfl ?_ | refine QK rfl rfl (by omega) ?_ | refine Qy rfl rfl (by omega) ?_ | refine XD rfl rfl (by omega) ?_))
   exact Xo ⟨i+1,r,s,by omega,en,st,rfl⟩ (by simp [cK,Env.keep,Env.get];omega)
  ·have en:ofN low xs (i+1)=if x.natAbs≤cM∧low≤eM∧(low+i).natAbs≤eM then some (r++[(low+i,x)]) else none:=by rw [ofN,hr,Gm,hx2,if_neg hz]
   have k1:=fun H=>UW H x 1125899906842624 (by omega)
   have k2:=fun H=>UW H (low+i) 1048576 (by omega)
   rw [show (1125899906842624:Int).toNat=cM by rfl] at k1
   rw [show (1048576:Int).toNat=eM by rfl] at k2
   have bad:ofN low xs (i+1)=none→∀ h2,Wr h h2 q4 (.bool true) .nilS→∃ (r:List Tm) (s:SV),ofN low xs xs.length=none∧St20 h0 h2 q4 q5 (.bool true) .nilS s r:=fun hn h2 w=>⟨r,s,Qbm (by omega) hn,w.ext st.e st.l4,w.cel,w.keep st.c5 (Ne.symm st.ne),st.o.wrC w,st.l4,st.l5,st.ne⟩
   have c4:=st.c4
   have c5:=st.c5
   by_cases a1:x.natAbs≤cM
   ·rw [decide_eq_true a1] at k1
    by_cases a2:low≤1048576
    ·by_cases a3:(low+i).natAbs≤eM
     ·rw [decide_eq_true a3] at k2
      rw [if_pos ⟨a1,a2,a3⟩] at en
      have hrl:=Qjd hr
      have rdC:QZ h q5 (0+1) 1=some [s]:=(rd1 c5.read).2
      repeat' (first | refine Qg ?_ | refine Qb ?_ | refine Qv ?_ | refine QJ ?_ | refine Qn ?_ | refine Qf ?_ | ((refine Qh ?_);first | refine Qj rfl ?_ | refine Qk rfl ?_) | ((refine Qe ?_);first | refine QT rfl rfl rfl rfl rfl rfl ?_ | refine Xn rfl rfl rfl rfl rfl rfl rfl ?_ | refine Xa rfl rfl rfl rfl rfl rfl rfl rfl ?_ | refine Q5 rfl rfl rfl rfl rfl rfl rfl rfl rfl ?_) | ((refine Qc ?_);first | refine Qw (esz:=1) rfl rfl (by omega) ?_ | refine Q4 rfl rd ?_ | (refine Qi rfl (k1 _) ?_;rintro v _ ⟨rfl,rfl⟩) | (refine Qi rfl (k2 _) ?_;rintro v _ ⟨rfl,rfl⟩) | refine Xi rfl ?_ | (refine Qz rfl c5 ?_) | (refine XE rfl rfl ?_) | (refine Js st.e st.o rfl rfl (by rw [Q6];simp only [Yu];omega) ?_;intro s' h2 o2 e2 f2 l2;have d5:=c5.fram f2 (st.o.cel c5);have d4:=c4.fram f2 (st.o.cel c4)) | (refine Jr rfl rfl d5 ?_;intro h3 w3) | refine QL rfl ?_ | refine Qo rfl ?_ | refine QC rfl rfl ?_ | refine XR rfl ?_ | refine QK rfl rfl (by omega) ?_ | refine Qy rfl rfl (by omega) ?_ | refine XT rfl rfl (by omega) ?_ | refine Xf rfl rfl (by omega) ?_))
      refine Xo ⟨i+1,_,s',by omega,en,⟨w3.ext e2 st.l5,w3.keep d4 st.ne,w3.cel,?_,st.l4,st.l5,st.ne⟩,rfl⟩ (by simp [cK,Env.keep,Env.get];omega)
      have:=o2.wrC w3
      simpa [tms,tmP] using this
     ·rw [decide_eq_false a3] at k2
      rw [if_neg fun h=>a3 h.2.2] at en
      repeat' (first | refine Qg ?_ | refine Qb ?_ | refine QD ?_ | refine Qv ?_ | refine Xs ?_ | refine Qn ?_ | refine Qt ?_ | refine Qf ?_ | ((refine Qh ?_);first | refine Qj rfl ?_ | refine Qk rfl ?_) | ((refine Qe ?_);first | refine Qq rfl ?_ | refine Xn rfl rfl rfl rfl rfl rfl rfl ?_ | refine Xa rfl rfl rfl rfl rfl rfl rfl rfl ?_ | refine Q5 rfl rfl rfl rfl rfl rfl rfl rfl rfl ?_) | ((refine Qc ?_);first | refine Qw (esz:=1) rfl rfl (by omega) ?_ | refine Q4 rfl rd ?_ | (refine Qi rfl (k1 _) ?_;rintro v _ ⟨rfl,rfl⟩) | (refine Qi rfl (k2 _) ?_;rintro v _ ⟨rfl,rfl⟩) | (refine XE rfl rfl ?_) | (refine Xm rfl rfl c4 ?_;intro h3 w3) | refine QL rfl ?_ | refine Qo rfl ?_ | refine QC rfl rfl ?_ | refine XR rfl ?_ | refine Yw rfl ?_ | refine QK rfl rfl (by omega) ?_ | refine Qy rfl rfl (by omega) ?_ | refine XT rfl rfl (by omega) ?_ | refine Xf rfl rfl (by omega) ?_))
      obtain ⟨r',s',b1,b2⟩:=bad en h3 w3
      exact Z5 (.inr ⟨rfl,r',s',b1,b2,rfl⟩)
    ·rw [if_neg fun h=>a2 h.2.1] at en
     repeat' (first | refine Qg ?_ | refine Qb ?_ | refine QD ?_ | refine Qv ?_ | refine Xs ?_ | refine Qn ?_ | refine Qt ?_ | refine Qf ?_ | ((refine Qh ?_);first | refine Qj rfl ?_ | refine Qk rfl ?_) | ((refine Qe ?_);first | refine Qq rfl ?_ | refine Xn rfl rfl rfl rfl rfl rfl rfl ?_ | refine Xa rfl rfl rfl rfl rfl rfl rfl rfl ?_ | refine Q5 rfl rfl rfl rfl rfl rfl rfl rfl rfl ?_) | ((refine Qc ?_);first | refine Qw (esz:=1) rfl rfl (by omega) ?_ | refine Q4 rfl rd ?_ | (refine Qi rfl (k1 _) ?_;rintro v _ ⟨rfl,rfl⟩) | (refine XE rfl rfl ?_) | (refine Xm rfl rfl c4 ?_;intro h3 w3) | refine Xd rfl ?_ | refine QL rfl ?_ | refine Qo rfl ?_ | refine QS rfl rfl ?_ | refine QC rfl rfl ?_ | refine XR rfl ?_ | refine Qy rfl rfl (by omega) ?_ | refine XV rfl rfl (by omega) ?_ | refine Xf rfl rfl (by omega) ?_))
     obtain ⟨r',s',b1,b2⟩:=bad en h3 w3
     exact Z5 (.inr ⟨rfl,r',s',b1,b2,rfl⟩)
   ·rw [decide_eq_false a1] at k1
    rw [if_neg fun h=>a1 h.1] at en
    repeat' (first | refine Qg ?_ | refine Qb ?_ | refine QD ?_ | refine Qv ?_ | refine Xs ?_ | refine Qn ?_ | refine Qt ?_ | refine Qf ?_ | ((refine Qh ?_);first | refine Qj rfl ?_ | refine Qk rfl ?_) | ((refine Qe ?_);first | refine Qq rfl ?_ | refine Xn rfl rfl rfl rfl rfl rfl rfl ?_ | refine Xa rfl rfl rfl rfl rfl rfl rfl rfl ?_ | refine Q5 rfl rfl rfl rfl rfl rfl rfl rfl rfl ?_) | ((refine Qc ?_);first | refine Qw (esz:=1) rfl rfl (by omega) ?_ | refine Q4 rfl rd ?_ | (refine Qi rfl (k1 _) ?_;rintro v _ ⟨rfl,rfl⟩) | (refine XE rfl rfl ?_) | (refine Xm rfl rfl c4 ?_;intro h3 w3) | refine Xd rfl ?_ | refine Qo rfl ?_ | refine QS rfl rfl ?_ | refine Yw rfl ?_ | refine Qy rfl rfl (by omega) ?_ | refine Xf rfl rfl (by omega) ?_))
    obtain ⟨r',s',b1,b2⟩:=bad en h3 w3
    exact Z5 (.inr ⟨rfl,r',s',b1,b2,rfl⟩)
 ·have:i=xs.length:=by omega
  subst this
  repeat' (first | refine Qg ?_ | refine Qb ?_ | refine Q0 ?_ | refine QX ?_ | refine Qf ?_ | ((refine Qh ?_);refine Qk rfl ?_) | ((refine Qe ?_);refine Xn rfl rfl rfl rfl rfl rfl rfl ?_) | ((refine Qc ?_);refine QM rfl rfl (by omega) ?_))
  exact XM (.inl ⟨rfl,r,s,_,_,_,_,_,hr,st,rfl⟩)
theorem QmH (h0:Qa) (low:Int) (hlow : -9223372036854775808≤low∧low≤9223372036854775807) (c:SV) (xs:List Int) (hn:xs.length≤1000000) (hc:IsInts h0 c xs) (hw:∀ x∈xs,-9223372036854775808≤x∧x≤9223372036854775807) :
  ∃ r h',Cal FT HKt 20 [.sc (.int .i64 low),.sc c] h0 r h'∧Ext h0 h'∧yN h' r (ofP low xs):=by
 refine Cal.of (F:=a20) rfl rfl rfl ?_
 have lc:=IsSl.len hc
 repeat' (first | refine Qg ?_ | refine Qb ?_ | refine Qv ?_ | refine Qf ?_ | ((refine Qe ?_);first | refine Qu rfl rfl rfl ?_ | refine QG rfl rfl rfl rfl ?_ | refine QT rfl rfl rfl rfl rfl rfl ?_) | ((refine Qc ?_);first | (have z:=e1;refine Xb ?_;intro h2 e2 c2;have d1:=c1.ext e2) | (refine Xb ?_;intro h1 e1 c1) | refine Qs rfl lc ?_ | refine Qo rfl ?_))
 have n1:=e1.len
 have n2:=c1.lt
 refine YU (I20 h0 h0.length h1.length low c xs) (cK [0,4,5,8,9,10] xs.length 10) (R20 h0 h0.length h1.length low xs) ⟨0,[],.nilS,Gs _,rfl,⟨e1.trans e2,d1,c2,.inl ⟨rfl,rfl⟩,Gf _,n1,by omega⟩,rfl⟩ (Qc5 h0 _ _ low hlow c xs hn hc hw) ?_
 rintro ex E' h3 (⟨rfl,r,s,a,b,c,d,e,hr,st,rfl⟩ | ⟨rfl,r,s,hr,st,rfl⟩)
 ·have c5:=st.c5
  have c4:=st.c4
  repeat' (first | refine Qg ?_ | refine Qb ?_ | refine QP ?_ | refine Qt ?_ | refine Qf ?_ | ((refine Qe ?_);refine Qq rfl ?_) | ((refine Qc ?_);first | refine QI rfl c5 ?_ | (refine Xm rfl rfl c4 ?_;intro h4 w4)))
  refine ⟨.inr rfl,Xg rfl w4.cel.read ⟨w4.ext st.e st.l4,s,?_,?_⟩⟩
  ·unfold ofP;rw [hr]
  ·unfold ofP;rw [hr]
   exact (st.o.wrC w4).is
 ·repeat' (first | refine QD ?_ | refine Xs ?_)
  refine ⟨.inr rfl,Xg rfl st.c4.read ⟨st.e,.nilS,?_,?_⟩⟩
  ·unfold ofP;rw [hr]
  ·unfold ofP;rw [hr]
   exact IsD.nil _
def I60 (h0:Qa) (s t:SV) (a b:List Tm) (E:Env) (h:Qa):Prop:=h=h0∧∃ i:Nat,i≤a.length∧a.take i=b.take i ∧
 E.keep [0,1,12,13]=[(0,some (.sc s)),(1,some (.sc t)),(12,some (.sc (.int .i64 (a.length:Nat)))),(13,some (.sc (.int .i64 (i:Nat))))]
def R60 (h0:Qa) (a b:List Tm) (ex:Ex) (E:Env) (h:Qa):Prop:=h=h0∧((ex=.ex 0∧a=b)∨(ex=.rt∧a≠b∧E=[(4,some (.sc (.bool false)))]))
theorem QiS (h0:Qa) (s t:SV) (a b:List Tm) (hs:IsD h0 s (tms a)) (ht:IsD h0 t (tms b)) (hl:a.length=b.length) (hn:a.length≤3000000) (E:Env) (h:Qa) (hI:I60 h0 s t a b E h) :
  wA FT HKt Qky (E.keep [0,1,12,13]) h (QA (I60 h0 s t a b) (cK [0,1,12,13] a.length 13) (cK [0,1,12,13] a.length 13 E h) (R60 h0 a b)):=by
 obtain ⟨rfl,i,hi,he,hE⟩:=hI
 have hm:cK [0,1,12,13] a.length 13 E h=a.length-i:=by unfold cK;rw [hE];rfl
 rw [hm,hE]
 by_cases hlt:i < a.length
 ·obtain ⟨x,hx⟩:∃ x,a[i]?=some x:=⟨_,Ga hlt⟩
  obtain ⟨y,hy⟩:∃ y,b[i]?=some y:=⟨_,Ga (by omega)⟩
  obtain ⟨id1,o1,c1,e1,r1⟩:=hs.at (i:=i) (p:=tmP x) (by simp [hx])
  obtain ⟨id2,o2,c2,e2,r2⟩:=ht.at (i:=i) (p:=tmP y) (by simp [hy])
  rw [Q6] at e1 e2
  subst e1 e2
  have b0:(0:Int)≤(i:Nat)∧((i:Nat):Int) < (b.length:Nat):=by omega
  by_cases hxy:x=y
  ·subst hxy
   have e3:(x.1 == x.1 && x.2 == x.2)=true:=by simp
   repeat' (first | refine Qg ?_ | refine Qb ?_ | refine Qv ?_ | refine QJ ?_ | refine Qn ?_ | refine Qf ?_ | refine Q2 ?_ | refine Xk ?_ | refine Xl ?_ | ((refine Qh ?_);first | refine Qj rfl ?_ | refine Qk rfl ?_) | ((refine Qe ?_);first | refine Q1 ?_ | refine QG rfl rfl rfl rfl ?_ | refine QU rfl rfl rfl rfl rfl ?_) | ((refine Qc ?_);first | refine Qw (esz:=2) rfl rfl (by omega) ?_ | refine XX rfl r1 ?_ | refine XX rfl r2 ?_ | (refine Qgr rfl rfl ?_;rw [e3]) | refine Qo rfl ?_ | refine QK rfl rfl (by omega) ?_ | refine Qy rfl rfl (by omega) ?_))
   refine Xo ⟨rfl,i+1,by omega,?_,rfl⟩ (by simp [cK,Env.keep,Env.get];omega)
   rw [GF,GF,he,hx,hy]
  ·have e3:(x.1 == y.1 && x.2 == y.2)=false:=by
    rw [Bool.and_eq_false_iff]
    by_cases h1:x.1=y.1
    ·exact .inr (by simpa using fun h2=>hxy (Prod.ext h1 h2))
    ·exact .inl (by simpa using h1)
   repeat' (first | refine Qg ?_ | refine Qb ?_ | refine QD ?_ | refine Qv ?_ | refine Xs ?_ | refine Qn ?_ | refine Qt ?_ | refine Qf ?_ | refine Q2 ?_ | refine Xk ?_ | refine Xl ?_ | ((refine Qh ?_);refine Qj rfl ?_) | ((refine Qe ?_);first | refine Q1 ?_ | refine Qq rfl ?_ | refine QU rfl rfl rfl rfl rfl ?_) | ((refine Qc ?_);first | refine Qw (esz:=2) rfl rfl (by omega) ?_ | refine XX rfl r1 ?_ | refine XX rfl r2 ?_ | (refine Qgr rfl rfl ?_;rw [e3]) | refine Qo rfl ?_ | refine Qy rfl rfl (by omega) ?_))
   exact Z5 ⟨rfl,.inr ⟨rfl,fun h=>hxy (by rw [h,hy] at hx;exact (Option.some.inj hx).symm),rfl⟩⟩
 ·have:i=a.length:=by omega
  subst this
  repeat' (first | refine Qg ?_ | refine Qb ?_ | refine Q0 ?_ | refine QX ?_ | refine Qf ?_ | ((refine Qh ?_);refine Qk rfl ?_) | ((refine Qe ?_);refine QU rfl rfl rfl rfl rfl ?_) | ((refine Qc ?_);refine QM rfl rfl (by omega) ?_))
  rw [Gx,hl,Gx] at he
  exact XM ⟨rfl,.inl ⟨rfl,he⟩⟩
theorem Qms (h0:Qa) (s t:SV) (a b:List Tm) (hs:IsD h0 s (tms a)) (ht:IsD h0 t (tms b)) (hn:a.length≤3000000):∃ r h',Cal FT HKt 60 [.sc s,.sc t] h0 r h'∧r=.sc (.bool (decide (a=b)))∧h'=h0:=by
 refine Cal.of (F:=a60) rfl rfl rfl ?_
 have ls:=hs.len
 have lt:=ht.len
 rw [Q6] at ls lt
 by_cases hl:a.length=b.length
 ·repeat' (first | refine Qg ?_ | refine Qb ?_ | refine Qv ?_ | refine Qn ?_ | refine Qf ?_ | ((refine Qh ?_);refine Qk rfl ?_) | ((refine Qe ?_);first | refine QE rfl rfl ?_ | refine Qu rfl rfl rfl ?_ | refine QG rfl rfl rfl rfl ?_) | ((refine Qc ?_);first | refine Qs rfl ls ?_ | refine Qs rfl lt ?_ | refine Qo rfl ?_ | refine XS rfl rfl (by omega) ?_))
  refine YU (I60 h0 s t a b) (cK [0,1,12,13] a.length 13) (R60 h0 a b) ⟨rfl,0,Gs _,rfl,rfl⟩ (QiS h0 s t a b hs ht hl hn) ?_
  rintro ex E' h1 ⟨rfl,⟨rfl,he⟩ | ⟨rfl,he,rfl⟩⟩
  ·rw [decide_eq_true he]
   repeat' (first | refine Qg ?_ | refine Qb ?_ | refine QP ?_ | refine Qt ?_ | refine Qf ?_ | ((refine Qe ?_);refine Qq rfl ?_) | ((refine Qc ?_);refine Qo rfl ?_))
   exact ⟨.inr rfl,rfl,rfl⟩
  ·rw [decide_eq_false he]
   repeat' (first | refine QD ?_ | refine Xs ?_)
   exact ⟨.inr rfl,rfl,rfl⟩
 ·rw [decide_eq_false fun h=>hl (by rw [h])]
  repeat' (first | refine Qg ?_ | refine Qb ?_ | refine QD ?_ | refine Qt ?_ | refine Qf ?_ | ((refine Qh ?_);refine Qj rfl ?_) | ((refine Qe ?_);first | refine Qq rfl ?_ | refine QE rfl rfl ?_ | refine Qu rfl rfl rfl ?_) | ((refine Qc ?_);first | refine Qs rfl ls ?_ | refine Qs rfl lt ?_ | refine Qo rfl ?_ | refine Yg rfl rfl (by omega) ?_))
  exact ⟨.inr rfl,rfl,rfl⟩
theorem QaG (h0:Qa) (s t:SV) (p q:Pol) (hs:IsD h0 s (tms p.ts)) (ht:IsD h0 t (tms q.ts)) (hn:p.ts.length≤3000000):∃ r h',Cal FT HKt 23 [.agg [.bool p.big,s],.agg [.bool q.big,t]] h0 r h'∧Ext h0 h'∧r=.sc (.bool (decide (p=q))):=by
 refine Cal.of (F:=a23) rfl rfl rfl ?_
 have k46:=fun H (e:Ext h0 H)=>Qms H s t p.ts q.ts (hs.ext e) (ht.ext e) hn
 obtain ⟨pb,pt⟩:=p
 obtain ⟨qb,qt⟩:=q
 simp only [Pol.mk.injEq] at *
 by_cases hb:pb=qb
 ·subst hb
  simp only [true_and]
  have e3:(pb == pb)=true:=by simp
  repeat' (first | refine Qg ?_ | refine Qb ?_ | refine Qt ?_ | refine Qf ?_ | ((refine Qe ?_);first | refine Qq rfl ?_ | refine QE rfl rfl ?_) | ((refine Qc ?_);first | (have z:=e1;refine Qx rfl ?_;intro h2 e2 c2;have d1:=c1.ext e2) | (refine Qx rfl ?_;intro h1 e1 c1) | refine QQ rfl d1 ?_ | refine QQ rfl c2 ?_ | refine Qz rfl d1 ?_ | refine Qz rfl c2 ?_ | (refine VF rfl rfl ?_;simp only [Bool.false_eq_true,if_false,e3]) | (refine Qi rfl (k46 h2 (e1.trans e2)) ?_;rintro r _ ⟨rfl,rfl⟩) | refine QL rfl ?_ | refine Qo rfl ?_ | refine QS rfl rfl ?_ | refine Xt rfl rfl ?_))
  exact ⟨.inr rfl,e1.trans e2,rfl⟩
 ·have e3:(pb == qb)=false:=by simpa using hb
  rw [decide_eq_false fun h=>hb h.1]
  repeat' (first | refine Qg ?_ | refine Qb ?_ | refine Qt ?_ | refine Qf ?_ | ((refine Qe ?_);first | refine Qq rfl ?_ | refine QE rfl rfl ?_) | ((refine Qc ?_);first | (have z:=e1;refine Qx rfl ?_;intro h2 e2 c2;have d1:=c1.ext e2) | (refine Qx rfl ?_;intro h1 e1 c1) | refine QQ rfl d1 ?_ | refine QQ rfl c2 ?_ | (refine VF rfl rfl ?_;simp only [Bool.false_eq_true,if_false,e3]) | refine Xd rfl ?_ | refine Qo rfl ?_ | refine QC rfl rfl ?_ | refine Xt rfl rfl ?_))
  exact ⟨.inr rfl,e1.trans e2,rfl⟩
