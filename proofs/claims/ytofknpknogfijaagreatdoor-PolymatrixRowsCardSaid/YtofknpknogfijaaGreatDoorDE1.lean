/- The contract of interpolated. -/
import Derived.Test.YtofknpknogfijaaGreatDoorIN2
import Derived.Test.YtofknpknogfijaaGreatDoorAb50
import Derived.Test.YtofknpknogfijaaGreatDoorC3
import Derived.Test.YtofknpknogfijaaGreatDoorPE
import Derived.Test.YtofknpknogfijaaGreatDoorPZ
namespace Go.Proofs.YtofknpknogfijaaGreatDoor
open Go.Ab
set_option linter.all false
set_option maxHeartbeats 16000000
set_option maxRecDepth 20000
attribute [local irreducible] Ql wA Xr Xp QA Qp QW QY
variable [HB]
theorem cop12:Nat.Coprime p1 p2:=by decide +kernel
theorem Qld {a b:Int} (h1:Cg p1 a b) (h2:Cg p2 a b):Cg (p1*p2) a b:=by
 unfold Cg at *
 have k1:p1 ∣ (a-b).natAbs:=by have:=Int.natAbs_dvd_natAbs.2 h1;simpa using this
 have k2:p2 ∣ (a-b).natAbs:=by have:=Int.natAbs_dvd_natAbs.2 h2;simpa using this
 have k3:p1*p2 ∣ (a-b).natAbs:=Nat.Coprime.mul_dvd_of_dvd_of_dvd cop12 k1 k2
 exact Int.natAbs_dvd_natAbs.1 (by rw [Int.natAbs_natCast];exact k3)
def cnt (T:Nat):Nat:=(max T 50+1) / 60+1
theorem Qg4 {T:Nat} (h:T≤118):1≤cnt T∧cnt T≤2:=by unfold cnt;omega
theorem uniq {T:Nat} (hT:T≤118) {z d:Int} (hz:z.natAbs≤cM) (hd:d.natAbs≤2 ^ T) (h:∀ x∈Yt (cnt T),Cg x.1 z d):z=d:=by
 have hc:=Qg4 hT
 have hcM:cM=1125899906842624:=rfl
 by_cases h1:cnt T=1
 ·have hT58:T≤58:=by unfold cnt at h1;omega
  have hp:(2:Nat) ^ T≤2 ^ 58:=GM (by decide) hT58
  have e58:(2:Nat) ^ 58=288230376151711744:=by decide
  have e1:p1=2305843009211596801:=rfl
  have:=h (p1,r1) (by unfold Yt;rw [if_pos h1];simp)
  exact Cg.eq this (by simp only;omega)
 ·have hp:(2:Nat) ^ T≤2 ^ 118:=GM (by decide) hT
  have e118:(2:Nat) ^ 118=332306998946228968225951765070086144:=by decide
  have e12:p1*p2=5316911983126365312211161035202625537:=by decide
  have k1:=h (p1,r1) (by unfold Yt;rw [if_neg h1];simp)
  have k2:=h (p2,r2) (by unfold Yt;rw [if_neg h1];simp)
  exact Cg.eq (Qld k1 k2) (by rw [e12];omega)
theorem Qmp (n deg b:Nat) (d:Nat→Int) (h0:Qa) (esl:SV) (es:List (List (List Tm))) (hdeg:deg≤65536) (hn:n≤1000) (hb:b≤60∧b*n≤118) (ee:Ents h0 esl es) (he:es.length=n)
  (tok:∀ r∈es,r.length=n∧∀ l∈r,l.length≤1000000∧∀ m∈l,0≤m.1∧m.1≤100000∧m.2.natAbs≤cM) (hw:∀ r∈es,0 < XP r∧XP r < 2 ^ b)
  (hD:∀ x:Int,D (es.map (evR x)) (List.range' 0 n)=sm (deg+1) fun j=>d j*x ^ j) (hdb:∀ j,(d j).natAbs≤(es.map XP).foldr (·*·) 1) :
  ∃ r h',Cal FT HKt 77 [.sc esl,.sc (.int .i64 (deg:Nat))] h0 r h'∧Ext h0 h' ∧
   ((∃ s,r=.tup [.sc s,.sc (.bool true)]∧IsInts h' s ((List.range (deg+1)).map d)∧∀ j,j≤deg→(d j).natAbs≤cM)∨(r=.tup [.sc .nilS,.sc (.bool false)]∧∃ j,j≤deg∧cM < (d j).natAbs)):=by
 refine Cal.of (F:=a77) rfl rfl rfl ?_
 have k107:=fun H (e:Ext h0 H)=>QjP b es esl H hb.1 (by omega) (fun r hr=>⟨by have:=(tok r hr).1;omega,fun l hl=>((tok r hr).2 l hl).1,hw r hr⟩) (ee.ext e)
 repeat' (first | refine Qg ?_ | refine Qb ?_ | refine Qv ?_ | refine Qf ?_ | ((refine Qe ?_);first | refine QE rfl rfl ?_ | refine Qu rfl rfl rfl ?_ | refine QG rfl rfl rfl rfl ?_ | refine QT rfl rfl rfl rfl rfl rfl ?_) | ((refine Qc ?_);first | (refine Qi rfl (k107 _ (Ext.refl _)) ?_;rintro v h1 ⟨e1,T,rfl,wt⟩;have hT:T≤118:=Gn wt.2 (by rw [he];exact hb.2);have hc:=Qg4 hT;have ec:(max (T:Int) 50+1) / 60+1=((cnt T:Nat):Int):=(by unfold cnt;omega)) | (refine Qi rfl (Qmk _ (cnt T) hc) ?_;rintro v h2 ⟨e2,fs,rfl,ofs⟩;have lf:=OwnD.len' ofs) | (refine VC rfl rfl (by omega) ?_) | (refine QK rfl rfl (by omega) ?_;rw [ec]) | refine Qs rfl lf ?_ | refine Qo rfl ?_ | refine QK rfl rfl (by omega) ?_ | refine VE rfl rfl ?_))
 refine Q9 (I77 (cnt T) (deg+1) d esl fs h2) (Yt (cnt T)).length (R77 (cnt T) (deg+1) d h2) ⟨0,.nilS,Gs _,rfl,Ext.refl _,.inl ⟨rfl,rfl⟩,rfl⟩
  (QiP (cnt T) (deg+1) n d esl fs es h2 (by omega) (by omega) (ee.ext (e1.trans e2)) he tok hD ofs.is) ?_
 rintro ex E' h3 ⟨x3,⟨rfl,cs,st,_,_,_,_,_,rfl⟩ | ⟨rfl,⟨j,hj,hlt⟩,rfl⟩⟩
 ·rcases st with ⟨h0',-⟩ | ⟨-,cid,zs,rfl,bz,hzl,hzc,hzg⟩
  ·exfalso
   have:(Yt (cnt T)).length≠0:=by unfold Yt;split <;> simp
   exact this h0'
  have key:∀ j,j < deg+1→zs.getD j 0=d j:=fun j hj=>by
   refine uniq hT ?_ (Gn (hdb j) wt.1) fun x hx=>?_
   ·rw [Ge,Ga (by omega)];exact hzc _ (GD _)
   ·obtain ⟨m,hm⟩:=Hp.1 hx
    exact hzg m x (Gb.1 hm).1 hm j hj
  have ezs:zs=(List.range (deg+1)).map d:=by
   apply Gr
   intro j
   rw [Gi]
   rcases Gw j (deg+1) with h | h
   ·rw [Gq h,Gl,← key j h,Ge,Ga (by omega)];rfl
   ·rw [Gp (by omega),Gp (by simpa using h)];rfl
  have ic:IsInts h3 (.slc cid 0 (deg+1) (some (deg+1))) zs:=by have:=bz.ints (c:=some (deg+1));rwa [hzl] at this
  repeat' (first | refine Qg ?_ | refine Qb ?_ | refine QP ?_ | refine Qt ?_ | refine Qf ?_ | ((refine Qe ?_);refine QE rfl rfl ?_) | ((refine Qc ?_);refine Qo rfl ?_))
  refine ⟨.inr rfl,(e1.trans e2).trans x3,.inl ⟨_,rfl,by rw [← ezs];exact ic,fun j hj=>?_⟩⟩
  rw [← key j (by omega),Ge,Ga (by omega)]
  exact hzc _ (GD _)
 ·repeat' (first | refine QD ?_ | refine Xs ?_)
  exact ⟨.inr rfl,(e1.trans e2).trans x3,.inr ⟨rfl,j,by omega,hlt⟩⟩
def Zn (ts:List Tm) (e:Int):List Tm:=ts.filter fun t=>decide (t.1 < e)
theorem Qe6 {ts:List Tm} {e:Int} (h:∀ t∈ts,t.1 < e):Zn ts e=ts:=List.filter_eq_self.2 fun t ht=>by simpa using h t ht
theorem QcF {ts:List Tm} {e:Int} (h:∀ t∈ts,e≤t.1):Zn ts e=[]:=List.filter_eq_nil_iff.2 fun t ht=>by simpa using h t ht
theorem QcE {ts:List Tm} {e:Int} (h:∀ t∈ts,t.1≠e):Zn ts (e+1)=Zn ts e:=List.filter_congr fun t ht=>by
 have:=h t ht
 simp only [decide_eq_decide];omega
theorem UY:∀ {ts:List Tm} {t:Tm},ts.Pairwise (fun x y=>x.1 < y.1)→t∈ts→Zn ts (t.1+1)=Zn ts t.1++[t]
 | u::r,t,h,ht=>by
  obtain ⟨h1,h2⟩:=List.pairwise_cons.1 h
  rcases GN.1 ht with rfl | ht
  ·unfold Zn
   rw [List.filter_cons_of_pos (by simp;omega),List.filter_cons_of_neg (by simp)]
   have e1:r.filter (fun t_1=>decide (t_1.1 < t.1+1))=[]:=List.filter_eq_nil_iff.2 fun y hy=>by have:=h1 y hy;simp;omega
   have e2:r.filter (fun t_1=>decide (t_1.1 < t.1))=[]:=List.filter_eq_nil_iff.2 fun y hy=>by have:=h1 y hy;simp;omega
   rw [e1,e2];rfl
  ·have:=h1 t ht
   have ih:=UY h2 ht
   unfold Zn at ih ⊢
   rw [List.filter_cons_of_pos (by simp;omega),List.filter_cons_of_pos (by simp;omega),ih];rfl
def shL (low:Int) (l:List Tm):List Tm:=l.map fun t=>(t.1-low,t.2)
def I65 (q2:Nat) (low:Int) (ts:List Tm) (hb:Qa) (m:Nat) (E:Env) (h:Qa):Prop:=∃ (e:Int) (s:SV),lo0 ts≤e∧e≤hi0 ts+1∧m=(hi0 ts+1-e).toNat∧Ext hb h∧OwnD hb h s (tms (shL low (Zn ts e))) ∧
 E.keep [1,2,5,6]=[(1,some (.sc (.int .i64 low))),(2,some (.sc (.ptr q2 0))),(5,some (.sc s)),(6,some (.sc (.int .i64 e)))]
def R65 (low:Int) (ts:List Tm) (hb:Qa) (ex:Ex) (E:Env) (h:Qa):Prop:=ex=.ex 0∧Ext hb h∧∃ s,OwnD hb h s (tms (shL low ts))∧∃ a b c d,E=[(1,a),(2,b),(5,some (.sc s)),(6,c),(13,d)]
theorem Qe5 {ts:List Tm} {e:Int}:(Zn ts e).length≤ts.length:=List.length_filter_le _ _
theorem QiR (q2:Nat) (low:Int) (b:Bool) (sp:SV) (ts:List Tm) (hb:Qa) (hlow:low.natAbs≤10000000) (c2:Cel hb q2 (.bool b) sp) (dp:IsD hb sp (tms ts)) (ca:Can ts) (hl:ts.length≤100000) (he:∀ t∈ts,t.1.natAbs≤10000000) (hlh:lo0 ts≤hi0 ts+1∧(lo0 ts).natAbs≤10000000∧(hi0 ts).natAbs≤10000000) (m:Nat) (E:Env) (h:Qa) (hI:I65 q2 low ts hb m E h) :
  wA FT HKt Qkx (E.keep [1,2,5,6]) h (Qp (I65 q2 low ts hb) m (R65 low ts hb)):=by
 obtain ⟨e,s,he1,he2,rfl,x,o,hE⟩:=hI
 rw [hE]
 have k54:=fun H (y:Ext hb H)=>za H b sp ts (dp.ext y) (by omega)
 have k62:=fun H (y:Ext hb H)=>Qmr H b sp ts e (dp.ext y) ca (by omega)
 have c2h:=fun H (y:Ext hb H)=>c2.ext y
 by_cases hlt:e≤hi0 ts
 ·by_cases hz:cf ts e=0
  ·have sk:Zn ts (e+1)=Zn ts e:=QcE fun t ht heq=>by
    have:=Z2 ca ht
    rw [heq,hz] at this
    exact ca.nz t ht this.symm
   rw [hz] at k62
   have x0:=x
   repeat' (first | refine Qg ?_ | refine Qb ?_ | refine Qv ?_ | refine QJ ?_ | refine Qn ?_ | refine Qf ?_ | ((refine Qh ?_);first | refine Qj rfl ?_ | refine Qk rfl ?_) | ((refine Qe ?_);first | refine QG rfl rfl rfl rfl ?_ | refine QU rfl rfl rfl rfl rfl ?_ | refine QT rfl rfl rfl rfl rfl rfl ?_) | ((refine Qc ?_);first | refine QI rfl (c2h _ x0) ?_ | (refine Qi rfl (k54 _ x0) ?_;rintro v h1 ⟨e1,rfl⟩;replace x0:=x0.trans e1;replace o:=o.ext e1) | (refine Qi rfl (k62 _ x0) ?_;rintro v h2 ⟨e2,rfl⟩;replace x0:=x0.trans e2;replace o:=o.ext e2) | refine Qo rfl ?_ | refine QK rfl rfl (by omega) ?_ | refine qB rfl rfl (by omega) ?_ | refine XS rfl rfl (by omega) ?_))
   exact QB (j:=(hi0 ts+1-(e+1)).toNat) (by omega) ⟨e+1,s,by omega,by omega,rfl,x0,by rw [sk];exact o,rfl⟩
  ·obtain ⟨t,ht,hte⟩:=Qg6 hz
   have hcf:=Z2 ca ht
   rw [hte] at hcf
   have st:=UY ca.asc ht
   rw [hte] at st
   have nx:tms (shL low (Zn ts e))++[(SV.int .i64 (e-low),SV.int .i64 (cf ts e))]=tms (shL low (Zn ts (e+1))):=by
    rw [st,hcf]
    simp [shL,tmP,hte]
   have lb:=Qe5 (ts:=ts) (e:=e)
   have ll:(tms (shL low (Zn ts e))).length≤100000:=by rw [Q6];unfold shL;rw [Gt];omega
   generalize cf ts e=v0 at *
   have x0:=x
   repeat' (first | refine Qg ?_ | refine Qb ?_ | refine Qv ?_ | refine QJ ?_ | refine Qn ?_ | refine Qf ?_ | ((refine Qh ?_);refine Qj rfl ?_) | ((refine Qe ?_);first | refine QG rfl rfl rfl rfl ?_ | refine QU rfl rfl rfl rfl rfl ?_ | refine QT rfl rfl rfl rfl rfl rfl ?_) | ((refine Qc ?_);first | refine QI rfl (c2h _ x0) ?_ | (refine Qi rfl (k54 _ x0) ?_;rintro v h1 ⟨e1,rfl⟩;replace x0:=x0.trans e1;replace o:=o.ext e1) | (refine Qi rfl (k62 _ x0) ?_;rintro v h2 ⟨e2,rfl⟩;replace x0:=x0.trans e2;replace o:=o.ext e2) | refine Yg rfl rfl (by omega) ?_ | refine XE rfl rfl ?_ | (refine Qcq rfl ?_;intro h4 x4 s4) | (refine QdC (x0.trans x4) (o.ext x4) rfl rfl s4 (by unfold Yu;omega) ?_;intro s5 h5 o5 x5 fr5 l5) | refine Qo rfl ?_ | refine QK rfl rfl (by omega) ?_ | refine Z8 rfl rfl (by omega) ?_ | refine qB rfl rfl (by omega) ?_))
   exact QB (j:=(hi0 ts+1-(e+1)).toNat) (by omega) ⟨e+1,s5,by omega,by omega,rfl,x5,by rw [← nx];exact o5,rfl⟩
 ·have:e=hi0 ts+1:=by omega
  subst this
  have x0:=x
  repeat' (first | refine Qg ?_ | refine Qb ?_ | refine Q0 ?_ | refine QX ?_ | refine Qf ?_ | ((refine Qh ?_);refine Qk rfl ?_) | ((refine Qe ?_);refine QU rfl rfl rfl rfl rfl ?_) | ((refine Qc ?_);first | refine QI rfl (c2h _ x0) ?_ | (refine Qi rfl (k54 _ x0) ?_;rintro v h1 ⟨e1,rfl⟩;replace x0:=x0.trans e1;replace o:=o.ext e1) | refine Qo rfl ?_ | refine JS rfl rfl (by omega) ?_))
  rw [Qe6 fun t ht=>by have:=yZ ca t ht;omega] at o
  exact QN ⟨rfl,x0,s,o,_,_,_,_,rfl⟩
theorem OwnD.older {h0 hb h:Qa} {s:SV} {ps:List P2} (o:OwnD hb h s ps) (x:Ext h0 hb):OwnD h0 h s ps:=by
 rcases o with o | ⟨id,cap,bl,h1,h2,h3⟩
 ·exact .inl o
 ·exact .inr ⟨id,cap,bl,h1,Gn x.len h2,h3⟩
theorem lo_hi {ts:List Tm} (ca:Can ts):lo0 ts≤hi0 ts:=by
 by_cases h:ts=[]
 ·subst h;exact Int.le_refl _
 ·obtain ⟨t,ht,e⟩:=yk h
  rw [← e];exact yZ ca t ht
theorem Qmq (h0:Qa) (b:Bool) (sp:SV) (ts:List Tm) (low:Int) (hlow:low.natAbs≤10000000) (dp:IsD h0 sp (tms ts)) (ca:Can ts) (hl:ts.length≤100000) (he:∀ t∈ts,t.1.natAbs≤10000000) :
  ∃ r h',Cal FT HKt 65 [.agg [.bool b,sp],.sc (.int .i64 low)] h0 r h'∧Ext h0 h'∧∃ s,r=.sc s∧OwnD h0 h' s (tms (shL low ts)):=by
 refine Cal.of (F:=a65) rfl rfl rfl ?_
 have k53:=fun H (y:Ext h0 H)=>zb H b sp ts (dp.ext y)
 have hlh:lo0 ts≤hi0 ts+1∧(lo0 ts).natAbs≤10000000∧(hi0 ts).natAbs≤10000000:=by
  have:=lo_hi ca
  by_cases h:ts=[]
  ·subst h;simp [lo0,hi0]
  ·obtain ⟨t,ht,e⟩:=yk h
   obtain ⟨u,hu,e2⟩:=yp h
   have:=he t ht
   have:=he u hu
   omega
 repeat' (first | refine Qg ?_ | refine Qb ?_ | refine Qv ?_ | refine Qf ?_ | ((refine Qe ?_);first | refine QE rfl rfl ?_ | refine Qu rfl rfl rfl ?_ | refine QG rfl rfl rfl rfl ?_) | ((refine Qc ?_);first | (refine Qx rfl ?_;intro h1 e1 c1) | refine QI rfl c1 ?_ | (refine Qi rfl (k53 _ e1) ?_;rintro v h2 ⟨e2,rfl⟩) | refine Qo rfl ?_))
 have e0:Zn ts (lo0 ts)=[]:=QcF fun t ht=>UF ca t ht
 refine Q9 (I65 h0.length low ts h2) (hi0 ts+1-lo0 ts).toNat (R65 low ts h2) ⟨lo0 ts,.nilS,Int.le_refl _,hlh.1,rfl,Ext.refl _,by rw [e0];exact .inl ⟨rfl,rfl⟩,rfl⟩
  (QiR h0.length low b sp ts h2 hlow (c1.ext e2) ((dp.ext e1).ext e2) ca hl he hlh) ?_
 rintro ex E' h3 ⟨rfl,x3,s3,o3,_,_,_,_,rfl⟩
 repeat' (first | refine Qg ?_ | refine Qb ?_ | refine QP ?_ | refine Qt ?_ | refine Qf ?_ | ((refine Qe ?_);refine Qq rfl ?_) | ((refine Qc ?_);refine Qo rfl ?_))
 exact ⟨.inr rfl,(e1.trans e2).trans x3,s3,rfl,OwnD.older o3 (e1.trans e2)⟩
def PolRow (h:Qa) (s:SV) (ps:List Pol):Prop:=∃ ss:List SV,ss.length=ps.length∧IsD h s (List.zipWith (fun (p:Pol) t=>(SV.bool p.big,t)) ps ss)∧∀ (i:Nat) (p:Pol) (t:SV),ps[i]?=some p→ss[i]?=some t→IsD h t (tms p.ts)
def PolMx (h:Qa) (s:SV) (m:List (List Pol)):Prop:=∃ ss:List SV,ss.length=m.length∧IsSl h s 1 ss.length ss∧∀ (i:Nat) (t:SV) (r:List Pol),ss[i]?=some t→m[i]?=some r→PolRow h t r
theorem PolRow.ext {h h':Qa} {s:SV} {r:List Pol} (e:PolRow h s r) (x:Ext h h'):PolRow h' s r:=by
 obtain ⟨ss,h1,h2,h3⟩:=e
 exact ⟨ss,h1,h2.ext x,fun i t l a b=>(h3 i t l a b).ext x⟩
theorem PolMx.ext {h h':Qa} {s:SV} {m:List (List Pol)} (e:PolMx h s m) (x:Ext h h'):PolMx h' s m:=by
 obtain ⟨ss,h1,h2,h3⟩:=e
 exact ⟨ss,h1,h2.ext x,fun i t l a b=>(h3 i t l a b).ext x⟩
theorem PolRow.len {h:Qa} {s:SV} {r:List Pol} (e:PolRow h s r):Yi false s=some (r.length:Int):=by
 obtain ⟨ss,h1,h2,-⟩:=e
 have:=h2.len
 rwa [Hv,h1,Nat.min_self] at this
theorem PolMx.len {h:Qa} {s:SV} {m:List (List Pol)} (e:PolMx h s m):Yi false s=some (m.length:Int):=by
 obtain ⟨ss,h1,h2,-⟩:=e
 rw [← h1];exact IsSl.len h2
theorem PolRow.at {h:Qa} {s:SV} {r:List Pol} (e:PolRow h s r) {i:Nat} {p:Pol} (hi:r[i]?=some p):∃ id off cap t,s=.slc id off r.length cap∧QZ h id (off+i*2) 2=some [.bool p.big,t]∧IsD h t (tms p.ts):=by
 obtain ⟨ss,h1,h2,h3⟩:=e
 have hl:=(Gb.1 hi).1
 obtain ⟨t,ht⟩:∃ t,ss[i]?=some t:=⟨_,Ga (by omega)⟩
 obtain ⟨id,off,cap,e1,rd⟩:=h2.at (i:=i) (p:=(SV.bool p.big,t)) (by rw [List.getElem?_zipWith,hi,ht])
 rw [Hv,h1,Nat.min_self] at e1
 exact ⟨id,off,cap,t,e1,rd,h3 i p t hi ht⟩
theorem PolMx.at {h:Qa} {s:SV} {m:List (List Pol)} (e:PolMx h s m) {i:Nat} {r:List Pol} (hi:m[i]?=some r):∃ id off cap t,s=.slc id off m.length cap∧QZ h id (off+i*1) 1=some [t]∧PolRow h t r:=by
 obtain ⟨ss,h1,h2,h3⟩:=e
 have hl:=(Gb.1 hi).1
 obtain ⟨t,ht⟩:∃ t,ss[i]?=some t:=⟨_,Ga (by omega)⟩
 obtain ⟨id,off,cap,e1,rd⟩:=h2.at ht
 rw [h1] at e1
 exact ⟨id,off,cap,t,e1,rd,h3 i t r ht hi⟩
def yK (st:Option (Int × Int)) (p:Pol):Option (Int × Int):=if p.ts=[] then st else match st with
 | none=>some (lo0 p.ts,hi0 p.ts)
 | some (a,b)=>some (min a (lo0 p.ts),max b (hi0 p.ts))
def YT (r:List Pol):Option (Int × Int):=r.foldl yK none
def QjU:Option (Int × Int)→Int
 | none=>0
 | some x=>x.1
def QjT:Option (Int × Int)→Int
 | none=>0
 | some x=>x.2
theorem Qe4 {r:List Pol} {i:Nat} {p:Pol} (h:r[i]?=some p):YT (r.take (i+1))=yK (YT (r.take i)) p:=by
 unfold YT
 rw [GF,h,List.foldl_append];rfl
def I40b (r:List Pol) (rs:SV) (a0 a2 a4 a5 a6 a7 a24 a25 a26:AV) (hb:Qa) (m:Nat) (E:Env) (h:Qa):Prop:=∃ i,i≤r.length∧m=r.length-i∧Ext hb h ∧
 E.keep [0,2,4,5,6,7,8,9,10,11,24,25,26,31,32,33]=[(0,some a0),(2,some a2),(4,some a4),(5,some a5),(6,some a6),(7,some a7),(8,some (.sc rs)),(9,some (.sc (.int .i64 (QjU (YT (r.take i)))))),(10,some (.sc (.int .i64 (QjT (YT (r.take i)))))),(11,some (.sc (.bool (YT (r.take i)).isSome))),(24,some a24),(25,some a25),(26,some a26),(31,some (.sc rs)),(32,some (.sc (.int .i64 (r.length:Nat)))),(33,some (.sc (.int .i64 (i:Nat))))]
def R40b (r:List Pol) (rs:SV) (a0 a2 a4 a5 a6 a7 a24 a25 a26:AV) (hb:Qa) (ex:Ex) (E:Env) (h:Qa):Prop:=ex=.ex 2∧Ext hb h ∧
 ∃ a b c d,E=[(0,some a0),(2,some a2),(4,some a4),(5,some a5),(6,some a6),(7,some a7),(8,some (.sc rs)),(9,some (.sc (.int .i64 (QjU (YT r))))),(10,some (.sc (.int .i64 (QjT (YT r))))),(11,some (.sc (.bool (YT r).isSome))),(24,some a24),(25,some a25),(26,some a26),(31,a),(32,b),(33,c),(34,d)]
theorem QfK (r:List Pol) (rs:SV) (a0 a2 a4 a5 a6 a7 a24 a25 a26:AV) (hb:Qa) (pr:PolRow hb rs r) (hl:r.length≤1000000) (ok:∀ p∈r,p.big=false∧p.ts.length≤100000) (m:Nat) (E:Env) (h:Qa) (hI:I40b r rs a0 a2 a4 a5 a6 a7 a24 a25 a26 hb m E h) :
  wA FT HKt QkC (E.keep [0,2,4,5,6,7,8,9,10,11,24,25,26,31,32,33]) h (Qp (I40b r rs a0 a2 a4 a5 a6 a7 a24 a25 a26 hb) m (R40b r rs a0 a2 a4 a5 a6 a7 a24 a25 a26 hb)):=by
 obtain ⟨i,hi,rfl,x,hE⟩:=hI
 rw [hE]
 by_cases hlt:i < r.length
 ·obtain ⟨p,hp⟩:∃ p,r[i]?=some p:=⟨_,Ga hlt⟩
  obtain ⟨id,off,cap,t,es,rd,dt⟩:=pr.at hp
  subst es
  obtain ⟨hbig,hlen⟩:=ok p (Gh hp)
  rw [hbig] at rd
  have rd0:=QH x rd
  have st:=Qe4 hp
  have k14:=fun H (y:Ext hb H)=>Qhg H false t p.ts (dt.ext y)
  have k53:=fun H (y:Ext hb H)=>zb H false t p.ts (dt.ext y)
  have k54:=fun H (y:Ext hb H)=>za H false t p.ts (dt.ext y) (by omega)
  have x0:=x
  by_cases hz:p.ts=[]
  ·have st2:YT (r.take (i+1))=YT (r.take i):=by rw [st];unfold yK;rw [if_pos hz]
   simp only [hz,decide_true,Bool.not_false,Bool.and_true] at k14
   generalize YT (r.take i)=B at *
   repeat' (first | refine Qg ?_ | refine Qb ?_ | refine Qv ?_ | refine QJ ?_ | refine Qn ?_ | refine Qf ?_ | ((refine Qh ?_);refine Qj rfl ?_) | ((refine Qe ?_);first | refine ZH rfl rfl rfl rfl rfl rfl rfl rfl rfl rfl rfl rfl rfl rfl rfl rfl ?_ | refine Jg rfl rfl rfl rfl rfl rfl rfl rfl rfl rfl rfl rfl rfl rfl rfl rfl rfl ?_ | refine ZG rfl rfl rfl rfl rfl rfl rfl rfl rfl rfl rfl rfl rfl rfl rfl rfl rfl rfl ?_) | ((refine Qc ?_);first | refine Qw (esz:=2) rfl rfl (by omega) ?_ | refine XX rfl rd0 ?_ | (refine qq rfl ?_;intro h1 e1 c13;replace x0:=x0.trans e1) | refine QI rfl c13 ?_ | (refine Qi rfl (k14 _ x0) ?_;rintro v h2 ⟨e2,rfl⟩;replace x0:=x0.trans e2) | refine Qo rfl ?_ | refine QK rfl rfl (by omega) ?_ | refine Qy rfl rfl (by omega) ?_))
   exact QB (j:=r.length-(i+1)) (by omega) ⟨i+1,by omega,rfl,x0,by rw [st2];rfl⟩
  ·simp only [hz,decide_false,Bool.and_false] at k14
   cases hB:YT (r.take i) with
   | none =>
    have st2:YT (r.take (i+1))=some (lo0 p.ts,hi0 p.ts):=by rw [st,hB];unfold yK;rw [if_neg hz]
    have c13':=True.intro
    repeat' (first | refine Qg ?_ | refine Qb ?_ | refine Qv ?_ | refine QJ ?_ | refine Qn ?_ | refine Qf ?_ | refine Q2 ?_ | refine Xk ?_ | refine Xl ?_ | ((refine Qh ?_);first | refine Qj rfl ?_ | refine Qk rfl ?_) | ((refine Qe ?_);first | refine Q1 ?_ | refine Xw ?_ | refine XZ (by assumption) ?_ | refine ZH rfl rfl rfl rfl rfl rfl rfl rfl rfl rfl rfl rfl rfl rfl rfl rfl ?_ | refine Jg rfl rfl rfl rfl rfl rfl rfl rfl rfl rfl rfl rfl rfl rfl rfl rfl rfl ?_ | refine ZG rfl rfl rfl rfl rfl rfl rfl rfl rfl rfl rfl rfl rfl rfl rfl rfl rfl rfl ?_) | ((refine Qc ?_);first | refine Qw (esz:=2) rfl rfl (by omega) ?_ | refine XX rfl rd0 ?_ | (refine qq rfl ?_;intro h1 e1 c13;replace x0:=x0.trans e1) | refine QI rfl c13 ?_ | (refine Qi rfl (k14 _ x0) ?_;rintro v h2 ⟨e2,rfl⟩;replace x0:=x0.trans e2;replace c13:=c13.ext e2) | (refine Qi rfl (k53 _ x0) ?_;rintro v h2 ⟨e2,rfl⟩;replace x0:=x0.trans e2;replace c13:=c13.ext e2) | (refine Qi rfl (k54 _ x0) ?_;rintro v h2 ⟨e2,rfl⟩;replace x0:=x0.trans e2;replace c13:=c13.ext e2) | refine Qo rfl ?_ | refine Yw rfl ?_ | refine QK rfl rfl (by omega) ?_ | refine Qy rfl rfl (by omega) ?_))
    exact QB (j:=r.length-(i+1)) (by omega) ⟨i+1,by omega,rfl,x0,by rw [st2];rfl⟩
   | some B =>
    obtain ⟨a,b⟩:=B
    have st2:YT (r.take (i+1))=some (min a (lo0 p.ts),max b (hi0 p.ts)):=by rw [st,hB];unfold yK;rw [if_neg hz]
    repeat' (first | refine Qg ?_ | refine Qb ?_ | refine Qv ?_ | refine QJ ?_ | refine Qn ?_ | refine Qf ?_ | refine Q2 ?_ | refine Xk ?_ | refine Xl ?_ | ((refine Qh ?_);first | refine Qj rfl ?_ | refine Qk rfl ?_) | ((refine Qe ?_);first | refine Q1 ?_ | refine Xw ?_ | refine XZ (by assumption) ?_ | refine ZH rfl rfl rfl rfl rfl rfl rfl rfl rfl rfl rfl rfl rfl rfl rfl rfl ?_ | refine Jg rfl rfl rfl rfl rfl rfl rfl rfl rfl rfl rfl rfl rfl rfl rfl rfl rfl ?_ | refine ZG rfl rfl rfl rfl rfl rfl rfl rfl rfl rfl rfl rfl rfl rfl rfl rfl rfl rfl ?_) | ((refine Qc ?_);first | refine Qw (esz:=2) rfl rfl (by omega) ?_ | refine XX rfl rd0 ?_ | (refine qq rfl ?_;intro h1 e1 c13;replace x0:=x0.trans e1) | refine QI rfl c13 ?_ | (refine Qi rfl (k14 _ x0) ?_;rintro v h2 ⟨e2,rfl⟩;replace x0:=x0.trans e2;replace c13:=c13.ext e2) | (refine Qi rfl (k53 _ x0) ?_;rintro v h2 ⟨e2,rfl⟩;replace x0:=x0.trans e2;replace c13:=c13.ext e2) | (refine Qi rfl (k54 _ x0) ?_;rintro v h2 ⟨e2,rfl⟩;replace x0:=x0.trans e2;replace c13:=c13.ext e2) | refine Qo rfl ?_ | refine XR rfl ?_ | refine QK rfl rfl (by omega) ?_ | refine VE rfl rfl ?_ | refine Qbz rfl rfl ?_ | refine Qy rfl rfl (by omega) ?_))
    exact QB (j:=r.length-(i+1)) (by omega) ⟨i+1,by omega,rfl,x0,by rw [st2];rfl⟩
 ·have:i=r.length:=by omega
  subst this
  repeat' (first | refine Qg ?_ | refine Qb ?_ | refine Q0 ?_ | refine QX ?_ | refine Qf ?_ | ((refine Qh ?_);refine Qk rfl ?_) | ((refine Qe ?_);refine Jg rfl rfl rfl rfl rfl rfl rfl rfl rfl rfl rfl rfl rfl rfl rfl rfl rfl ?_) | ((refine Qc ?_);refine QM rfl rfl (by omega) ?_))
  rw [Gx]
  exact QN ⟨rfl,x,_,_,_,_,rfl⟩
