/- The products of the terms: contracts. -/
import Derived.Test.YtofknpknogfijaaGreatDoorPE
import Derived.Test.YtofknpknogfijaaGreatDoorPM
import Derived.Test.YtofknpknogfijaaGreatDoorAb41
namespace Go.Proofs.YtofknpknogfijaaGreatDoor
open Go.Ab
set_option linter.all false
set_option maxHeartbeats 16000000
set_option maxRecDepth 20000
attribute [local irreducible] Ql wA Xr Xp QA Qp QW QY
variable [HB]
def wdP (v:Int):P2:=(.int .u64 (v / 18446744073709551616%18446744073709551616),.int .u64 (v%18446744073709551616))
theorem Qd5 (v:Int):wd v=[(wdP v).1,(wdP v).2]:=rfl
def Cel1 (h:Qa) (q:Nat) (a:SV):Prop:=h[q]?=some (.cells [a] true 0)
theorem Cel1.at {h:Qa} {q:Nat} {a:SV} (c:Cel1 h q a):Blk.At h q [a]:=⟨true,0,c⟩
theorem Cel1.ext {h h':Qa} {q:Nat} {a:SV} (c:Cel1 h q a) (he:Ext h h'):Cel1 h' q a:=he.get _ _ c
theorem Cel1.fram {h h':Qa} {q:Nat} {a s s':SV} (c:Cel1 h q a) (hf:Fram h h' s s') (hn:X1 s q):Cel1 h' q a:=(hf _ _ c hn).1
theorem Qmt (h0 h:Qa) (he:Ext h0 h) (q7 q5:Nat) (S:SV) (lo ex w:Int) (vs:List Int) (ho:OwnD h0 h S (vs.map wdP)) (b7:Cel1 h q7 S) (b5:Cel1 h q5 (.int .i64 lo)) (hk:0≤ex-lo∧ex-lo < vs.length) (hlen:vs.length≤10000000) :
  ∃ r h',Cal FT HKt 57 [.sc (.int .i64 ex),.agg (wd w),.sc (.ptr q7 0),.sc (.ptr q5 0)] h r h'∧Ext h0 h'∧OwnD h0 h' S ((vs.set (ex-lo).toNat (vs.getD (ex-lo).toNat 0+w)).map wdP)∧Fram h h' S S:=by
 refine Cal.of (F:=a57) rfl rfl rfl ?_
 have hkl:(ex-lo).toNat < vs.length:=by omega
 obtain ⟨v,hv⟩:∃ v,vs[(ex-lo).toNat]?=some v:=⟨_,Ga hkl⟩
 have hv2:vs.getD (ex-lo).toNat 0=v:=by rw [Ge,hv];rfl
 rw [hv2]
 obtain ⟨id,cap,hS,hr⟩:=ho.rd (i:=(ex-lo).toNat) (p:=wdP v) (by simp [hv])
 have k40:=fun H=>Qhd H v w
 have hwr:=fun H (e:Ext h0 H) (o:OwnD h0 H S (vs.map wdP))=>OwnD.wr e o (i:=(ex-lo).toNat) (by simp;exact hkl) (wdP (v+w)).1 (wdP (v+w)).2
 rw [Gt] at hS hwr
 have fin:∀ (H h2:Qa),OwnD h0 h2 S ((vs.map wdP).set (ex-lo).toNat ((wdP (v+w)).1,(wdP (v+w)).2))→OwnD h0 h2 S ((vs.set (ex-lo).toNat (v+w)).map wdP):=fun _ _ o=>by rw [List.map_set];exact o
 subst hS
 simp only [Qd5] at k40 ⊢
 repeat' (first | refine Qg ?_ | refine Qb ?_ | refine Qf ?_ | refine Q2 ?_ | refine Xk ?_ | refine Xl ?_ | ((refine Qe ?_);first | refine Q1 ?_ | refine Xw ?_ | refine XZ (by assumption) ?_ | refine QG rfl rfl rfl rfl ?_) | ((refine Qc ?_);first | (refine Qx rfl ?_;intro h1 e1 c1;have d7:=b7.ext e1;have d5:=b5.ext e1;have r1:=QH e1 hr) | refine Xu rfl d7.at rfl ?_ | refine Xu rfl d5.at rfl ?_ | (refine Z8 rfl rfl (by omega) ?_) | refine Qw (esz:=2) rfl rfl (by omega) ?_ | refine XX rfl r1 ?_ | refine QI rfl c1 ?_ | (refine Qi rfl (k40 _) ?_;rintro r h2 ⟨e2,rfl⟩;obtain ⟨id2,cap2,h3,e3,w3,o3,x3,f3,l3⟩:=hwr h2 (he.trans (e1.trans e2)) (ho.ext (e1.trans e2));cases e3) | refine k_stD rfl rfl w3 ?_ | refine Qo rfl ?_))
 refine JI ?_
 exact ⟨.inl rfl,x3,fin h2 h3 o3,fun j b hj hn=>f3 j b ((e1.trans e2).get _ _ hj) hn⟩
def smL (f:Int→Int) (lo:Int) (n:Nat):List Int:=(List.range n).map fun k:Nat=>f (lo+(k:Int))
theorem qV (f:Int→Int) (lo:Int) (n:Nat):(smL f lo n).length=n:=by simp [smL]
theorem Qln {f:Int→Int} {lo:Int} {n k:Nat} (hk:k < n):(smL f lo n).getD k 0=f (lo+k):=by simp [smL,List.getD,hk]
theorem yP {f g:Int→Int} {lo:Int} {n:Nat} (h:∀ e,f e=g e):smL f lo n=smL g lo n:=by
 unfold smL
 exact GO fun k _=>h _
theorem QiF {f:Int→Int} {lo e w:Int} {n:Nat} (h0:lo≤e) (h1:e < lo+n):(smL f lo n).set (e-lo).toNat ((smL f lo n).getD (e-lo).toNat 0+w)=smL (fun x=>f x+w*dl x e) lo n:=by
 rw [Qln (k:=(e-lo).toNat) (by omega)]
 refine List.ext_getElem (by simp [smL]) fun k h2 h3=>?_
 rw [List.getElem_set]
 simp only [smL,List.getElem_map,List.getElem_range]
 rw [qV] at h3
 by_cases hk:(e-lo).toNat=k
 ·rw [if_pos hk,show lo+((e-lo).toNat:Int)=e by omega,show lo+(k:Int)=e by omega,YX];omega
 ·rw [if_neg hk,Ja (by omega)];omega
structure Sx (h0 hb h:Qa) (S:SV) (q7 q5:Nat) (lo:Int) (vs:List Int):Prop where
 e:Ext h0 h
 o:OwnD h0 h S (vs.map wdP)
 b7:Cel1 h q7 S
 b5:Cel1 h q5 (.int .i64 lo)
 k:∀ (j:Nat) (b:Blk),hb[j]?=some b→X1 S j→h[j]?=some b
theorem Sx.ext {h0 hb h h':Qa} {S:SV} {q7 q5:Nat} {lo:Int} {vs:List Int} (x:Sx h0 hb h S q7 q5 lo vs) (he:Ext h h'):Sx h0 hb h' S q7 q5 lo vs:=⟨x.e.trans he,x.o.ext he,x.b7.ext he,x.b5.ext he,fun j b hj hn=>he.get _ _ (x.k j b hj hn)⟩
def I56i (h0 hb:Qa) (S:SV) (q7 q5 q4 qt:Nat) (lo:Int) (n:Nat) (bb:Bool) (sp sq:SV) (p q:List Tm) (i:Nat) (t:Tm) (E:Env) (h:Qa):Prop:=∃ j:Nat,j≤q.length∧Sx h0 hb h S q7 q5 lo (smL (fun e=>mc (p.take i) q e+mc [t] (q.take j) e) lo n)∧Cel h q4 (.bool bb) sq∧Cel h qt (.int .i64 t.1) (.int .i64 t.2) ∧
 E.keep [2,4,7,11,12,13,18,19,20]=[(2,some (.sc (.fn 57 [(q7,0),(q5,0)]))),(4,some (.sc (.ptr q4 0))),(7,some (.sc (.ptr qt 0))),(11,some (.sc sp)),(12,some (.sc (.int .i64 (p.length:Nat)))),(13,some (.sc (.int .i64 (i:Nat)))),(18,some (.sc sq)),(19,some (.sc (.int .i64 (q.length:Nat)))),(20,some (.sc (.int .i64 (j:Nat))))]
def R56i (h0 hb:Qa) (S:SV) (q7 q5 q4:Nat) (lo:Int) (n:Nat) (bb:Bool) (sp sq:SV) (p q:List Tm) (i:Nat) (t:Tm) (ex:Ex) (E:Env) (h:Qa):Prop:=ex=.ex 2∧Sx h0 hb h S q7 q5 lo (smL (fun e=>mc (p.take i) q e+mc [t] q e) lo n)∧Cel h q4 (.bool bb) sq∧∃ a b c d e,
 E=[(2,some (.sc (.fn 57 [(q7,0),(q5,0)]))),(4,some (.sc (.ptr q4 0))),(7,a),(11,some (.sc sp)),(12,some (.sc (.int .i64 (p.length:Nat)))),(13,some (.sc (.int .i64 (i:Nat)))),(18,b),(19,c),(20,d),(21,e)]
structure Tfit (ts:List Tm):Prop where
 len:ts.length≤2097153
 cf:∀ t∈ts,t.2.natAbs≤cM
 ex:∀ t∈ts,t.1.natAbs≤4194304
theorem Pok.fit {p:Pol} (k:Pok p):Tfit p.ts:=⟨k.len,k.cf,fun t ht=>by have:=k.ex t ht;simp only [eM] at this;omega⟩
theorem Qds (q:List Tm) (t u:Tm) (e:Int):mc [t] (q++[u]) e=mc [t] q e+t.2*u.2*dl e (t.1+u.1):=by
 rw [Qgd,Qgd,QcB,Int.mul_add,Hi]
 congr 1
 show t.2*(u.2*dl (e-t.1) u.1+0)=_
 congr 1
 by_cases h:u.1=e-t.1
 ·rw [h,YX,show t.1+(e-t.1)=e by omega,YX];omega
 ·rw [Ja h,Ja (by omega)];omega
theorem QfG (h0 hb:Qa) (S:SV) (q7 q5 q4 qt:Nat) (lo:Int) (n:Nat) (hn:n≤10000000) (bb:Bool) (sp sq:SV) (p q:List Tm) (i:Nat) (t:Tm) (hq:IsD h0 sq (tms q)) (fq:Tfit q) (ht:t.2.natAbs≤cM∧t.1.natAbs≤4194304) (hrng:∀ u∈q,lo≤t.1+u.1∧t.1+u.1 < lo+n) (hlo : -100000000≤lo∧lo≤100000000) (E:Env) (h:Qa) (hI:I56i h0 hb S q7 q5 q4 qt lo n bb sp sq p q i t E h) :
  wA FT HKt Qhn (E.keep [2,4,7,11,12,13,18,19,20]) h (QA (I56i h0 hb S q7 q5 q4 qt lo n bb sp sq p q i t) (cK [2,4,7,11,12,13,18,19,20] q.length 20) (cK [2,4,7,11,12,13,18,19,20] q.length 20 E h) (R56i h0 hb S q7 q5 q4 lo n bb sp sq p q i t)):=by
 obtain ⟨j,hj,x,c4,ct,hE⟩:=hI
 have hm:cK [2,4,7,11,12,13,18,19,20] q.length 20 E h=q.length-j:=by unfold cK;rw [hE];rfl
 rw [hm,hE]
 have hql:=fq.len
 by_cases hlt:j < q.length
 ·obtain ⟨u,hu⟩:∃ u,q[j]?=some u:=⟨_,Ga hlt⟩
  have hum:=Gh hu
  have hur:=hrng u hum
  have hue:=fq.ex u hum
  have huc:=fq.cf u hum
  obtain ⟨id,off,cap,e1,r0⟩:=hq.at (i:=j) (p:=tmP u) (by simp [hu])
  rw [Q6] at e1
  subst e1
  have r1:=QH x.e r0
  simp only [cM] at ht huc
  have k41:=fun H=>Qhb H t.2 u.2 (by omega) (by omega)
  have tk:q.take (j+1)=q.take j++[u]:=by rw [GF,hu];rfl
  have k44:=fun H (x:Sx h0 hb H S q7 q5 lo (smL (fun e=>mc (p.take i) q e+mc [t] (q.take j) e) lo n))=>Qmt h0 H x.e q7 q5 S lo (t.1+u.1) (t.2*u.2) _ x.o x.b7 x.b5 (by rw [qV];omega) (by rw [qV];exact hn)
  rw [QiF hur.1 hur.2] at k44
  repeat' (first | refine Qg ?_ | refine Qb ?_ | refine Qv ?_ | refine QJ ?_ | refine Qn ?_ | refine Qf ?_ | refine Q2 ?_ | refine Xk ?_ | refine Xl ?_ | ((refine Qh ?_);refine Qj rfl ?_) | ((refine Qe ?_);first | refine Q1 ?_ | refine Xw ?_ | refine XZ (by assumption) ?_ | refine Q5 rfl rfl rfl rfl rfl rfl rfl rfl rfl ?_ | refine Xy rfl rfl rfl rfl rfl rfl rfl rfl rfl rfl ?_) | ((refine Qc ?_);first | refine Qw (esz:=2) rfl rfl (by omega) ?_ | refine XX rfl r1 ?_ | (refine Yd rfl ?_;intro h2 e2 c2;have dt:=ct.ext e2;have x2:=x.ext e2) | refine QQ rfl dt ?_ | refine QQ rfl c2 ?_ | refine Qz rfl dt ?_ | refine Qz rfl c2 ?_ | (refine Qi rfl (k41 _) ?_;rintro r h3 ⟨e3,rfl⟩;have x3:=x2.ext e3) | (refine Xq rfl rfl (k44 h3 x3) ?_;rintro r h4 ⟨e4,o4,f4⟩) | refine Qo rfl ?_ | refine QK rfl rfl (by omega) ?_ | refine Qy rfl rfl (by omega) ?_ | refine Xt rfl rfl ?_))
  have n4:X1 S q4→Cel h4 q4 (.bool bb) (.slc id off q.length cap):=fun hn=>(c4.ext (e2.trans e3)).fram f4 hn
  refine Xo ⟨j+1,by omega,⟨e4,?_,x3.b7.fram f4 (x3.o.cel x3.b7),x3.b5.fram f4 (x3.o.cel x3.b5),fun j b hj hn=>(f4 j b (x3.k j b hj hn) hn).1⟩,n4 (x.o.cel c4),(dt.ext e3).fram f4 (x.o.cel ct),rfl⟩ (by simp [cK,Env.keep,Env.get];omega)
  rw [tk]
  have:smL (fun e=>mc (p.take i) q e+mc [t] (q.take j++[u]) e) lo n=smL (fun x=>mc (p.take i) q x+mc [t] (q.take j) x+t.2*u.2*dl x (t.1+u.1)) lo n:=yP fun e=>by rw [Qds];omega
  rw [this];exact o4
 ·have:j=q.length:=by omega
  subst this
  rw [Gx] at x
  repeat' (first | refine Qg ?_ | refine Qb ?_ | refine Q0 ?_ | refine QX ?_ | refine Qf ?_ | ((refine Qh ?_);refine Qk rfl ?_) | ((refine Qe ?_);refine Xy rfl rfl rfl rfl rfl rfl rfl rfl rfl rfl ?_) | ((refine Qc ?_);refine QM rfl rfl (by omega) ?_))
  exact XM ⟨rfl,x,c4,_,_,_,_,_,rfl⟩
def I56 (h0 hb:Qa) (S:SV) (q7 q5 q4:Nat) (lo:Int) (n:Nat) (bb:Bool) (sp sq:SV) (p q:List Tm) (E:Env) (h:Qa):Prop:=∃ i:Nat,i≤p.length∧Sx h0 hb h S q7 q5 lo (smL (fun e=>mc (p.take i) q e) lo n)∧Cel h q4 (.bool bb) sq ∧
 E.keep [2,4,11,12,13]=[(2,some (.sc (.fn 57 [(q7,0),(q5,0)]))),(4,some (.sc (.ptr q4 0))),(11,some (.sc sp)),(12,some (.sc (.int .i64 (p.length:Nat)))),(13,some (.sc (.int .i64 (i:Nat))))]
def R56 (h0 hb:Qa) (S:SV) (q7 q5:Nat) (lo:Int) (n:Nat) (p q:List Tm) (ex:Ex) (E:Env) (h:Qa):Prop:=ex=.ex 0∧Sx h0 hb h S q7 q5 lo (smL (fun e=>mc p q e) lo n)
theorem QiT (h0 hb:Qa) (S:SV) (q7 q5 q4:Nat) (lo:Int) (n:Nat) (hn:n≤10000000) (bb:Bool) (sp sq:SV) (p q:List Tm) (hp:IsD h0 sp (tms p)) (hq:IsD h0 sq (tms q)) (fp:Tfit p) (fq:Tfit q) (hrng:∀ t∈p,∀ u∈q,lo≤t.1+u.1∧t.1+u.1 < lo+n) (hlo : -100000000≤lo∧lo≤100000000) (E:Env) (h:Qa) (hI:I56 h0 hb S q7 q5 q4 lo n bb sp sq p q E h) :
  wA FT HKt Qho (E.keep [2,4,11,12,13]) h (QA (I56 h0 hb S q7 q5 q4 lo n bb sp sq p q) (cK [2,4,11,12,13] p.length 13) (cK [2,4,11,12,13] p.length 13 E h) (R56 h0 hb S q7 q5 lo n p q)):=by
 obtain ⟨i,hi,x,c4,hE⟩:=hI
 have hm:cK [2,4,11,12,13] p.length 13 E h=p.length-i:=by unfold cK;rw [hE];rfl
 rw [hm,hE]
 have hpl:=fp.len
 have lq:=hq.len
 rw [Q6] at lq
 by_cases hlt:i < p.length
 ·obtain ⟨t,ht⟩:∃ t,p[i]?=some t:=⟨_,Ga hlt⟩
  have htm:=Gh ht
  obtain ⟨id,off,cap,e1,r0⟩:=hp.at (i:=i) (p:=tmP t) (by simp [ht])
  rw [Q6] at e1
  subst e1
  have r1:=QH x.e r0
  repeat' (first | refine Qg ?_ | refine Qb ?_ | refine Qv ?_ | refine Qn ?_ | refine Qf ?_ | ((refine Qh ?_);refine Qj rfl ?_) | ((refine Qe ?_);first | refine QT rfl rfl rfl rfl rfl rfl ?_ | refine Q5 rfl rfl rfl rfl rfl rfl rfl rfl rfl ?_) | ((refine Qc ?_);first | refine Qw (esz:=2) rfl rfl (by omega) ?_ | refine XX rfl r1 ?_ | (refine Yd rfl ?_;intro h2 e2 c2;have d4:=c4.ext e2;have x2:=x.ext e2) | refine Qz rfl d4 ?_ | refine Qs rfl lq ?_ | refine Qo rfl ?_ | refine Qy rfl rfl (by omega) ?_ | refine Xt rfl rfl ?_))
  have x2':Sx h0 hb h2 S q7 q5 lo (smL (fun e=>mc (p.take i) q e+mc [t] (q.take 0) e) lo n):=by
   have:smL (fun e=>mc (p.take i) q e+mc [t] (q.take 0) e) lo n=smL (fun e=>mc (p.take i) q e) lo n:=yP fun e=>by rw [List.take_zero,Qdt];omega
   rw [this];exact x2
  refine YU (I56i h0 hb S q7 q5 q4 h.length lo n bb (.slc id off p.length cap) sq p q i t) (cK [2,4,7,11,12,13,18,19,20] q.length 20) (R56i h0 hb S q7 q5 q4 lo n bb (.slc id off p.length cap) sq p q i t) ⟨0,Gs _,x2',d4,c2,rfl⟩ (QfG h0 hb S q7 q5 q4 h.length lo n hn bb (.slc id off p.length cap) sq p q i t hq fq ⟨fp.cf t htm,fp.ex t htm⟩ (hrng t htm) hlo) ?_
  rintro ex E' h3 ⟨rfl,x3,c3,a,b,c,d,e,rfl⟩
  repeat' (first | refine Qb ?_ | refine QJ ?_ | refine QP ?_ | refine Qf ?_ | ((refine Qe ?_);refine QU rfl rfl rfl rfl rfl ?_) | ((refine Qc ?_);first | refine Qo rfl ?_ | refine QK rfl rfl (by omega) ?_))
  refine Xo ⟨i+1,by omega,?_,c3,rfl⟩ (by simp [cK,Env.keep,Env.get];omega)
  have tk:p.take (i+1)=p.take i++[t]:=by rw [GF,ht];rfl
  have:smL (fun e=>mc (p.take (i+1)) q e) lo n=smL (fun e=>mc (p.take i) q e+mc [t] q e) lo n:=yP fun e=>by rw [tk,Qgf]
  rw [this];exact x3
 ·have:i=p.length:=by omega
  subst this
  rw [Gx] at x
  repeat' (first | refine Qg ?_ | refine Qb ?_ | refine Q0 ?_ | refine QX ?_ | refine Qf ?_ | ((refine Qh ?_);refine Qk rfl ?_) | ((refine Qe ?_);refine QT rfl rfl rfl rfl rfl rfl ?_) | ((refine Qc ?_);refine QM rfl rfl (by omega) ?_))
  exact XM ⟨rfl,x⟩
theorem Qmu (h0 h:Qa) (S:SV) (q7 q5:Nat) (lo:Int) (n:Nat) (hn:n≤10000000) (ba bb:Bool) (sp sq:SV) (p q:List Tm) (hp:IsD h0 sp (tms p)) (hq:IsD h0 sq (tms q)) (fp:Tfit p) (fq:Tfit q) (hrng:∀ t∈p,∀ u∈q,lo≤t.1+u.1∧t.1+u.1 < lo+n) (hlo : -100000000≤lo∧lo≤100000000) (x:Sx h0 h h S q7 q5 lo (List.replicate n 0)) :
  ∃ r h',Cal FT HKt 56 [.agg [.bool ba,sp],.agg [.bool bb,sq],.sc (.fn 57 [(q7,0),(q5,0)])] h r h'∧Sx h0 h h' S q7 q5 lo (smL (fun e=>mc p q e) lo n):=by
 refine Cal.of (F:=a56) rfl rfl rfl ?_
 have lp:=hp.len
 rw [Q6] at lp
 have e0:List.replicate n 0=smL (fun e=>mc (p.take 0) q e) lo n:=by
  refine List.ext_getElem (by simp [smL]) fun k h1 h2=>?_
  simp [smL,Qge]
 rw [e0] at x
 repeat' (first | refine Qg ?_ | refine Qb ?_ | refine Qv ?_ | refine Qf ?_ | ((refine Qe ?_);first | refine Qu rfl rfl rfl ?_ | refine QU rfl rfl rfl rfl rfl ?_) | ((refine Qc ?_);first | (have z:=e1;refine Qx rfl ?_;intro h2 e2 c2;have x2:=x1.ext e2;have d1:=c1.ext e2) | (refine Qx rfl ?_;intro h1 e1 c1;have x1:=x.ext e1) | refine Qz rfl d1 ?_ | refine Qs rfl lp ?_ | refine Qo rfl ?_ | refine Xt rfl rfl ?_))
 refine YU (I56 h0 h S q7 q5 h1.length lo n bb sp sq p q) (cK [2,4,11,12,13] p.length 13) (R56 h0 h S q7 q5 lo n p q) ⟨0,Gs _,x2,c2,rfl⟩ (QiT h0 h S q7 q5 h1.length lo n hn bb sp sq p q hp hq fp fq hrng hlo) ?_
 rintro ex E' h3 ⟨rfl,x3⟩
 repeat' (refine QP ?_)
 exact ⟨.inl rfl,x3⟩
theorem QjN (h0:Qa) (hi lo y:Nat) (hhi:hi < 18446744073709551616) (hlo:lo < 18446744073709551616) (hy:0 < y∧y < 18446744073709551616) :
  ∃ r h',Cal FT HKt 124 [.sc (.int .u64 (hi:Nat)),.sc (.int .u64 (lo:Nat)),.sc (.int .u64 (y:Nat))] h0 r h'∧h'=h0∧r=.sc (.int .u64 (((hi*18446744073709551616+lo)%y:Nat):Int)):=by
 refine Cal.of (F:=a124) rfl rfl rfl ?_
 have k71:=fun H=>QjQ H (hi%y) lo y (GU _ hy.1) hlo hy.2
 have e:(hi%y*18446744073709551616+lo)%y=(hi*18446744073709551616+lo)%y:=by
  rw [Nat.add_mod,Nat.mul_mod,Nat.mod_mod,← Nat.mul_mod,← Nat.add_mod]
 rw [e] at k71
 have e2:(hi:Int)%(y:Int)=((hi%y:Nat):Int):=rfl
 repeat' (first | refine Qg ?_ | refine Qb ?_ | refine Qt ?_ | refine Qf ?_ | ((refine Qe ?_);first | refine Qq rfl ?_ | refine Qu rfl rfl rfl ?_) | ((refine Qc ?_);first | (refine Qgs rfl rfl (by omega) ?_;rw [e2]) | (refine Qi rfl (k71 _) ?_;rintro r _ ⟨rfl,rfl⟩) | refine Qo rfl ?_ | refine Xt rfl rfl ?_))
 exact ⟨.inr rfl,rfl,rfl⟩
section
variable {FT:FuncId→Option AFun} {HK:FuncId→Option Xj} {E:Env} {h:Qa} {K:Env→Qa→Prop} {d:Option Nat} {r:List AOp} {x:AO}
theorem yX {v:SV} (hx:ev E x=some (.sc v)) (hw:∀ h1,Ext h h1→Cel1 h1 h.length v→Ql FT HK r (Qr d (some (.sc (.ptr h.length 0))) E) h1 K) :
  Ql FT HK (⟨d,.box x,none⟩::r) E h K :=
 Xe (v:=some (.sc (.ptr h.length 0))) (h':=h++[.cells [v] true 0]) rfl rfl (by simp [Qm,hx,AV.cells]) (hw _ ⟨_,rfl⟩ (by simp [Cel1]))
theorem ZW {q:Nat} {a v:SV} {p:AO} (ha:evS E p=some (.ptr q 0)) (hx:ev E x=some (.sc v)) (hc:Cel1 h q a) (hw:∀ h1:Qa,h1=h.set q (.cells [v] true 0)→Cel1 h1 q v→Ql FT HK r (Qr d none E) h1 K) :
 Ql FT HK (⟨d,.st 1 p x,none⟩::r) E h K:=qo ha hx hc hw
end
theorem Cel1.lt {h:Qa} {q:Nat} {a:SV} (c:Cel1 h q a):q < h.length:=(Gb.1 c).1
theorem Cel1.set {h:Qa} {q p:Nat} {a:SV} (c:Cel1 h q a) (hn:p≠q) (b:Blk):Cel1 (h.set p b) q a:=by
 unfold Cel1 at *
 rw [Gj hn];exact c
theorem Xz {ts:List Tm} {i:Nat} {t:Tm} (h:ts[i]?=some t):ts.drop i=t::ts.drop (i+1):=by
 obtain ⟨hi,rfl⟩:=Gb.1 h
 exact GS hi
abbrev esW (f:Int→Int) (K:List Int):List (Int × (SV × SV)):=esF (fun k=>wdP (f k)) K
structure MxS (h0 hb h:Qa) (q5 m:Nat) (f:Int→Int) (K:List Int):Prop where
 e:Ext h0 h
 b5:Cel1 h q5 (.mapv m)
 mp:h[m]?=some (MBW (esW f K))
 nd:K.Nodup
 z:∀ e,e ∉ K→f e=0
 l:h0.length≤m
 k:∀ (j:Nat) (b:Blk),hb[j]?=some b→j≠m→h[j]?=some b
theorem MxS.ext {h0 hb h h':Qa} {q5 m:Nat} {f:Int→Int} {K:List Int} (x:MxS h0 hb h q5 m f K) (he:Ext h h'):MxS h0 hb h' q5 m f K :=
 ⟨x.e.trans he,x.b5.ext he,he.get _ _ x.mp,x.nd,x.z,x.l,fun j b hj hn=>he.get _ _ (x.k j b hj hn)⟩
theorem MxS.ne {h0 hb h:Qa} {q5 m:Nat} {f:Int→Int} {K:List Int} (x:MxS h0 hb h q5 m f K) {q:Nat} {a b:SV} (c:Cel h q a b):q≠m:=fun e=>by
 have h1:=x.mp
 unfold Cel at c
 rw [e,h1] at c
 simp [zIW] at c
 have:=congrArg ESz.n c.2
 simp at this
theorem MxS.ne5 {h0 hb h:Qa} {q5 m:Nat} {f:Int→Int} {K:List Int} (x:MxS h0 hb h q5 m f K):q5≠m:=fun e=>by
 have h1:=x.mp
 have h2:=x.b5
 unfold Cel1 at h2
 rw [e,h1] at h2
 simp [zIW] at h2
 have:=congrArg ESz.n h2.2
 simp at this
theorem MxS.cong {h0 hb h:Qa} {q5 m:Nat} {f g:Int→Int} {K:List Int} (x:MxS h0 hb h q5 m f K) (hg:∀ e,f e=g e):MxS h0 hb h q5 m g K:=by
 have:f=g:=funext hg
 subst this
 exact x
def U7 (K:List Int) (k:Int):List Int:=if k∈K then K else K++[k]
theorem addK_mem {K:List Int} {k e:Int}:e∈U7 K k↔e∈K∨e=k:=by
 unfold U7
 split
 ·rename_i h
  exact ⟨.inl,fun h2=>h2.elim id fun e2=>e2 ▸ h⟩
 ·simp
theorem QhX (K:List Int) (k:Int):(U7 K k).length≤K.length+1∧0 < (U7 K k).length:=by
 have:k∈U7 K k:=addK_mem.2 (.inr rfl)
 refine ⟨?_,List.length_pos_of_mem this⟩
 unfold U7
 split <;> simp
theorem QjY {K:List Int} (h:K.Nodup) (k:Int):(U7 K k).Nodup:=by
 unfold U7
 split
 ·exact h
 ·rename_i hk
  exact List.nodup_append.2 ⟨h,by simp,fun a ha b hb e=>by simp at hb;subst hb;subst e;exact hk ha⟩
theorem Qmo (h0 hb h:Qa) (q5 m:Nat) (f:Int→Int) (K:List Int) (x:MxS h0 hb h q5 m f K) (ex w:Int) :
  ∃ r h',Cal FT HKt 84 [.sc (.int .i64 ex),.agg (wd w),.sc (.ptr q5 0)] h r h'∧MxS h0 hb h' q5 m (fun y=>f y+w*dl y ex) (U7 K ex)∧∀ (j:Nat) (b:Blk),h[j]?=some b→j≠m→h'[j]?=some b:=by
 refine Cal.of (F:=a84) rfl rfl rfl ?_
 have hg:(UL (esW f K) ex).getD (.int .u64 0,.int .u64 0)=wdP (f ex):=by
  rw [Qct]
  split
  ·rfl
  ·rename_i hn
   rw [x.z ex hn]
   rfl
 have k40:=fun H=>Qhd H (f ex) w
 have hs:Qeg (esW f K) ex (wdP (f ex+w))=esW (fun y=>f y+w*dl y ex) (U7 K ex):=by
  have:=Qlo (g:=fun k=>wdP (f k)) (g':=fun k=>wdP (f k+w*dl k ex)) x.nd ex (fun e he=>by
   show wdP (f e+w*dl e ex)=wdP (f e)
   rw [Ja (fun e2=>he e2.symm)];simp)
  simp only [YX,Int.mul_one] at this
  exact this
 simp only [Qd5] at k40 ⊢
 repeat' (first | refine Qg ?_ | refine Qb ?_ | refine Qf ?_ | refine Q2 ?_ | refine Xk ?_ | refine Xl ?_ | ((refine Qe ?_);first | refine Q1 ?_ | refine Xw ?_ | refine XZ (by assumption) ?_ | refine Qu rfl rfl rfl ?_) | ((refine Qc ?_);first | (refine Qx rfl ?_;intro h1 e1 c1;have x1:=x.ext e1) | refine Xu rfl x1.b5.at rfl ?_ | refine Qas rfl x1.mp rfl hg ?_ | refine QI rfl c1 ?_ | (refine Qi rfl (k40 _) ?_;rintro r h2 ⟨e2,rfl⟩;have x2:=x1.ext e2) | (refine Ql4 rfl x2.mp rfl rfl ?_) | refine Qo rfl ?_))
 refine JI ?_
 have hm:m < h2.length:=(Gb.1 x2.mp).1
 refine ⟨.inl rfl,⟨x2.e.set x2.l _,?_,?_,QjY x.nd ex,fun e he=>?_,x.l,fun j b hj hn=>?_⟩,fun j b hj hn=>?_⟩
 ·unfold Cel1
  rw [Gj (Ne.symm x2.ne5)]
  exact x2.b5
 ·rw [GC hm,← hs]
 ·have h1:e≠ex:=fun e2=>he (addK_mem.2 (.inr e2))
  show f e+w*dl e ex=0
  rw [Ja (fun e2=>h1 e2.symm),x.z e (fun e2=>he (addK_mem.2 (.inl e2)))];simp
 ·rw [Gj (Ne.symm hn)]
  exact x2.k j b hj hn
 ·rw [Gj (Ne.symm hn)]
  exact (e1.trans e2).get _ _ hj
structure Kx (K:List Int) (lo:Int) (n c:Nat):Prop where
 len:K.length≤c
 ne:0 < c→K≠[]
 rg:∀ e∈K,lo≤e∧e < lo+n
theorem Kx.add {K:List Int} {lo:Int} {n c:Nat} (x:Kx K lo n c) {k:Int} (h:lo≤k∧k < lo+n):Kx (U7 K k) lo n (c+1):=by
 obtain ⟨a,b⟩:=QhX K k
 have:=x.len
 refine ⟨by omega,fun _ e=>by rw [e] at b;simp at b,fun e he=>?_⟩
 rcases addK_mem.1 he with he | rfl
 ·exact x.rg e he
 ·exact h
def J43i (h0 hb:Qa) (q5 m q4 qt:Nat) (lo:Int) (n:Nat) (bb:Bool) (sp sq:SV) (p q:List Tm) (i:Nat) (t:Tm) (E:Env) (h:Qa):Prop:=∃ (j:Nat) (K:List Int),j≤q.length∧MxS h0 hb h q5 m (fun e=>mc (p.take i) q e+mc [t] (q.take j) e) K∧Kx K lo n (i*q.length+j)∧Cel h q4 (.bool bb) sq∧Cel h qt (.int .i64 t.1) (.int .i64 t.2) ∧
 E.keep [2,4,7,11,12,13,18,19,20]=[(2,some (.sc (.fn 84 [(q5,0)]))),(4,some (.sc (.ptr q4 0))),(7,some (.sc (.ptr qt 0))),(11,some (.sc sp)),(12,some (.sc (.int .i64 (p.length:Nat)))),(13,some (.sc (.int .i64 (i:Nat)))),(18,some (.sc sq)),(19,some (.sc (.int .i64 (q.length:Nat)))),(20,some (.sc (.int .i64 (j:Nat))))]
def S43i (h0 hb:Qa) (q5 m q4:Nat) (lo:Int) (n:Nat) (bb:Bool) (sp sq:SV) (p q:List Tm) (i:Nat) (t:Tm) (ex:Ex) (E:Env) (h:Qa):Prop:=ex=.ex 2∧∃ K,MxS h0 hb h q5 m (fun e=>mc (p.take i) q e+mc [t] q e) K∧Kx K lo n (i*q.length+q.length)∧Cel h q4 (.bool bb) sq∧∃ a b c d e,
 E=[(2,some (.sc (.fn 84 [(q5,0)]))),(4,some (.sc (.ptr q4 0))),(7,a),(11,some (.sc sp)),(12,some (.sc (.int .i64 (p.length:Nat)))),(13,some (.sc (.int .i64 (i:Nat)))),(18,b),(19,c),(20,d),(21,e)]
theorem Qee (h0 hb:Qa) (q5 m q4 qt:Nat) (lo:Int) (n:Nat) (bb:Bool) (sp sq:SV) (p q:List Tm) (i:Nat) (t:Tm) (hq:IsD h0 sq (tms q)) (fq:Tfit q) (ht:t.2.natAbs≤cM∧t.1.natAbs≤4194304) (hrng:∀ u∈q,lo≤t.1+u.1∧t.1+u.1 < lo+n) (E:Env) (h:Qa) (hI:J43i h0 hb q5 m q4 qt lo n bb sp sq p q i t E h) :
  wA FT HKt Qhn (E.keep [2,4,7,11,12,13,18,19,20]) h (QA (J43i h0 hb q5 m q4 qt lo n bb sp sq p q i t) (cK [2,4,7,11,12,13,18,19,20] q.length 20) (cK [2,4,7,11,12,13,18,19,20] q.length 20 E h) (S43i h0 hb q5 m q4 lo n bb sp sq p q i t)):=by
 obtain ⟨j,K,hj,x,kx,c4,ct,hE⟩:=hI
 have hm:cK [2,4,7,11,12,13,18,19,20] q.length 20 E h=q.length-j:=by unfold cK;rw [hE];rfl
 rw [hm,hE]
 have hql:=fq.len
 by_cases hlt:j < q.length
 ·obtain ⟨u,hu⟩:∃ u,q[j]?=some u:=⟨_,Ga hlt⟩
  have hum:=Gh hu
  have hur:=hrng u hum
  have hue:=fq.ex u hum
  have huc:=fq.cf u hum
  obtain ⟨id,off,cap,e1,r0⟩:=hq.at (i:=j) (p:=tmP u) (by simp [hu])
  rw [Q6] at e1
  subst e1
  have r1:=QH x.e r0
  simp only [cM] at ht huc
  have k41:=fun H=>Qhb H t.2 u.2 (by omega) (by omega)
  have tk:q.take (j+1)=q.take j++[u]:=by rw [GF,hu];rfl
  have k75:=fun H (x:MxS h0 hb H q5 m (fun e=>mc (p.take i) q e+mc [t] (q.take j) e) K)=>Qmo h0 hb H q5 m _ K x (t.1+u.1) (t.2*u.2)
  repeat' (first | refine Qg ?_ | refine Qb ?_ | refine Qv ?_ | refine QJ ?_ | refine Qn ?_ | refine Qf ?_ | refine Q2 ?_ | refine Xk ?_ | refine Xl ?_ | ((refine Qh ?_);refine Qj rfl ?_) | ((refine Qe ?_);first | refine Q1 ?_ | refine Xw ?_ | refine XZ (by assumption) ?_ | refine Q5 rfl rfl rfl rfl rfl rfl rfl rfl rfl ?_ | refine Xy rfl rfl rfl rfl rfl rfl rfl rfl rfl rfl ?_) | ((refine Qc ?_);first | refine Qw (esz:=2) rfl rfl (by omega) ?_ | refine XX rfl r1 ?_ | (refine Yd rfl ?_;intro h2 e2 c2;have dt:=ct.ext e2;have x2:=x.ext e2) | refine QQ rfl dt ?_ | refine QQ rfl c2 ?_ | refine Qz rfl dt ?_ | refine Qz rfl c2 ?_ | (refine Qi rfl (k41 _) ?_;rintro r h3 ⟨e3,rfl⟩;have x3:=x2.ext e3) | (refine Xq rfl rfl (k75 h3 x3) ?_;rintro r h4 ⟨x4,f4⟩) | refine Qo rfl ?_ | refine QK rfl rfl (by omega) ?_ | refine Qy rfl rfl (by omega) ?_ | refine Xt rfl rfl ?_))
  have d4:=c4.ext (e2.trans e3)
  have dt3:=dt.ext e3
  refine Xo ⟨j+1,_,by omega,x4.cong fun e=>?_,kx.add hur,f4 _ _ d4 (x3.ne d4),f4 _ _ dt3 (x3.ne dt3),rfl⟩ (by simp [cK,Env.keep,Env.get];omega)
  rw [tk,Qds];omega
 ·have:j=q.length:=by omega
  subst this
  rw [Gx] at x
  repeat' (first | refine Qg ?_ | refine Qb ?_ | refine Q0 ?_ | refine QX ?_ | refine Qf ?_ | ((refine Qh ?_);refine Qk rfl ?_) | ((refine Qe ?_);refine Xy rfl rfl rfl rfl rfl rfl rfl rfl rfl rfl ?_) | ((refine Qc ?_);refine QM rfl rfl (by omega) ?_))
  exact XM ⟨rfl,K,x,kx,c4,_,_,_,_,_,rfl⟩
def J43 (h0 hb:Qa) (q5 m q4:Nat) (lo:Int) (n:Nat) (bb:Bool) (sp sq:SV) (p q:List Tm) (E:Env) (h:Qa):Prop:=∃ (i:Nat) (K:List Int),i≤p.length∧MxS h0 hb h q5 m (fun e=>mc (p.take i) q e) K∧Kx K lo n (i*q.length)∧Cel h q4 (.bool bb) sq ∧
 E.keep [2,4,11,12,13]=[(2,some (.sc (.fn 84 [(q5,0)]))),(4,some (.sc (.ptr q4 0))),(11,some (.sc sp)),(12,some (.sc (.int .i64 (p.length:Nat)))),(13,some (.sc (.int .i64 (i:Nat))))]
def S43 (h0 hb:Qa) (q5 m:Nat) (lo:Int) (n:Nat) (p q:List Tm) (ex:Ex) (E:Env) (h:Qa):Prop:=ex=.ex 0∧∃ K,MxS h0 hb h q5 m (fun e=>mc p q e) K∧Kx K lo n (p.length*q.length)
theorem Qfs (h0 hb:Qa) (q5 m q4:Nat) (lo:Int) (n:Nat) (bb:Bool) (sp sq:SV) (p q:List Tm) (hp:IsD h0 sp (tms p)) (hq:IsD h0 sq (tms q)) (fp:Tfit p) (fq:Tfit q) (hrng:∀ t∈p,∀ u∈q,lo≤t.1+u.1∧t.1+u.1 < lo+n) (E:Env) (h:Qa) (hI:J43 h0 hb q5 m q4 lo n bb sp sq p q E h) :
  wA FT HKt Qho (E.keep [2,4,11,12,13]) h (QA (J43 h0 hb q5 m q4 lo n bb sp sq p q) (cK [2,4,11,12,13] p.length 13) (cK [2,4,11,12,13] p.length 13 E h) (S43 h0 hb q5 m lo n p q)):=by
 obtain ⟨i,K,hi,x,kx,c4,hE⟩:=hI
 have hm:cK [2,4,11,12,13] p.length 13 E h=p.length-i:=by unfold cK;rw [hE];rfl
 rw [hm,hE]
 have hpl:=fp.len
 have lq:=hq.len
 rw [Q6] at lq
 by_cases hlt:i < p.length
 ·obtain ⟨t,ht⟩:∃ t,p[i]?=some t:=⟨_,Ga hlt⟩
  have htm:=Gh ht
  obtain ⟨id,off,cap,e1,r0⟩:=hp.at (i:=i) (p:=tmP t) (by simp [ht])
  rw [Q6] at e1
  subst e1
  have r1:=QH x.e r0
  repeat' (first | refine Qg ?_ | refine Qb ?_ | refine Qv ?_ | refine Qn ?_ | refine Qf ?_ | ((refine Qh ?_);refine Qj rfl ?_) | ((refine Qe ?_);first | refine QT rfl rfl rfl rfl rfl rfl ?_ | refine Q5 rfl rfl rfl rfl rfl rfl rfl rfl rfl ?_) | ((refine Qc ?_);first | refine Qw (esz:=2) rfl rfl (by omega) ?_ | refine XX rfl r1 ?_ | (refine Yd rfl ?_;intro h2 e2 c2;have d4:=c4.ext e2;have x2:=x.ext e2) | refine Qz rfl d4 ?_ | refine Qs rfl lq ?_ | refine Qo rfl ?_ | refine Qy rfl rfl (by omega) ?_ | refine Xt rfl rfl ?_))
  have x2':MxS h0 hb h2 q5 m (fun e=>mc (p.take i) q e+mc [t] (q.take 0) e) K:=x2.cong fun e=>by rw [List.take_zero,Qdt];omega
  refine YU (J43i h0 hb q5 m q4 h.length lo n bb (.slc id off p.length cap) sq p q i t) (cK [2,4,7,11,12,13,18,19,20] q.length 20) (S43i h0 hb q5 m q4 lo n bb (.slc id off p.length cap) sq p q i t) ⟨0,K,Gs _,x2',kx,d4,c2,rfl⟩ (Qee h0 hb q5 m q4 h.length lo n bb (.slc id off p.length cap) sq p q i t hq fq ⟨fp.cf t htm,fp.ex t htm⟩ (hrng t htm)) ?_
  rintro ex E' h3 ⟨rfl,K3,x3,kx3,c3,a,b,c,d,e,rfl⟩
  repeat' (first | refine Qb ?_ | refine QJ ?_ | refine QP ?_ | refine Qf ?_ | ((refine Qe ?_);refine QU rfl rfl rfl rfl rfl ?_) | ((refine Qc ?_);first | refine Qo rfl ?_ | refine QK rfl rfl (by omega) ?_))
  have tk:p.take (i+1)=p.take i++[t]:=by rw [GF,ht];rfl
  refine Xo ⟨i+1,K3,by omega,x3.cong fun e=>by rw [tk,Qgf],?_,c3,rfl⟩ (by simp [cK,Env.keep,Env.get];omega)
  rw [Nat.succ_mul]
  exact kx3
 ·have:i=p.length:=by omega
  subst this
  rw [Gx] at x
  repeat' (first | refine Qg ?_ | refine Qb ?_ | refine Q0 ?_ | refine QX ?_ | refine Qf ?_ | ((refine Qh ?_);refine Qk rfl ?_) | ((refine Qe ?_);refine QT rfl rfl rfl rfl rfl rfl ?_) | ((refine Qc ?_);refine QM rfl rfl (by omega) ?_))
  exact XM ⟨rfl,K,x,kx⟩
theorem QiH (h0 h:Qa) (q5 m:Nat) (lo:Int) (n:Nat) (ba bb:Bool) (sp sq:SV) (p q:List Tm) (hp:IsD h0 sp (tms p)) (hq:IsD h0 sq (tms q)) (fp:Tfit p) (fq:Tfit q) (hrng:∀ t∈p,∀ u∈q,lo≤t.1+u.1∧t.1+u.1 < lo+n) (x:MxS h0 h h q5 m (fun _=>0) []) :
  ∃ r h',Cal FT HKt 56 [.agg [.bool ba,sp],.agg [.bool bb,sq],.sc (.fn 84 [(q5,0)])] h r h'∧∃ K,MxS h0 h h' q5 m (fun e=>mc p q e) K∧Kx K lo n (p.length*q.length):=by
 refine Cal.of (F:=a56) rfl rfl rfl ?_
 have lp:=hp.len
 rw [Q6] at lp
 have x0:MxS h0 h h q5 m (fun e=>mc (p.take 0) q e) []:=x.cong fun e=>rfl
 repeat' (first | refine Qg ?_ | refine Qb ?_ | refine Qv ?_ | refine Qf ?_ | ((refine Qe ?_);first | refine Qu rfl rfl rfl ?_ | refine QU rfl rfl rfl rfl rfl ?_) | ((refine Qc ?_);first | (have z:=e1;refine Qx rfl ?_;intro h2 e2 c2;have x2:=x1.ext e2;have d1:=c1.ext e2) | (refine Qx rfl ?_;intro h1 e1 c1;have x1:=x0.ext e1) | refine Qz rfl d1 ?_ | refine Qs rfl lp ?_ | refine Qo rfl ?_ | refine Xt rfl rfl ?_))
 refine YU (J43 h0 h q5 m h1.length lo n bb sp sq p q) (cK [2,4,11,12,13] p.length 13) (S43 h0 h q5 m lo n p q) ⟨0,[],Gs _,x2,⟨by simp,fun h=>by simp at h,by simp⟩,c2,rfl⟩ (Qfs h0 h q5 m h1.length lo n bb sp sq p q hp hq fp fq hrng) ?_
 rintro ex E' h3 ⟨rfl,K,x3,kx⟩
 repeat' (refine QP ?_)
 exact ⟨.inl rfl,K,x3,kx⟩
