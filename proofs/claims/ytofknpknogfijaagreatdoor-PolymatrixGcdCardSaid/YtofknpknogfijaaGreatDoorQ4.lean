/- The products of -/
import Derived.Test.YtofknpknogfijaaGreatDoorPE
import Derived.Test.YtofknpknogfijaaGreatDoorAb49
namespace Go.Proofs.YtofknpknogfijaaGreatDoor
open Go.Ab
set_option linter.all false
set_option maxHeartbeats 16000000
set_option maxRecDepth 20000
attribute [local irreducible] Qk wA Xv Xs QC Qu QP Q6
variable [HB]
def wdP(v:Int):P2:=(.int .u64 (v/18446744073709551616%18446744073709551616),.int .u64 (v%18446744073709551616))
theorem Qcm(v:Int):wd v=[(wdP v).1,(wdP v).2]:=rfl
def Cel1(h:Qa)(q:Nat)(a:SV):Prop:=h[q]?=some (.cells [a] true 0)
theorem Cel1.at{h:Qa}{q:Nat}{a:SV}(c:Cel1 h q a):Blk.At h q [a]:=⟨true,0,c⟩
theorem Cel1.ext{h h':Qa}{q:Nat}{a:SV}(c:Cel1 h q a)(he:Ext h h'):Cel1 h' q a:=he.get _ _ c
theorem Cel1.fram{h h':Qa}{q:Nat}{a s s':SV}(c:Cel1 h q a)(hf:Fram h h' s s')(hn:Ys s q):Cel1 h' q a:=(hf _ _ c hn).1
theorem QlE(h0 h:Qa)(he:Ext h0 h)(q7 q5:Nat)(S:SV)(lo ex w:Int)(vs:List Int)(ho:OwnD h0 h S (vs.map wdP))(b7:Cel1 h q7 S)(b5:Cel1 h q5 (.int .i64 lo))(hk:0<=ex-lo/\ex-lo<vs.length)(hlen:vs.length<=10000000) :
  ∃ r h',Cal FT HKt 57 [.sc (.int .i64 ex),.agg (wd w),.sc (.ptr q7 0),.sc (.ptr q5 0)] h r h'/\Ext h0 h'/\OwnD h0 h' S ((vs.set (ex-lo).toNat (vs.getD (ex-lo).toNat 0+w)).map wdP)/\Fram h h' S S:=by
 refine Cal.of (F:=a57) rfl rfl rfl ?_
 have hkl:(ex-lo).toNat<vs.length:=by omega
 obtain⟨v,hv⟩:∃ v,vs[(ex-lo).toNat]?=some v:=⟨_,Gc hkl⟩
 have hv2:vs.getD (ex-lo).toNat 0=v:=by rw[Gf,hv];rfl
 rw[hv2]
 obtain⟨id,cap,hS,hr⟩:=ho.rd (i:=(ex-lo).toNat) (p:=wdP v) (by simp[hv])
 have k40:=fun H=>Qhb H v w
 have hwr:=fun H (e:Ext h0 H) (o:OwnD h0 H S (vs.map wdP))=>OwnD.wr e o (i:=(ex-lo).toNat) (by simp;exact hkl) (wdP (v+w)).1 (wdP (v+w)).2
 rw[Gp]at hS hwr
 have fin:∀(H h2:Qa),OwnD h0 h2 S ((vs.map wdP).set (ex-lo).toNat ((wdP (v+w)).1,(wdP (v+w)).2))->OwnD h0 h2 S ((vs.set (ex-lo).toNat (v+w)).map wdP):=fun _ _ o=>by rw[List.map_set];exact o
 subst hS
 simp only[Qcm]at k40 ⊢
 repeat' first|apply Qh|apply Qc|apply Qf|apply QU|apply Xl|apply Xm|(apply Qe;first|apply QR|apply Xu|refine Ye (by assumption) ?_|refine QA rfl rfl rfl rfl ?_)|(apply Qb;first|(refine Qr rfl ?_;intro h1 e1 c1;have d7:=b7.ext e1;have d5:=b5.ext e1;have r1:=QO e1 hr)|refine X5 rfl d7.at rfl ?_|refine X5 rfl d5.at rfl ?_|(refine Yp rfl rfl (by omega) ?_)|refine QJ (esz:=2) rfl rfl (by omega) ?_|refine XN rfl r1 ?_|refine Qv rfl c1 ?_|(refine Qd rfl (k40 _) ?_;rintro r h2 ⟨e2,rfl⟩;obtain⟨id2,cap2,h3,e3,w3,o3,x3,f3,l3⟩:=hwr h2 (he.trans (e1.trans e2)) (ho.ext (e1.trans e2));cases e3)|refine QbH rfl rfl w3 ?_|refine Qn rfl ?_)
 refine yP ?_
 exact⟨.inl rfl,x3,fin h2 h3 o3,fun j b hj hn=>f3 j b ((e1.trans e2).get _ _ hj) hn⟩
def smL(f:Int->Int)(lo:Int)(n:Nat):List Int:=(List.range n).map fun k:Nat=>f (lo+(k:Int))
theorem Za(f:Int->Int)(lo:Int)(n:Nat):(smL f lo n).length=n:=by simp[smL]
theorem Qcq{f:Int->Int}{lo:Int}{n k:Nat}(hk:k<n):(smL f lo n).getD k 0=f (lo+k):=by simp[smL,List.getD,hk]
theorem Y4{f g:Int->Int}{lo:Int}{n:Nat}(h:∀ e,f e=g e):smL f lo n=smL g lo n:=by
 unfold smL
 exact Ht fun k _=>h _
theorem V9{f:Int->Int}{lo e w:Int}{n:Nat}(h0:lo<=e)(h1:e<lo+n):(smL f lo n).set (e-lo).toNat ((smL f lo n).getD (e-lo).toNat 0+w)=smL (fun x=>f x+w*dl x e) lo n:=by
 rw[Qcq (k:=(e-lo).toNat) (by omega)]
 refine List.ext_getElem (by simp[smL]) fun k h2 h3=>?_
 rw[List.getElem_set]
 simp only[smL,List.getElem_map,List.getElem_range]
 rw[Za]at h3
 by_cases hk:(e-lo).toNat=k
 ·rw[if_pos hk,show lo+((e-lo).toNat:Int)=e by omega,show lo+(k:Int)=e by omega,Yl];omega
 ·rw[if_neg hk,Ze (by omega)];omega
structure Sx(h0 hb h:Qa)(S:SV)(q7 q5:Nat)(lo:Int)(vs:List Int):Prop where
 e:Ext h0 h
 o:OwnD h0 h S (vs.map wdP)
 b7:Cel1 h q7 S
 b5:Cel1 h q5 (.int .i64 lo)
 k:∀(j:Nat) (b:Blk),hb[j]?=some b->Ys S j->h[j]?=some b
theorem Sx.ext{h0 hb h h':Qa}{S:SV}{q7 q5:Nat}{lo:Int}{vs:List Int}(x:Sx h0 hb h S q7 q5 lo vs)(he:Ext h h'):Sx h0 hb h' S q7 q5 lo vs:=⟨x.e.trans he,x.o.ext he,x.b7.ext he,x.b5.ext he,fun j b hj hn=>he.get _ _ (x.k j b hj hn)⟩
def I56i(h0 hb:Qa)(S:SV)(q7 q5 q4 qt:Nat)(lo:Int)(n:Nat)(bb:Bool)(sp sq:SV)(p q:List Tm)(i:Nat)(t:Tm)(E:Env)(h:Qa):Prop:=∃ j:Nat,j<=q.length/\Sx h0 hb h S q7 q5 lo (smL (fun e=>mc (p.take i) q e+mc [t] (q.take j) e) lo n)/\Cel h q4 (.bool bb) sq/\Cel h qt (.int .i64 t.1) (.int .i64 t.2) ∧
 E.keep [2,4,7,11,12,13,18,19,20]=[(2,some (.sc (.fn 57 [(q7,0),(q5,0)]))),(4,some (.sc (.ptr q4 0))),(7,some (.sc (.ptr qt 0))),(11,some (.sc sp)),(12,some (.sc (.int .i64 (p.length:Nat)))),(13,some (.sc (.int .i64 (i:Nat)))),(18,some (.sc sq)),(19,some (.sc (.int .i64 (q.length:Nat)))),(20,some (.sc (.int .i64 (j:Nat))))]
def R56i(h0 hb:Qa)(S:SV)(q7 q5 q4:Nat)(lo:Int)(n:Nat)(bb:Bool)(sp sq:SV)(p q:List Tm)(i:Nat)(t:Tm)(ex:Ex)(E:Env)(h:Qa):Prop:=ex = .ex 2/\Sx h0 hb h S q7 q5 lo (smL (fun e=>mc (p.take i) q e+mc [t] q e) lo n)/\Cel h q4 (.bool bb) sq/\∃ a b c d e,
 E=[(2,some (.sc (.fn 57 [(q7,0),(q5,0)]))),(4,some (.sc (.ptr q4 0))),(7,a),(11,some (.sc sp)),(12,some (.sc (.int .i64 (p.length:Nat)))),(13,some (.sc (.int .i64 (i:Nat)))),(18,b),(19,c),(20,d),(21,e)]
structure Tfit(ts:List Tm):Prop where
 len:ts.length<=2097153
 cf:∀ t∈ts,t.2.natAbs<=cM
 ex:∀ t∈ts,t.1.natAbs<=4194304
theorem Pok.fit{p:Pol}(k:Pok p):Tfit p.ts:=⟨k.len,k.cf,fun t ht=>by have:=k.ex t ht;simp only[eM]at this;omega⟩
theorem QdN(q:List Tm)(t u:Tm)(e:Int):mc [t] (q++[u]) e=mc [t] q e+t.2*u.2*dl e (t.1+u.1):=by
 rw[Qav,Qav,QaS,Hj,GB]
 congr 1
 show t.2*(u.2*dl (e-t.1) u.1+0)=_
 congr 1
 by_cases h:u.1=e-t.1
 ·rw[h,Yl,show t.1+(e-t.1)=e by omega,Yl];omega
 ·rw[Ze h,Ze (by omega)];omega
theorem QfF(h0 hb:Qa)(S:SV)(q7 q5 q4 qt:Nat)(lo:Int)(n:Nat)(hn:n<=10000000)(bb:Bool)(sp sq:SV)(p q:List Tm)(i:Nat)(t:Tm)(hq:IsD h0 sq (tms q))(fq:Tfit q)(ht:t.2.natAbs<=cM/\t.1.natAbs<=4194304)(hrng:∀ u∈q,lo<=t.1+u.1/\t.1+u.1<lo+n)(hlo : -100000000<=lo/\lo<=100000000)(E:Env)(h:Qa)(hI:I56i h0 hb S q7 q5 q4 qt lo n bb sp sq p q i t E h) :
  wA FT HKt QjZ (E.keep [2,4,7,11,12,13,18,19,20]) h (QC (I56i h0 hb S q7 q5 q4 qt lo n bb sp sq p q i t) (cK [2,4,7,11,12,13,18,19,20] q.length 20) (cK [2,4,7,11,12,13,18,19,20] q.length 20 E h) (R56i h0 hb S q7 q5 q4 lo n bb sp sq p q i t)):=by
 obtain⟨j,hj,x,c4,ct,hE⟩:=hI
 have hm:cK [2,4,7,11,12,13,18,19,20] q.length 20 E h=q.length-j:=by unfold cK;rw[hE];rfl
 rw[hm,hE]
 have hql:=fq.len
 by_cases hlt:j<q.length
 ·obtain⟨u,hu⟩:∃ u,q[j]?=some u:=⟨_,Gc hlt⟩
  have hum:=Gl hu
  have hur:=hrng u hum
  have hue:=fq.ex u hum
  have huc:=fq.cf u hum
  obtain⟨id,off,cap,e1,r0⟩:=hq.at (i:=j) (p:=tmP u) (by simp[hu])
  rw[QL]at e1
  subst e1
  have r1:=QO x.e r0
  simp only[cM]at ht huc
  have k41:=fun H=>Qg7 H t.2 u.2 (by omega) (by omega)
  have tk:q.take (j+1)=q.take j++[u]:=by rw[G1,hu];rfl
  have k44:=fun H (x:Sx h0 hb H S q7 q5 lo (smL (fun e=>mc (p.take i) q e+mc [t] (q.take j) e) lo n))=>QlE h0 H x.e q7 q5 S lo (t.1+u.1) (t.2*u.2) _ x.o x.b7 x.b5 (by rw[Za];omega) (by rw[Za];exact hn)
  rw[V9 hur.1 hur.2]at k44
  repeat' first|apply Qh|apply Qc|apply Qz|apply QV|apply Qm|apply Qf|apply QU|apply Xl|apply Xm|(apply Qg;refine Qi rfl ?_)|(apply Qe;first|apply QR|apply Xu|refine Ye (by assumption) ?_|refine Xd rfl rfl rfl rfl rfl rfl rfl rfl rfl ?_|refine XO rfl rfl rfl rfl rfl rfl rfl rfl rfl rfl ?_)|(apply Qb;first|refine QJ (esz:=2) rfl rfl (by omega) ?_|refine XN rfl r1 ?_|(refine QT rfl ?_;intro h2 e2 c2;have dt:=ct.ext e2;have x2:=x.ext e2)|refine QB rfl dt ?_|refine QB rfl c2 ?_|refine Qt rfl dt ?_|refine Qt rfl c2 ?_|(refine Qd rfl (k41 _) ?_;rintro r h3 ⟨e3,rfl⟩;have x3:=x2.ext e3)|(refine Xo rfl rfl (k44 h3 x3) ?_;rintro r h4 ⟨e4,o4,f4⟩)|refine Qn rfl ?_|refine Q1 rfl rfl (by omega) ?_|refine QH rfl rfl (by omega) ?_|refine Xt rfl rfl ?_)
  have n4:Ys S q4->Cel h4 q4 (.bool bb) (.slc id off q.length cap):=fun hn=>(c4.ext (e2.trans e3)).fram f4 hn
  refine Xg ⟨j+1,by omega,⟨e4,?_,x3.b7.fram f4 (x3.o.cel x3.b7),x3.b5.fram f4 (x3.o.cel x3.b5),fun j b hj hn=>(f4 j b (x3.k j b hj hn) hn).1⟩,n4 (x.o.cel c4),(dt.ext e3).fram f4 (x.o.cel ct),rfl⟩ (by simp[cK,Env.keep,Env.get];omega)
  rw[tk]
  have:smL (fun e=>mc (p.take i) q e+mc [t] (q.take j++[u]) e) lo n=smL (fun x=>mc (p.take i) q x+mc [t] (q.take j) x+t.2*u.2*dl x (t.1+u.1)) lo n:=Y4 fun e=>by rw[QdN];omega
  rw[this];exact o4
 ·have:j=q.length:=by omega
  subst this
  rw[GH]at x
  repeat' first|apply Qh|apply Qc|apply Xc|apply Q5|apply Qf|(apply Qg;refine Qj rfl ?_)|(apply Qe;refine XO rfl rfl rfl rfl rfl rfl rfl rfl rfl rfl ?_)|(apply Qb;refine QW rfl rfl (by omega) ?_)
  exact XA ⟨rfl,x,c4,_,_,_,_,_,rfl⟩
def I56(h0 hb:Qa)(S:SV)(q7 q5 q4:Nat)(lo:Int)(n:Nat)(bb:Bool)(sp sq:SV)(p q:List Tm)(E:Env)(h:Qa):Prop:=∃ i:Nat,i<=p.length/\Sx h0 hb h S q7 q5 lo (smL (fun e=>mc (p.take i) q e) lo n)/\Cel h q4 (.bool bb) sq ∧
 E.keep [2,4,11,12,13]=[(2,some (.sc (.fn 57 [(q7,0),(q5,0)]))),(4,some (.sc (.ptr q4 0))),(11,some (.sc sp)),(12,some (.sc (.int .i64 (p.length:Nat)))),(13,some (.sc (.int .i64 (i:Nat))))]
def R56(h0 hb:Qa)(S:SV)(q7 q5:Nat)(lo:Int)(n:Nat)(p q:List Tm)(ex:Ex)(E:Env)(h:Qa):Prop:=ex = .ex 0/\Sx h0 hb h S q7 q5 lo (smL (fun e=>mc p q e) lo n)
theorem Qig(h0 hb:Qa)(S:SV)(q7 q5 q4:Nat)(lo:Int)(n:Nat)(hn:n<=10000000)(bb:Bool)(sp sq:SV)(p q:List Tm)(hp:IsD h0 sp (tms p))(hq:IsD h0 sq (tms q))(fp:Tfit p)(fq:Tfit q)(hrng:∀ t∈p,∀ u∈q,lo<=t.1+u.1/\t.1+u.1<lo+n)(hlo : -100000000<=lo/\lo<=100000000)(E:Env)(h:Qa)(hI:I56 h0 hb S q7 q5 q4 lo n bb sp sq p q E h) :
  wA FT HKt Qj0 (E.keep [2,4,11,12,13]) h (QC (I56 h0 hb S q7 q5 q4 lo n bb sp sq p q) (cK [2,4,11,12,13] p.length 13) (cK [2,4,11,12,13] p.length 13 E h) (R56 h0 hb S q7 q5 lo n p q)):=by
 obtain⟨i,hi,x,c4,hE⟩:=hI
 have hm:cK [2,4,11,12,13] p.length 13 E h=p.length-i:=by unfold cK;rw[hE];rfl
 rw[hm,hE]
 have hpl:=fp.len
 have lq:=hq.len
 rw[QL]at lq
 by_cases hlt:i<p.length
 ·obtain⟨t,ht⟩:∃ t,p[i]?=some t:=⟨_,Gc hlt⟩
  have htm:=Gl ht
  obtain⟨id,off,cap,e1,r0⟩:=hp.at (i:=i) (p:=tmP t) (by simp[ht])
  rw[QL]at e1
  subst e1
  have r1:=QO x.e r0
  repeat' first|apply Qh|apply Qc|apply Qz|apply Qm|apply Qf|(apply Qg;refine Qi rfl ?_)|(apply Qe;first|refine Q7 rfl rfl rfl rfl rfl rfl ?_|refine Xd rfl rfl rfl rfl rfl rfl rfl rfl rfl ?_)|(apply Qb;first|refine QJ (esz:=2) rfl rfl (by omega) ?_|refine XN rfl r1 ?_|(refine QT rfl ?_;intro h2 e2 c2;have d4:=c4.ext e2;have x2:=x.ext e2)|refine Qt rfl d4 ?_|refine QG rfl lq ?_|refine Qn rfl ?_|refine QH rfl rfl (by omega) ?_|refine Xt rfl rfl ?_)
  have x2':Sx h0 hb h2 S q7 q5 lo (smL (fun e=>mc (p.take i) q e+mc [t] (q.take 0) e) lo n):=by
   have:smL (fun e=>mc (p.take i) q e+mc [t] (q.take 0) e) lo n=smL (fun e=>mc (p.take i) q e) lo n:=Y4 fun e=>by rw[List.take_zero,yx];omega
   rw[this];exact x2
  refine YK (I56i h0 hb S q7 q5 q4 h.length lo n bb (.slc id off p.length cap) sq p q i t) (cK [2,4,7,11,12,13,18,19,20] q.length 20) (R56i h0 hb S q7 q5 q4 lo n bb (.slc id off p.length cap) sq p q i t) ⟨0,Gs _,x2',d4,c2,rfl⟩ (QfF h0 hb S q7 q5 q4 h.length lo n hn bb (.slc id off p.length cap) sq p q i t hq fq ⟨fp.cf t htm,fp.ex t htm⟩ (hrng t htm) hlo) ?_
  rintro ex E' h3 ⟨rfl,x3,c3,a,b,c,d,e,rfl⟩
  repeat' first|apply Qc|apply QV|apply Q8|apply Qf|(apply Qe;refine QM rfl rfl rfl rfl rfl ?_)|(apply Qb;first|refine Qn rfl ?_|refine Q1 rfl rfl (by omega) ?_)
  refine Xg ⟨i+1,by omega,?_,c3,rfl⟩ (by simp[cK,Env.keep,Env.get];omega)
  have tk:p.take (i+1)=p.take i++[t]:=by rw[G1,ht];rfl
  have:smL (fun e=>mc (p.take (i+1)) q e) lo n=smL (fun e=>mc (p.take i) q e+mc [t] q e) lo n:=Y4 fun e=>by rw[tk,QcE]
  rw[this];exact x3
 ·have:i=p.length:=by omega
  subst this
  rw[GH]at x
  repeat' first|apply Qh|apply Qc|apply Xc|apply Q5|apply Qf|(apply Qg;refine Qj rfl ?_)|(apply Qe;refine Q7 rfl rfl rfl rfl rfl rfl ?_)|(apply Qb;refine QW rfl rfl (by omega) ?_)
  exact XA ⟨rfl,x⟩
theorem QlF(h0 h:Qa)(S:SV)(q7 q5:Nat)(lo:Int)(n:Nat)(hn:n<=10000000)(ba bb:Bool)(sp sq:SV)(p q:List Tm)(hp:IsD h0 sp (tms p))(hq:IsD h0 sq (tms q))(fp:Tfit p)(fq:Tfit q)(hrng:∀ t∈p,∀ u∈q,lo<=t.1+u.1/\t.1+u.1<lo+n)(hlo : -100000000<=lo/\lo<=100000000)(x:Sx h0 h h S q7 q5 lo (List.replicate n 0)) :
  ∃ r h',Cal FT HKt 56 [.agg [.bool ba,sp],.agg [.bool bb,sq],.sc (.fn 57 [(q7,0),(q5,0)])] h r h'/\Sx h0 h h' S q7 q5 lo (smL (fun e=>mc p q e) lo n):=by
 refine Cal.of (F:=a56) rfl rfl rfl ?_
 have lp:=hp.len
 rw[QL]at lp
 have e0:List.replicate n 0=smL (fun e=>mc (p.take 0) q e) lo n:=by
  refine List.ext_getElem (by simp[smL]) fun k h1 h2=>?_
  simp[smL,QcD]
 rw[e0]at x
 repeat' first|apply Qh|apply Qc|apply Qz|apply Qf|(apply Qe;first|refine Qq rfl rfl rfl ?_|refine QM rfl rfl rfl rfl rfl ?_)|(apply Qb;first|(have z:=e1;refine Qr rfl ?_;intro h2 e2 c2;have x2:=x1.ext e2;have d1:=c1.ext e2)|(refine Qr rfl ?_;intro h1 e1 c1;have x1:=x.ext e1)|refine Qt rfl d1 ?_|refine QG rfl lp ?_|refine Qn rfl ?_|refine Xt rfl rfl ?_)
 refine YK (I56 h0 h S q7 q5 h1.length lo n bb sp sq p q) (cK [2,4,11,12,13] p.length 13) (R56 h0 h S q7 q5 lo n p q) ⟨0,Gs _,x2,c2,rfl⟩ (Qig h0 h S q7 q5 h1.length lo n hn bb sp sq p q hp hq fp fq hrng hlo) ?_
 rintro ex E' h3 ⟨rfl,x3⟩
 repeat' (refine Q8 ?_)
 exact⟨.inl rfl,x3⟩
theorem Qja(h0:Qa)(hi lo y:Nat)(hhi:hi<18446744073709551616)(hlo:lo<18446744073709551616)(hy:0<y/\y<18446744073709551616) :
  ∃ r h',Cal FT HKt 124 [.sc (.int .u64 (hi:Nat)),.sc (.int .u64 (lo:Nat)),.sc (.int .u64 (y:Nat))] h0 r h'/\h'=h0/\r = .sc (.int .u64 (((hi*18446744073709551616+lo)%y:Nat):Int)):=by
 refine Cal.of (F:=a124) rfl rfl rfl ?_
 have k71:=fun H=>Qej H (hi%y) lo y (Hf _ hy.1) hlo hy.2
 have e:(hi%y*18446744073709551616+lo)%y=(hi*18446744073709551616+lo)%y:=by
  rw[Nat.add_mod,Nat.mul_mod,Nat.mod_mod,← Nat.mul_mod,← Nat.add_mod]
 rw[e]at k71
 have e2:(hi:Int)%(y:Int)=((hi%y:Nat):Int):=rfl
 repeat' first|apply Qh|apply Qc|apply Qs|apply Qf|(apply Qe;first|refine Qp rfl ?_|refine Qq rfl rfl rfl ?_)|(apply Qb;first|(refine Qgu rfl rfl (by omega) ?_;rw[e2])|(refine Qd rfl (k71 _) ?_;rintro r _ ⟨rfl,rfl⟩)|refine Qn rfl ?_|refine Xt rfl rfl ?_)
 exact⟨.inr rfl,rfl,rfl⟩
section
variable {FT:zzA} {HK:zzH} {E:Env} {h:Qa} {K:Env->Qa->Prop} {d:Option Nat} {r:List AOp} {x:AO}
theorem qU{v:SV}(hx:ev E x=some (.sc v))(hw:∀ h1,Ext h h1->Cel1 h1 h.length v->Qk FT HK r (Qw d (some (.sc (.ptr h.length 0))) E) h1 K) :
  Qk FT HK (⟨d,.box x,none⟩::r) E h K :=
 Xi (v:=some (.sc (.ptr h.length 0))) (h':=h++[.cells [v] true 0]) rfl rfl (by simp[Ql,hx,AV.cells]) (hw _ ⟨_,rfl⟩ (by simp[Cel1]))
theorem Ja{q:Nat}{a v:SV}{p:AO}(ha:evS E p=some (.ptr q 0))(hx:ev E x=some (.sc v))(hc:Cel1 h q a)(hw:∀ h1:Qa,h1=h.set q (.cells [v] true 0)->Cel1 h1 q v->Qk FT HK r (Qw d none E) h1 K) :
 Qk FT HK (⟨d,.st 1 p x,none⟩::r) E h K:=QbI ha hx hc hw
end
theorem Cel1.lt{h:Qa}{q:Nat}{a:SV}(c:Cel1 h q a):q<h.length:=(Gb.1 c).1
theorem Cel1.set{h:Qa}{q p:Nat}{a:SV}(c:Cel1 h q a)(hn:p≠q)(b:Blk):Cel1 (h.set p b) q a:=by
 unfold Cel1 at *
 rw[Gn hn];exact c
theorem Xy{ts:List Tm}{i:Nat}{t:Tm}(h:ts[i]?=some t):ts.drop i=t::ts.drop (i+1):=by
 obtain⟨hi,rfl⟩:=Gb.1 h
 exact Hn hi
abbrev fld(p g:Nat):AV := .agg [.int .u64 (p:Nat),.int .u64 (g:Nat)]
abbrev u(n:Nat):AV := .sc (.int .u64 (n:Nat))
theorem qj(h0:Qa)(p g a b:Nat)(hp:0<p/\p<18446744073709551616)(ha:a<18446744073709551616)(hb:b<18446744073709551616):∃ r h',Cal FT HKt 98 [fld p g,u a,u b] h0 r h'/\Ext h0 h'/\r=u (a*b%p):=by
 refine Cal.of (F:=a98) rfl rfl rfl ?_
 have k103:=fun H=>Qei H (a:Int) (b:Int) ⟨by omega,by omega⟩ ⟨by omega,by omega⟩
 rw[← G3]at k103
 have hlt:a*b<18446744073709551616*18446744073709551616:=Nat.mul_lt_mul'' ha hb
 generalize hm:a*b=m at *
 have k124:=fun H=>Qja H (m/18446744073709551616) (m%18446744073709551616) p (by omega) (by omega) hp
 rw[show m/18446744073709551616*18446744073709551616+m%18446744073709551616=m by omega]at k124
 rw[show ((m:Nat):Int)/18446744073709551616=((m/18446744073709551616:Nat):Int) by omega,show ((m:Nat):Int)%18446744073709551616=((m%18446744073709551616:Nat):Int) by omega]at k103
 repeat' first|apply Qh|apply Qc|apply Qs|apply Qf|(apply Qe;first|refine Qp rfl ?_|refine Qq rfl rfl rfl ?_)|(apply Qb;first|(refine Qr rfl ?_;intro h1 e1 c1)|(refine Qd rfl (k103 _) ?_;rintro v _ ⟨rfl,rfl⟩)|refine QS rfl ?_|refine QB rfl c1 ?_|(refine Qd rfl (k124 _) ?_;rintro v _ ⟨rfl,rfl⟩)|refine Qn rfl ?_|refine Xt rfl rfl ?_)
 exact⟨.inr rfl,e1,rfl⟩
def YL(p:Nat):Nat->Nat->Nat->Nat->Nat
 | 0,r,_,_=>r
 | n+1,r,a,e=>if e=0 then r else frc (if e%2=1 then r*a%p else r) fun r'=>frc (a*a%p) fun a'=>frc (e/2) fun e'=>YL p n r' a' e'
theorem Jg(p n r a e:Nat):YL p (n+1) r a e=if e=0 then r else YL p n (if e%2=1 then r*a%p else r) (a*a%p) (e/2):=by
 simp only[YL,Yw]
theorem QeK(p n r a:Nat):YL p n r a 0=r:=by
 cases n
 ·rfl
 ·rw[Jg,if_pos rfl]
theorem QdA(p:Nat)(hp:0<p):∀(n r a e:Nat),r<18446744073709551616->p<18446744073709551616->YL p n r a e<18446744073709551616
 | 0,r,a,e,h,_=>h
 | n+1,r,a,e,h,h2=>by
  rw[Jg]
  split
  ·exact h
  ·refine QdA p hp n _ _ _ ?_ h2
   split
   ·have:=Hf (r*a) hp;omega
   ·exact h
def I119(h0:Qa)(q3 p g X:Nat)(k:Nat)(E:Env)(h:Qa):Prop:=∃ r a e:Nat,r<18446744073709551616/\a<18446744073709551616/\e<2^k/\k<=64/\YL p k r a e=X/\Ext h0 h/\Cel h q3 (.int .u64 (p:Nat)) (.int .u64 (g:Nat)) ∧
 E.keep [1,2,3,7]=[(1,some (u a)),(2,some (u e)),(3,some (.sc (.ptr q3 0))),(7,some (u r))]
def R119(h0:Qa)(X:Nat)(ex:Ex)(E:Env)(h:Qa):Prop:=ex = .ex 0/\Ext h0 h/\∃ a b c d,E=[(1,a),(2,b),(3,c),(7,some (u X)),(9,d)]
theorem QfO(h0:Qa)(q3 p g X:Nat)(hp:0<p/\p<18446744073709551616)(k:Nat)(E:Env)(h:Qa)(hI:I119 h0 q3 p g X k E h) :
  wA FT HKt Qho (E.keep [1,2,3,7]) h (Qu (I119 h0 q3 p g X) k (R119 h0 X)):=by
 obtain⟨r,a,e,hr,ha,he,hk,hX,x,c3,hE⟩:=hI
 rw[hE]
 have he64:e<18446744073709551616:=GJ he (Nat.pow_le_pow_right (by decide) hk)
 have c3':Cel h q3 (.int .u64 (p:Nat)) (.int .u64 (g:Nat)):=c3
 by_cases h0':e=0
 ·subst h0'
  rw[QeK]at hX
  subst hX
  repeat' first|apply Qh|apply Qc|apply Xc|apply Q5|apply Qf|(apply Qg;refine Qj rfl ?_)|(apply Qe;refine QM rfl rfl rfl rfl rfl ?_)|(apply Qb;first|refine Qn rfl ?_|refine XY rfl rfl (by omega) ?_)
  exact Xj ⟨rfl,x,_,_,_,_,rfl⟩
 cases k with
 | zero=>simp at he;omega
 | succ k =>
 rw[Jg,if_neg h0']at hX
 have k2:=fun H=>qj H p g a a hp ha ha
 have k1:=fun H=>qj H p g r a hp hr ha
 have hsh:(e:Int)/((2^1:Nat):Int)=((e/2:Nat):Int):=by omega
 have hp2:e/2<2^k:=by rw[Nat.pow_succ]at he;omega
 by_cases ho:e%2=1
 ·have h1:(e:Int)%((2^1:Nat):Int)=1:=by omega
  rw[if_pos ho]at hX
  repeat' first|apply Qh|apply Qc|apply Qz|apply QV|apply Qm|apply Qf|(apply Qg;refine Qi rfl ?_)|(apply Qe;first|refine QA rfl rfl rfl rfl ?_|refine QM rfl rfl rfl rfl rfl ?_)|(apply Qb;first|refine QaJ (q:=1) rfl rfl (by omega) (by omega) rfl ?_|refine XQ (q:=1) rfl rfl rfl (by omega) ?_|refine Qv rfl c3' ?_|(have z:=e1;refine Qv rfl c31 ?_)|(refine Qd rfl (k1 _) ?_;rintro v h1 ⟨e1,rfl⟩;have c31:=c3.ext e1)|(refine Qd rfl (k2 _) ?_;rintro v h2 ⟨e2,rfl⟩)|refine Qn rfl ?_|refine X9 rfl rfl (by omega) ?_|refine XC rfl rfl (by omega) ?_)
  refine Xb (j:=k) (by omega) ⟨r*a%p,a*a%p,e/2,?_,?_,hp2,by omega,hX,(x.trans e1).trans e2,c31.ext e2,?_⟩
  ·have:=Hf (r*a) hp.1;omega
  ·have:=Hf (a*a) hp.1;omega
  ·show [(1,some (u (a*a%p))),(2,some (.sc (.int .u64 ((e:Int)/((2^1:Nat):Int))))),(3,_),(7,_)]=_
   rw[hsh];rfl
 ·have h1:(e:Int)%((2^1:Nat):Int)=0:=by omega
  rw[if_neg ho]at hX
  repeat' first|apply Qh|apply Qc|apply Qz|apply QV|apply Qm|apply Qf|(apply Qg;first|refine Qi rfl ?_|refine Qj rfl ?_)|(apply Qe;first|refine QA rfl rfl rfl rfl ?_|refine QM rfl rfl rfl rfl rfl ?_)|(apply Qb;first|refine QaJ (q:=1) rfl rfl (by omega) (by omega) rfl ?_|refine XQ (q:=1) rfl rfl rfl (by omega) ?_|refine Qv rfl c3' ?_|(refine Qd rfl (k2 _) ?_;rintro v h2 ⟨e2,rfl⟩)|refine Qn rfl ?_|refine X9 rfl rfl (by omega) ?_|refine Xk rfl rfl (by omega) ?_)
  refine Xb (j:=k) (by omega) ⟨r,a*a%p,e/2,hr,?_,hp2,by omega,hX,x.trans e2,c3.ext e2,?_⟩
  ·have:=Hf (a*a) hp.1;omega
  ·show [(1,some (u (a*a%p))),(2,some (.sc (.int .u64 ((e:Int)/((2^1:Nat):Int))))),(3,_),(7,_)]=_
   rw[hsh];rfl
theorem yM(h0:Qa)(p g a e:Nat)(hp:0<p/\p<18446744073709551616)(ha:a<18446744073709551616)(he:e<18446744073709551616):∃ r h',Cal FT HKt 119 [fld p g,u a,u e] h0 r h'/\Ext h0 h'/\r=u (YL p 64 1 a e):=by
 refine Cal.of (F:=a119) rfl rfl rfl ?_
 repeat' first|apply Qh|apply Qc|apply Qz|apply Qf|(apply Qe;first|refine Qq rfl rfl rfl ?_|refine QA rfl rfl rfl rfl ?_)|(apply Qb;first|(refine Qr rfl ?_;intro h1 e1 c1)|refine Qn rfl ?_)
 refine XJ (I119 h0 h0.length p g (YL p 64 1 a e)) 64 (R119 h0 (YL p 64 1 a e)) ⟨1,a,e,by omega,ha,he,Ge _,rfl,e1,c1,rfl⟩ (QfO h0 h0.length p g _ hp) ?_
 rintro ex E' h2 ⟨rfl,x2,_,_,_,_,rfl⟩
 repeat' first|apply Qh|apply Qc|apply Q8|apply Qs|apply Qf|(apply Qe;refine Qp rfl ?_)|(apply Qb;refine Qn rfl ?_)
 exact⟨.inr rfl,x2,rfl⟩
def sqM(p m:Nat):Nat->Nat->Bool
 | 0,a=>a==m
 | n+1,a=>if a=m then true else frc (a*a%p) fun a'=>sqM p m n a'
def mrB(n s d b:Nat):Bool:=frc (YL n 64 1 b d) fun a=>if a=1 then true else sqM n (n-1) (s-1) a
def basesL:List Nat:=[2,3,5,7,11,13,17,19,23,29,31,37]
def prM(n:Nat):Bool:=frc (Lib.ctz 64 (n-1)) fun s=>frc ((n-1)/2^s) fun d=>basesL.all fun b=>mrB n s d b
def QhI(h0:Qa)(q3 n s:Nat)(X:Bool)(b14 b15:AV)(k:Nat)(E:Env)(h:Qa):Prop:=∃ a i:Nat,a<18446744073709551616/\k=s-i/\1<=i/\sqM n (n-1) (s-i) a=X/\Ext h0 h/\Cel h q3 (.int .u64 (n:Nat)) (.int .u64 0) ∧
 E.keep [0,3,4,7,8,14,15]=[(0,some (u n)),(3,some (.sc (.ptr q3 0))),(4,some (.sc (.int .i64 (s:Nat)))),(7,some (u a)),(8,some (.sc (.int .i64 (i:Nat)))),(14,some b14),(15,some b15)]
def Qke(h0:Qa)(q3 n s:Nat)(X:Bool)(b14 b15:AV)(ex:Ex)(E:Env)(h:Qa):Prop:=ex = .ex 2/\Ext h0 h/\Cel h q3 (.int .u64 (n:Nat)) (.int .u64 0)/\∃(a:Nat) (c d:Option AV),a<18446744073709551616/\(a==n-1)=X ∧
 E=[(0,some (u n)),(3,some (.sc (.ptr q3 0))),(4,some (.sc (.int .i64 (s:Nat)))),(7,some (u a)),(8,c),(14,some b14),(15,some b15),(35,d)]
theorem Qez(h0:Qa)(q3 n s:Nat)(X:Bool)(b14 b15:AV)(hn:2<n/\n<18446744073709551616)(hs:s<=64)(k:Nat)(E:Env)(h:Qa)(hI:QhI h0 q3 n s X b14 b15 k E h) :
  wA FT HKt Qhp (E.keep [0,3,4,7,8,14,15]) h (Qu (QhI h0 q3 n s X b14 b15) k (Qke h0 q3 n s X b14 b15)):=by
 obtain⟨a,i,ha,rfl,hi,hX,x,c3,hE⟩:=hI
 rw[hE]
 have c3':Cel h q3 (.int .u64 (n:Nat)) (.int .u64 (0:Nat)):=c3
 by_cases h1:i<s
 ·obtain⟨k,hk⟩:∃ k,s-i=k+1:=⟨s-i-1,by omega⟩
  rw[hk]at hX ⊢
  by_cases h2:a=n-1
  ·unfold sqM at hX
   rw[if_pos h2]at hX
   repeat' first|apply Qh|apply Qc|apply Xc|apply Q5|apply Qf|(apply Qg;refine Qj rfl ?_)|(apply Qe;refine Xh rfl rfl rfl rfl rfl rfl rfl rfl ?_)|(apply Qb;first|refine XI rfl rfl (by omega) ?_|refine QE rfl ?_|refine Qn rfl ?_|refine QK rfl rfl ?_|refine QH rfl rfl (by omega) ?_|refine X2 rfl rfl (by omega) ?_)
   exact Xj ⟨rfl,x,c3,a,_,_,ha,by rw[← hX];simp[h2],rfl⟩
  ·unfold sqM at hX
   rw[if_neg h2,Yw]at hX
   have k98:=fun H=>qj H n 0 a a ⟨by omega,hn.2⟩ ha ha
   repeat' first|apply Qh|apply Qc|apply Qz|apply QV|apply Qm|apply Qf|(apply Qg;refine Qi rfl ?_)|(apply Qe;first|refine Xr rfl rfl rfl rfl rfl rfl rfl ?_|refine Xh rfl rfl rfl rfl rfl rfl rfl rfl ?_)|(apply Qb;first|refine XI rfl rfl (by omega) ?_|refine Qv rfl c3' ?_|(refine Qd rfl (k98 _) ?_;rintro v h2 ⟨e2,rfl⟩)|refine QE rfl ?_|refine Qn rfl ?_|refine QK rfl rfl ?_|refine Q1 rfl rfl (by omega) ?_|refine QH rfl rfl (by omega) ?_|refine Zh rfl rfl (by omega) ?_)
   refine Xb (j:=s-(i+1)) (by omega) ⟨a*a%n,i+1,?_,rfl,by omega,?_,x.trans e2,c3.ext e2,rfl⟩
   ·have:=Hf (a*a) (show 0<n by omega);omega
   ·rw[← hX,show s-(i+1)=k by omega]
 ·rw[show s-i=0 by omega]at hX ⊢
  have hX':(a==n-1)=X:=hX
  repeat' first|apply Qh|apply Qc|apply Xc|apply Q5|apply Qf|(apply Qg;refine Qj rfl ?_)|(apply Qe;refine Xh rfl rfl rfl rfl rfl rfl rfl rfl ?_)|(apply Qb;first|refine Xa rfl ?_|refine Qn rfl ?_|refine Qy rfl rfl ?_|refine QW rfl rfl (by omega) ?_)
  exact Xj ⟨rfl,x,c3,a,_,_,ha,hX',rfl⟩
section
variable {FT:zzA} {HK:zzH} {E:Env} {h:Qa} {K:Env->Qa->Prop} {d:Option Nat} {r:List AOp} {x y:AO}
theorem QdW{n j:Nat}{cs:List SV}{v:SV}(hx:ev E x=some (.agg cs))(hi:evS E y=some (.int .i64 (j:Nat)))(hj:j<n)(hc:cut cs (j*1) 1=some [v])(hw:Qk FT HK r (Qw d (some (.sc v))  E) h K):Qk FT HK (⟨d,.idxG n 1 false x y,none⟩::r) E h K:=by
 refine Xi (v:=some (.sc v)) (h':=h) rfl rfl ?_ hw
 simp only[Ql,hx,hi]
 rw[if_pos ⟨by omega,by omega⟩,Int.toNat_natCast,hc];rfl
end
abbrev Vi:List SV:=basesL.map fun b => .int .u64 (b:Nat)
def I118(h0:Qa)(q3 n s:Nat)(k:Nat)(E:Env)(h:Qa):Prop:=∃ i:Nat,i<=12/\k=12-i/\(basesL.take i).all (fun b=>mrB n s ((n-1)/2^s) b)=true/\Ext h0 h/\Cel h q3 (.int .u64 (n:Nat)) (.int .u64 0) ∧
 E.keep [0,3,4,14,15]=[(0,some (u n)),(3,some (.sc (.ptr q3 0))),(4,some (.sc (.int .i64 (s:Nat)))),(14,some (.agg Vi)),(15,some (.sc (.int .i64 (i:Nat))))]
def R118(h0:Qa)(n s:Nat)(ex:Ex)(E:Env)(h:Qa):Prop:=Ext h0 h/\((ex = .ex 0/\basesL.all (fun b=>mrB n s ((n-1)/2^s) b)=true)∨(ex = .rt/\basesL.all (fun b=>mrB n s ((n-1)/2^s) b)=false/\E=[(2,some (.sc (.bool false)))]))
theorem QfP(h0:Qa)(q3 n s:Nat)(hn:2<n/\n<18446744073709551616)(hs:s<=64)(k:Nat)(E:Env)(h:Qa)(hI:I118 h0 q3 n s k E h) :
  wA FT HKt Qhq (E.keep [0,3,4,14,15]) h (Qu (I118 h0 q3 n s) k (R118 h0 n s)):=by
 obtain⟨i,hi,rfl,hall,x,c3,hE⟩:=hI
 rw[hE]
 have c3':Cel h q3 (.int .u64 (n:Nat)) (.int .u64 (0:Nat)):=c3
 by_cases h1:i<12
 ·obtain⟨b,hb⟩:∃ b,basesL[i]?=some b:=⟨_,Gc (show i<basesL.length from h1)⟩
  have hbl:b<18446744073709551616:=by
   have:∀ c∈basesL,c<18446744073709551616:=by decide
   exact this b (Gl hb)
  have hcut:cut Vi (i*1) 1=some [.int .u64 (b:Nat)]:=by
   have:∀ j,j<12->cut Vi (j*1) 1=some [.int .u64 ((basesL.getD j 0:Nat):Int)]:=by decide
   rw[this i h1,Gf,hb];rfl
  have hd:(n-1)/2^s<18446744073709551616:=Nat.lt_of_le_of_lt (Nat.div_le_self _ _) (by omega)
  have k119:=fun H=>yM H n 0 b ((n-1)/2^s) ⟨by omega,hn.2⟩ hbl hd
  have hsd:((n:Int)-1)/((2^s:Nat):Int)=(((n-1)/2^s:Nat):Int):=by
   rw[show (n:Int)-1=((n-1:Nat):Int) by omega];rfl
  have tk:basesL.take (i+1)=basesL.take i++[b]:=by rw[G1,hb];rfl
  have hmr:mrB n s ((n-1)/2^s) b=if YL n 64 1 b ((n-1)/2^s)=1 then true else sqM n (n-1) (s-1) (YL n 64 1 b ((n-1)/2^s)):=by unfold mrB;rw[Yw]
  have hal:YL n 64 1 b ((n-1)/2^s)<18446744073709551616:=QdA n (by omega) 64 1 b _ (by omega) hn.2
  generalize hA:YL n 64 1 b ((n-1)/2^s)=A at *
  have next:mrB n s ((n-1)/2^s) b=true->(basesL.take (i+1)).all (fun b=>mrB n s ((n-1)/2^s) b)=true:=fun e=>by
   rw[tk,List.all_append,hall];simp[e]
  by_cases hA1:A=1
  ·rw[if_pos hA1]at hmr
   repeat' first|apply Qh|apply Qc|apply Xc|apply Qz|apply Q8|apply Qm|apply Q5|apply Qf|apply QU|apply Xl|apply Xm|(apply Qg;refine Qi rfl ?_)|(apply Qe;first|apply QR|apply Xu|refine QM rfl rfl rfl rfl rfl ?_|refine Q7 rfl rfl rfl rfl rfl rfl ?_|refine Xr rfl rfl rfl rfl rfl rfl rfl ?_)|(apply Qb;first|refine QdW rfl rfl h1 hcut ?_|refine XI rfl rfl (by omega) ?_|(refine XQ (q:=s) rfl rfl rfl hs ?_;rw[hsd])|refine Qv rfl c3' ?_|(refine Qd rfl (k119 _) ?_;rintro v h2 ⟨e2,rfl⟩)|refine Qn rfl ?_|refine Q1 rfl rfl (by omega) ?_|refine QH rfl rfl (by omega) ?_|refine XC rfl rfl (by omega) ?_)
   exact Xb (j:=12-(i+1)) (by omega) ⟨i+1,by omega,rfl,next hmr,x.trans e2,c3.ext e2,rfl⟩
  ·rw[if_neg hA1]at hmr
   repeat' first|apply Qh|apply Qc|apply Qz|apply Qm|apply Qf|apply QU|apply Xl|apply Xm|(apply Qg;first|refine Qi rfl ?_|refine Qj rfl ?_)|(apply Qe;first|apply QR|apply Xu|refine Q7 rfl rfl rfl rfl rfl rfl ?_|refine Xr rfl rfl rfl rfl rfl rfl rfl ?_)|(apply Qb;first|refine QdW rfl rfl h1 hcut ?_|refine XI rfl rfl (by omega) ?_|(refine XQ (q:=s) rfl rfl rfl hs ?_;rw[hsd])|refine Qv rfl c3' ?_|(refine Qd rfl (k119 _) ?_;rintro v h2 ⟨e2,rfl⟩)|refine Qn rfl ?_|refine QH rfl rfl (by omega) ?_|refine Xk rfl rfl (by omega) ?_)
   refine XJ (QhI h0 q3 n s (sqM n (n-1) (s-1) A) (.agg Vi) (.sc (.int .i64 (i:Nat)))) (s-1) (Qke h0 q3 n s (sqM n (n-1) (s-1) A) (.agg Vi) (.sc (.int .i64 (i:Nat)))) ⟨A,1,hal,rfl,Ge _,rfl,x.trans e2,c3.ext e2,rfl⟩ (Qez h0 q3 n s _ _ _ hn hs) ?_
   rintro ex E' h3 ⟨rfl,x3,c33,a,_,_,ha,hX,rfl⟩
   by_cases hf:a=n-1
   ·have:sqM n (n-1) (s-1) A=true:=by rw[← hX];simp[hf]
    rw[this]at hmr
    repeat' first|apply Qh|apply Qc|apply QV|apply Q8|apply Qm|apply Qf|(apply Qg;refine Qj rfl ?_)|(apply Qe;first|refine QM rfl rfl rfl rfl rfl ?_|refine Q7 rfl rfl rfl rfl rfl rfl ?_)|(apply Qb;first|refine XI rfl rfl (by omega) ?_|refine Qn rfl ?_|refine Q1 rfl rfl (by omega) ?_|refine X2 rfl rfl (by omega) ?_)
    exact Xb (j:=12-(i+1)) (by omega) ⟨i+1,by omega,rfl,next hmr,x3,c33,rfl⟩
   ·have:sqM n (n-1) (s-1) A=false:=by rw[← hX];simp[hf]
    rw[this]at hmr
    repeat' first|apply Qh|apply Qc|apply QD|apply Q8|apply Xn|apply Qs|apply Qf|(apply Qg;refine Qi rfl ?_)|(apply Qe;first|refine Qp rfl ?_|refine Q7 rfl rfl rfl rfl rfl rfl ?_)|(apply Qb;first|refine XI rfl rfl (by omega) ?_|refine Qn rfl ?_|refine Zh rfl rfl (by omega) ?_)
    refine Zf ⟨x3,.inr ⟨rfl,?_,rfl⟩⟩
    exact List.all_eq_false.2 ⟨b,Gl hb,by rw[hmr];simp⟩
 ·have:i=12:=by omega
  subst this
  repeat' first|apply Qh|apply Qc|apply Xc|apply Q5|apply Qf|(apply Qg;refine Qj rfl ?_)|(apply Qe;refine Q7 rfl rfl rfl rfl rfl rfl ?_)|(apply Qb;refine QW rfl rfl (by omega) ?_)
  exact Xj ⟨x,.inl ⟨rfl,hall⟩⟩
theorem Qlj(x:Nat):Lib.ctz 64 x<=64:=by
 have key:∀ f x,Lib.ctzFrom f x<=f:=by
  intro f
  induction f with
  | zero=>intro x;exact Ge _
  | succ f ih => intro x; unfold Lib.ctzFrom; split
                 ·omega
                 ·have:=ih (x/2);omega
 unfold Lib.ctz
 split
 ·omega
 ·exact key 64 x
theorem QkN(n:Nat):prM n=basesL.all fun b=>mrB n (Lib.ctz 64 (n-1)) ((n-1)/2^Lib.ctz 64 (n-1)) b:=by
 unfold prM;rw[Yw,Yw]
theorem Qef(h0:Qa)(n:Nat)(hn:2<n/\n<18446744073709551616):∃ r h',Cal FT HKt 118 [u n] h0 r h'/\Ext h0 h'/\r = .sc (.bool (prM n)):=by
 refine Cal.of (F:=a118) rfl rfl rfl ?_
 have k138:=fun H=>QhP (h:=H) (n-1) (by omega)
 have hs:=Qlj (n-1)
 rw[QkN]
 generalize hs':Lib.ctz 64 (n-1)=s at *
 have e1':((n:Int)-1)=((n-1:Nat):Int):=by omega
 repeat' first|apply Qh|apply Qc|apply Qz|apply Qf|(apply Qe;first|refine Qp rfl ?_|refine Qx rfl rfl ?_|refine Qq rfl rfl rfl ?_|refine QM rfl rfl rfl rfl rfl ?_)|(apply Qb;first|(refine QT rfl ?_;intro h1 e1 c1)|refine Xp rfl rfl ?_|(refine XI rfl rfl (by omega) ?_;rw[e1'])|(refine Qd rfl (k138 _) ?_;rintro v _ ⟨rfl,rfl⟩)|refine Qn rfl ?_)
 refine XJ (I118 h0 h0.length n s) 12 (R118 h0 n s) ⟨0,Gs _,rfl,by simp,e1,c1,rfl⟩ (QfP h0 h0.length n s hn hs) ?_
 rintro ex E' h2 ⟨x2,⟨rfl,hall⟩|⟨rfl,hall,rfl⟩⟩
 ·rw[hall]
  repeat' first|apply Qh|apply Qc|apply Q8|apply Qs|apply Qf|(apply Qe;refine Qp rfl ?_)|(apply Qb;refine Qn rfl ?_)
  exact⟨.inr rfl,x2,rfl⟩
 ·rw[hall]
  repeat' first|apply QD|apply Xn
  exact⟨.inr rfl,x2,rfl⟩
structure Cb(h0 h:Qa)(q3 q4 q5 q6 q7 q8:Nat)(sp sq s:SV)(F:Bool)(r:List Tm):Prop where
 e:Ext h0 h
 c3:Cel h q3 (.bool false) sp
 c4:Cel h q4 (.bool false) sq
 c5:Cel1 h q5 (.fn 52 [])
 c6:Cel h q6 (.bool false) .nilS
 c7:Cel h q7 (.bool false) s
 c8:Cel1 h q8 (.bool F)
 o:OwnD h0 h s (tms r)
 ord:h0.length<=q3/\q3<q4/\q4<q5/\q5<q6/\q6<q7/\q7<q8
theorem qh{h:Qa}{q p:Nat}{a b:SV}(c:Cel h q a b)(hn:p≠q)(x:Blk):Cel (h.set p x) q a b:=by
 unfold Cel at *
 rw[Gn hn];exact c
theorem Uu{h h1:Qa}{q p:Nat}{a x y:SV}(c:Cel1 h q a)(w:Wr h h1 p x y)(hn:p≠q):Cel1 h1 q a:=by
 rw[w.eq];exact c.set hn _
theorem Cb.st8{h0 h h1:Qa}{q3 q4 q5 q6 q7 q8:Nat}{sp sq s:SV}{F G:Bool}{r:List Tm}(u:Cb h0 h q3 q4 q5 q6 q7 q8 sp sq s F r)(hh:h1=h.set q8 (.cells [.bool G] true 0))(c:Cel1 h1 q8 (.bool G)):Cb h0 h1 q3 q4 q5 q6 q7 q8 sp sq s G r:=by
 have o:=u.ord
 subst hh
 exact⟨u.e.set (by omega) _,qh u.c3 (by omega) _,qh u.c4 (by omega) _,u.c5.set (by omega) _,qh u.c6 (by omega) _,qh u.c7 (by omega) _,c,u.o.set (u.o.cel u.c8) _,o⟩
theorem Cb.push{h0 h h6 h7:Qa}{q3 q4 q5 q6 q7 q8:Nat}{sp sq s s':SV}{F:Bool}{r r':List Tm}(u:Cb h0 h q3 q4 q5 q6 q7 q8 sp sq s F r)(o6:OwnD h0 h6 s' (tms r'))(e6:Ext h0 h6)(f6:Fram h h6 s s')(w7:Wr h6 h7 q7 (.bool false) s'):Cb h0 h7 q3 q4 q5 q6 q7 q8 sp sq s' F r':=by
 have o:=u.ord
 exact⟨w7.ext e6 (by omega),w7.keep (u.c3.fram f6 (u.o.cel u.c3)) (by omega),w7.keep (u.c4.fram f6 (u.o.cel u.c4)) (by omega),Uu (u.c5.fram f6 (u.o.cel u.c5)) w7 (by omega),w7.keep (u.c6.fram f6 (u.o.cel u.c6)) (by omega),w7.cel,Uu (u.c8.fram f6 (u.o.cel u.c8)) w7 (by omega),o6.wrC w7,o⟩
theorem QlG(h0:Qa)(a b:Int)(ha:a.natAbs<=cM)(hb:b.natAbs<=cM):∃ r h',Cal FT HKt 52 ([.sc (.int .i64 a),.sc (.int .i64 b)]++([]:List (Nat×Nat)).map fun p=>AV.sc (.ptr p.1 p.2)) h0 r h'/\r = .sc (.int .i64 (a+b))/\h'=h0:=by
 refine Cal.of (F:=a52) rfl rfl rfl ?_
 simp only[cM]at ha hb
 repeat' first|apply Qh|apply Qc|apply Qs|apply Qf|(apply Qe;first|refine Qp rfl ?_|refine Qx rfl rfl ?_)|(apply Qb;first|refine Qn rfl ?_|refine Q1 rfl rfl (by omega) ?_)
 exact⟨.inr rfl,rfl,rfl⟩
def QbY(F:Bool)(c:Int):Bool:=F&&decide (c.natAbs<=cM)
theorem Ve(h0 h:Qa)(q3 q4 q5 q6 q7 q8:Nat)(sp sq s:SV)(F:Bool)(r:List Tm)(e a b:Int)(u:Cb h0 h q3 q4 q5 q6 q7 q8 sp sq s F r)(ha:a.natAbs<=cM)(hb:b.natAbs<=cM)(hl:r.length<=5000000) :
  ∃ v h',Cal FT HKt 83 [.sc (.int .i64 e),.sc (.int .i64 a),.sc (.int .i64 b),.sc (.ptr q5 0),.sc (.ptr q8 0),.sc (.ptr q7 0)] h v h'/\∃ s',Cb h0 h' q3 q4 q5 q6 q7 q8 sp sq s' (QbY F (a+b)) (r++put e (a+b)):=by
 refine Cal.of (F:=a83) rfl rfl rfl ?_
 have k54:=QlG h a b ha hb
 simp only[cM]at ha hb
 have k35:=fun H=>Zl H (a+b) 1125899906842624 (by omega)
 have hd:∀ F',QbY F' (a+b)=(F'&&decide ((a+b).natAbs<=(1125899906842624:Int).toNat)):=fun _=>rfl
 rw[hd]
 generalize decide ((a+b).natAbs<=(1125899906842624:Int).toNat)=D at *
 generalize hC:a+b=C at *
 have c5:=u.c5.at
 have c8:=u.c8.at
 cases F <;> by_cases hz:C=0
 ·have hp:r++put e C=r:=by unfold put;rw[if_pos hz,Hp]
  rw[hp]
  repeat' first|apply Qh|apply Qc|apply Qm|apply Qf|(apply Qg;refine Qj rfl ?_)|(apply Qe;first|refine Qq rfl rfl rfl ?_|refine QA rfl rfl rfl rfl ?_)|(apply Qb;first|refine X5 rfl c5 rfl ?_|refine X5 rfl c8 rfl ?_|(refine Xo rfl rfl k54 ?_;rintro v _ ⟨rfl,rfl⟩)|(refine Ja rfl rfl u.c8 ?_;intro h2 w2 c8';have u2:=u.st8 (G:=false) w2 c8')|refine Xa rfl ?_|refine Qn rfl ?_|refine Qy rfl rfl ?_|refine X2 rfl rfl (by omega) ?_)
  exact⟨.inl rfl,s,u2⟩
 ·have hp:r++put e C=r++[(e,C)]:=by unfold put;rw[if_neg hz]
  rw[hp]
  repeat' first|apply Qh|apply Qc|apply Qf|(apply Qg;refine Qi rfl ?_)|(apply Qe;first|refine Qq rfl rfl rfl ?_|refine QA rfl rfl rfl rfl ?_)|(apply Qb;first|refine X5 rfl c5 rfl ?_|refine X5 rfl c8 rfl ?_|(refine Xo rfl rfl k54 ?_;rintro v _ ⟨rfl,rfl⟩)|(refine Ja rfl rfl u.c8 ?_;intro h2 w2 c8';have u2:=u.st8 (G:=false) w2 c8')|refine QS rfl ?_|refine Qt rfl u2.c7 ?_|(refine Xp rfl rfl ?_)|(refine ZZ u2.e u2.o rfl rfl (by rw[QL];simp only[Yh];omega) ?_;intro s' h6 o6 e6 f6 l6;have cX6:=u2.c7.fram f6 (u2.o.cel u2.c7);have o6':OwnD h0 h6 s' (tms (r++[(e,C)])):=(by simpa [tms,tmP]using o6))|(refine ZO rfl rfl cX6 ?_;intro h7 w7;have u7:=u2.push o6' e6 f6 w7)|refine Xa rfl ?_|refine Qn rfl ?_|refine Qy rfl rfl ?_|refine Zh rfl rfl (by omega) ?_)
  refine yP ?_
  exact⟨.inl rfl,s',u7⟩
 ·have hp:r++put e C=r:=by unfold put;rw[if_pos hz,Hp]
  rw[hp]
  repeat' first|apply Qh|apply Qc|apply Qm|apply Qf|(apply Qg;refine Qj rfl ?_)|(apply Qe;first|refine Qq rfl rfl rfl ?_|refine QA rfl rfl rfl rfl ?_)|(apply Qb;first|refine X5 rfl c5 rfl ?_|refine X5 rfl c8 rfl ?_|(refine Xo rfl rfl k54 ?_;rintro v _ ⟨rfl,rfl⟩)|(refine Qd rfl (k35 _) ?_;rintro v _ ⟨rfl,rfl⟩)|(refine Ja rfl rfl u.c8 ?_;intro h2 w2 c8';have u2:=u.st8 (G:=D) w2 c8')|refine QE rfl ?_|refine Qn rfl ?_|refine QK rfl rfl ?_|refine X2 rfl rfl (by omega) ?_)
  exact⟨.inl rfl,s,u2⟩
 ·have hp:r++put e C=r++[(e,C)]:=by unfold put;rw[if_neg hz]
  rw[hp]
  repeat' first|apply Qh|apply Qc|apply Qf|(apply Qg;refine Qi rfl ?_)|(apply Qe;first|refine Qq rfl rfl rfl ?_|refine QA rfl rfl rfl rfl ?_)|(apply Qb;first|refine X5 rfl c5 rfl ?_|refine X5 rfl c8 rfl ?_|(refine Xo rfl rfl k54 ?_;rintro v _ ⟨rfl,rfl⟩)|(refine Qd rfl (k35 _) ?_;rintro v _ ⟨rfl,rfl⟩)|(refine Ja rfl rfl u.c8 ?_;intro h2 w2 c8';have u2:=u.st8 (G:=D) w2 c8')|refine QS rfl ?_|refine Qt rfl u2.c7 ?_|(refine Xp rfl rfl ?_)|(refine ZZ u2.e u2.o rfl rfl (by rw[QL];simp only[Yh];omega) ?_;intro s' h6 o6 e6 f6 l6;have cX6:=u2.c7.fram f6 (u2.o.cel u2.c7);have o6':OwnD h0 h6 s' (tms (r++[(e,C)])):=(by simpa [tms,tmP]using o6))|(refine ZO rfl rfl cX6 ?_;intro h7 w7;have u7:=u2.push o6' e6 f6 w7)|refine QE rfl ?_|refine Qn rfl ?_|refine QK rfl rfl ?_|refine Zh rfl rfl (by omega) ?_)
  refine yP ?_
  exact⟨.inl rfl,s',u7⟩
def mA:List Tm->List Tm->List Tm:=mrg fun a b=>a+b
def qW(l:List Tm):Prop:=∀ t∈l,t.2.natAbs<=cM
theorem Qd0{F:Bool}{e c:Int}{M:List Tm}:(F=true/\qW (put e c++M))↔(QbY F c=true/\qW M):=by
 unfold qW QbY
 simp only[Bool.and_eq_true,decide_eq_true_eq,GD]
 constructor
 ·rintro⟨h1,h2⟩
  refine⟨⟨h1,?_⟩,fun t ht=>h2 t (.inr ht)⟩
  by_cases hz:c=0
  ·subst hz;simp
  ·exact h2 (e,c) (.inl (by unfold put;rw[if_neg hz];simp))
 ·rintro⟨⟨h1,h2⟩,h3⟩
  refine⟨h1,fun t ht=>ht.elim (fun ht=>?_) (h3 t)⟩
  rw[(ZD ht).1];exact h2
theorem Qdw(e c:Int):(put e c).length<=1:=by unfold put;split <;> simp
structure Mg(p q:List Tm)(i j:Nat)(F:Bool)(r:List Tm):Prop where
 eq:mA p q=r++mA (p.drop i) (q.drop j)
 ft:qW (mA p q)↔(F=true/\qW (mA (p.drop i) (q.drop j)))
 ln:r.length<=i+j
theorem Mg.step{p q:List Tm}{i j i' j':Nat}{F:Bool}{r:List Tm}(g:Mg p q i j F r){e c:Int}(h:mA (p.drop i) (q.drop j)=put e c++mA (p.drop i') (q.drop j'))(hl:i+j<i'+j'):Mg p q i' j' (QbY F c) (r++put e c) :=
 ⟨by rw[g.eq,h,GR],by rw[g.ft,h,Qd0],by have:=g.ln;have:=Qdw e c;rw[GK];omega⟩
theorem mA_l{t:Tm}{p:List Tm}:mA (t::p) []=put t.1 (t.2+0)++mA p []:=by unfold mA;rw[mrg]
theorem mA_r{u:Tm}{q:List Tm}:mA [] (u::q)=put u.1 (0+u.2)++mA [] q:=by unfold mA;rw[mrg]
theorem mA_lt{t u:Tm}{p q:List Tm}(h:t.1<u.1):mA (t::p) (u::q)=put t.1 (t.2+0)++mA p (u::q):=by unfold mA;rw[mrg,if_pos h]
theorem mA_gt{t u:Tm}{p q:List Tm}(h:u.1<t.1):mA (t::p) (u::q)=put u.1 (0+u.2)++mA (t::p) q:=by unfold mA;rw[mrg,if_neg (by omega),if_pos h]
theorem mA_eq{t u:Tm}{p q:List Tm}(h:t.1=u.1):mA (t::p) (u::q)=put t.1 (t.2+u.2)++mA p q:=by unfold mA;rw[mrg,if_neg (by omega),if_neg (by omega)]
def I51(h0:Qa)(q3 q4 q5 q6 q7 q8:Nat)(sp sq:SV)(p q:List Tm)(E:Env)(h:Qa):Prop:=∃(i j:Nat) (s:SV) (F:Bool) (r:List Tm),i<=p.length/\j<=q.length/\Cb h0 h q3 q4 q5 q6 q7 q8 sp sq s F r/\Mg p q i j F r ∧
 E.keep [3,4,6,7,8,9,10,11]=[(3,some (.sc (.ptr q3 0))),(4,some (.sc (.ptr q4 0))),(6,some (.sc (.ptr q6 0))),(7,some (.sc (.ptr q7 0))),(8,some (.sc (.ptr q8 0))),(9,some (.sc (.fn 83 [(q5,0),(q8,0),(q7,0)]))),(10,some (.sc (.int .i64 (i:Nat)))),(11,some (.sc (.int .i64 (j:Nat))))]
def R51(h0:Qa)(q3 q4 q5 q6 q7 q8:Nat)(sp sq:SV)(p q:List Tm)(ex:Ex)(E:Env)(h:Qa):Prop:=ex = .ex 0/\∃(s:SV) (F:Bool),Cb h0 h q3 q4 q5 q6 q7 q8 sp sq s F (mA p q)/\(qW (mA p q)↔F=true)/\∃ a b c d e f,
 E=[(3,a),(4,b),(6,some (.sc (.ptr q6 0))),(7,some (.sc (.ptr q7 0))),(8,some (.sc (.ptr q8 0))),(9,c),(10,d),(11,e),(40,f)]
def qC(p q:List Tm)(E:Env)(_:Qa):Nat:=match (E.keep [3,4,6,7,8,9,10,11]).get 10,(E.keep [3,4,6,7,8,9,10,11]).get 11 with|some (.sc (.int .i64 i)),some (.sc (.int .i64 j))=>p.length+q.length-(i+j).toNat|_,_=>0
theorem Qih(h0:Qa)(q3 q4 q5 q6 q7 q8:Nat)(sp sq:SV)(p q:List Tm)(hp:IsD h0 sp (tms p))(hq:IsD h0 sq (tms q))(fp:∀ t∈p,t.2.natAbs<=cM/\t.1.natAbs<=eM)(fq:∀ t∈q,t.2.natAbs<=cM/\t.1.natAbs<=eM)(pl:p.length<=2097153)(ql:q.length<=2097153)(E:Env)(h:Qa)(hI:I51 h0 q3 q4 q5 q6 q7 q8 sp sq p q E h) :
  wA FT HKt Qhl (E.keep [3,4,6,7,8,9,10,11]) h (QC (I51 h0 q3 q4 q5 q6 q7 q8 sp sq p q) (qC p q) (qC p q E h) (R51 h0 q3 q4 q5 q6 q7 q8 sp sq p q)):=by
 obtain⟨i,j,s,F,r,hi,hj,u,g,hE⟩:=hI
 have hm:qC p q E h=p.length+q.length-(i+j):=by unfold qC;rw[hE];show p.length+q.length-((i:Int)+(j:Int)).toNat=_;omega
 rw[hm,hE]
 have lp:=hp.len
 have lq:=hq.len
 rw[QL]at lp lq
 have gl:=g.ln
 have rl:r.length<=5000000:=by omega
 have z0:(0:Int).natAbs<=cM:=by simp
 have fin:∀ i' j':Nat,i+j<i'+j'->i'<=p.length->j'<=q.length->p.length+q.length-(i'+j')<p.length+q.length-(i+j):=fun i' j' a b c=>by omega
 by_cases hip:i<p.length
 ·obtain⟨t,ht⟩:∃ t,p[i]?=some t:=⟨_,Gc hip⟩
  obtain⟨tc,te⟩:=fp t (Gl ht)
  obtain⟨id1,off1,cap1,e1,r1⟩:=hp.at (i:=i) (p:=tmP t) (by simp[ht])
  rw[QL]at e1
  subst e1
  have rp:=QO u.e r1
  obtain⟨rp1,rp2⟩:=rd1 rp
  by_cases hjq:j<q.length
  ·obtain⟨v,hv⟩:∃ v,q[j]?=some v:=⟨_,Gc hjq⟩
   obtain⟨vc,ve⟩:=fq v (Gl hv)
   obtain⟨id2,off2,cap2,e2,r2⟩:=hq.at (i:=j) (p:=tmP v) (by simp[hv])
   rw[QL]at e2
   subst e2
   have rq:=QO u.e r2
   obtain⟨rq1,rq2⟩:=rd1 rq
   by_cases hlt:t.1<v.1
   ·have g2:=g.step (i':=i+1) (j':=j) (by rw[Xy ht,Xy hv];exact mA_lt hlt) (by omega)
    have k82:=Ve h0 h q3 q4 q5 q6 q7 q8 _ _ s F r t.1 t.2 0 u tc z0 rl
    repeat' first|apply Qh|apply Qc|apply Qz|apply QV|apply Qm|apply Qf|apply QU|apply Xl|apply Xm|(apply Qg;refine Qi rfl ?_)|(apply Qe;first|apply QR|apply Xu|refine Xh rfl rfl rfl rfl rfl rfl rfl rfl ?_|refine Xd rfl rfl rfl rfl rfl rfl rfl rfl rfl ?_)|(apply Qb;first|refine QS rfl ?_|refine Qt rfl u.c3 ?_|refine Qt rfl u.c4 ?_|refine QG rfl lp ?_|refine QG rfl lq ?_|refine QJ (esz:=2) rfl rfl (by omega) ?_|refine Xx rfl rp1 ?_|refine Xx rfl rp2 ?_|refine Xx rfl rq1 ?_|(refine Xo rfl rfl k82 ?_;rintro w h2 ⟨s',u2⟩)|refine Xa rfl ?_|refine QE rfl ?_|refine Qn rfl ?_|refine QK rfl rfl ?_|refine Qy rfl rfl ?_|refine Q1 rfl rfl (by omega) ?_|refine QH rfl rfl (by omega) ?_|refine Xk rfl rfl (by omega) ?_)
    exact Xg ⟨i+1,j,s',_,_,by omega,hj,u2,g2,rfl⟩ (by unfold qC;show p.length+q.length-(((i:Nat):Int)+1+(j:Int)).toNat<_;omega)
   ·by_cases hgt:v.1<t.1
    ·have g2:=g.step (i':=i) (j':=j+1) (by rw[Xy ht,Xy hv];exact mA_gt hgt) (by omega)
     have k82:=Ve h0 h q3 q4 q5 q6 q7 q8 _ _ s F r v.1 0 v.2 u z0 vc rl
     repeat' first|apply Qh|apply Qc|apply Qz|apply QV|apply Qm|apply Qf|apply QU|apply Xl|apply Xm|(apply Qg;first|refine Qi rfl ?_|refine Qj rfl ?_)|(apply Qe;first|apply QR|apply Xu|refine Xh rfl rfl rfl rfl rfl rfl rfl rfl ?_|refine Xd rfl rfl rfl rfl rfl rfl rfl rfl rfl ?_)|(apply Qb;first|refine QS rfl ?_|refine Qt rfl u.c3 ?_|refine Qt rfl u.c4 ?_|refine QG rfl lp ?_|refine QG rfl lq ?_|refine QJ (esz:=2) rfl rfl (by omega) ?_|refine Xx rfl rp1 ?_|refine Xx rfl rq1 ?_|refine Xx rfl rq2 ?_|(refine Xo rfl rfl k82 ?_;rintro w h2 ⟨s',u2⟩)|refine Xa rfl ?_|refine QE rfl ?_|refine Qn rfl ?_|refine QK rfl rfl ?_|refine Qy rfl rfl ?_|refine Q1 rfl rfl (by omega) ?_|refine QH rfl rfl (by omega) ?_|refine QW rfl rfl (by omega) ?_|refine Xk rfl rfl (by omega) ?_)
     exact Xg ⟨i,j+1,s',_,_,hi,by omega,u2,g2,rfl⟩ (by unfold qC;show p.length+q.length-((i:Int)+(((j:Nat):Int)+1)).toNat<_;omega)
    ·have heq:t.1=v.1:=by omega
     have g2:=g.step (i':=i+1) (j':=j+1) (by rw[Xy ht,Xy hv];exact mA_eq heq) (by omega)
     have k82:=Ve h0 h q3 q4 q5 q6 q7 q8 _ _ s F r t.1 t.2 v.2 u tc vc rl
     repeat' first|apply Qh|apply Qc|apply Qz|apply QV|apply Qm|apply Qf|apply QU|apply Xl|apply Xm|(apply Qg;first|refine Qi rfl ?_|refine Qj rfl ?_)|(apply Qe;first|apply QR|apply Xu|refine Xh rfl rfl rfl rfl rfl rfl rfl rfl ?_|refine Xd rfl rfl rfl rfl rfl rfl rfl rfl rfl ?_)|(apply Qb;first|refine QS rfl ?_|refine Qt rfl u.c3 ?_|refine Qt rfl u.c4 ?_|refine QG rfl lp ?_|refine QG rfl lq ?_|refine QJ (esz:=2) rfl rfl (by omega) ?_|refine Xx rfl rp1 ?_|refine Xx rfl rp2 ?_|refine Xx rfl rq1 ?_|refine Xx rfl rq2 ?_|(refine Xo rfl rfl k82 ?_;rintro w h2 ⟨s',u2⟩)|refine Xa rfl ?_|refine QE rfl ?_|refine Qn rfl ?_|refine QK rfl rfl ?_|refine Qy rfl rfl ?_|refine Q1 rfl rfl (by omega) ?_|refine QH rfl rfl (by omega) ?_|refine QW rfl rfl (by omega) ?_|refine Xk rfl rfl (by omega) ?_)
     exact Xg ⟨i+1,j+1,s',_,_,by omega,by omega,u2,g2,rfl⟩ (by unfold qC;show p.length+q.length-(((i:Nat):Int)+1+(((j:Nat):Int)+1)).toNat<_;omega)
  ·have hjn:j=q.length:=by omega
   subst hjn
   have g2:=g.step (i':=i+1) (j':=q.length) (by rw[Xy ht,Hk];exact mA_l) (by omega)
   have k82:=Ve h0 h q3 q4 q5 q6 q7 q8 _ _ s F r t.1 t.2 0 u tc z0 rl
   repeat' first|apply Qh|apply Qc|apply Qz|apply QV|apply Qm|apply Qf|apply QU|apply Xl|apply Xm|(apply Qg;refine Qi rfl ?_)|(apply Qe;first|apply QR|apply Xu|refine Xh rfl rfl rfl rfl rfl rfl rfl rfl ?_|refine Xd rfl rfl rfl rfl rfl rfl rfl rfl rfl ?_)|(apply Qb;first|refine QS rfl ?_|refine Qt rfl u.c3 ?_|refine Qt rfl u.c4 ?_|refine QG rfl lp ?_|refine QG rfl lq ?_|refine QJ (esz:=2) rfl rfl (by omega) ?_|refine Xx rfl rp1 ?_|refine Xx rfl rp2 ?_|(refine Xo rfl rfl k82 ?_;rintro w h2 ⟨s',u2⟩)|refine Xa rfl ?_|refine QaF rfl ?_|refine Qn rfl ?_|refine QK rfl rfl ?_|refine Q1 rfl rfl (by omega) ?_|refine QH rfl rfl (by omega) ?_|refine XC rfl rfl (by omega) ?_)
   exact Xg ⟨i+1,q.length,s',_,_,by omega,hj,u2,g2,rfl⟩ (by unfold qC;show p.length+q.length-(((i:Nat):Int)+1+(q.length:Int)).toNat<_;omega)
 ·have hin:i=p.length:=by omega
  subst hin
  by_cases hjq:j<q.length
  ·obtain⟨v,hv⟩:∃ v,q[j]?=some v:=⟨_,Gc hjq⟩
   obtain⟨vc,ve⟩:=fq v (Gl hv)
   obtain⟨id2,off2,cap2,e2,r2⟩:=hq.at (i:=j) (p:=tmP v) (by simp[hv])
   rw[QL]at e2
   subst e2
   have rq:=QO u.e r2
   obtain⟨rq1,rq2⟩:=rd1 rq
   have g2:=g.step (i':=p.length) (j':=j+1) (by rw[Xy hv,Hk];exact mA_r) (by omega)
   have k82:=Ve h0 h q3 q4 q5 q6 q7 q8 _ _ s F r v.1 0 v.2 u z0 vc rl
   repeat' first|apply Qh|apply Qc|apply Qz|apply QV|apply Qm|apply Qf|apply QU|apply Xl|apply Xm|(apply Qg;first|refine Qi rfl ?_|refine Qj rfl ?_)|(apply Qe;first|apply QR|apply Xu|refine Xh rfl rfl rfl rfl rfl rfl rfl rfl ?_|refine Xd rfl rfl rfl rfl rfl rfl rfl rfl rfl ?_)|(apply Qb;first|refine QS rfl ?_|refine Qt rfl u.c3 ?_|refine Qt rfl u.c4 ?_|refine QG rfl lp ?_|refine QG rfl lq ?_|refine QJ (esz:=2) rfl rfl (by omega) ?_|refine Xx rfl rq1 ?_|refine Xx rfl rq2 ?_|(refine Xo rfl rfl k82 ?_;rintro w h2 ⟨s',u2⟩)|refine Xa rfl ?_|refine QE rfl ?_|refine Qn rfl ?_|refine QK rfl rfl ?_|refine Qy rfl rfl ?_|refine Q1 rfl rfl (by omega) ?_|refine QH rfl rfl (by omega) ?_|refine QW rfl rfl (by omega) ?_|refine XC rfl rfl (by omega) ?_|refine Xk rfl rfl (by omega) ?_)
   exact Xg ⟨p.length,j+1,s',_,_,hi,by omega,u2,g2,rfl⟩ (by unfold qC;show p.length+q.length-((p.length:Int)+(((j:Nat):Int)+1)).toNat<_;omega)
  ·have hjn:j=q.length:=by omega
   subst hjn
   repeat' first|apply Qh|apply Qc|apply Xc|apply Q5|apply Qf|(apply Qg;refine Qj rfl ?_)|(apply Qe;refine Xd rfl rfl rfl rfl rfl rfl rfl rfl rfl ?_)|(apply Qb;first|refine QS rfl ?_|refine Qt rfl u.c3 ?_|refine Qt rfl u.c4 ?_|refine QG rfl lp ?_|refine QG rfl lq ?_|refine QE rfl ?_|refine Qn rfl ?_|refine Qy rfl rfl ?_|refine QW rfl rfl (by omega) ?_)
   have h1:=g.eq
   have h2:=g.ft
   have e0:mA [] []=[]:=by unfold mA;rw[mrg]
   rw[Hk,Hk,e0]at h1 h2
   rw[Hp]at h1
   rw[← h1]at u
   exact XA ⟨rfl,s,F,u,h2.trans ⟨fun h=>h.1,fun h=>⟨h,fun t ht=>absurd ht (by simp)⟩⟩,_,_,_,_,_,_,rfl⟩
open Classical in
noncomputable def Y7(p q:Pol):Pol:=if p.big=true∨q.big=true then YI else if qW (mA p.ts q.ts) then ⟨false,mA p.ts q.ts⟩ else YI
theorem QlH(h0:Qa)(sp sq:SV)(p q:Pol)(hp:IsD h0 sp (tms p.ts))(hq:IsD h0 sq (tms q.ts))(kp:Pok p)(kq:Pok q) :
  ∃ r h',Cal FT HKt 51 [.agg [.bool p.big,sp],.agg [.bool q.big,sq],.sc (.fn 52 [])] h0 r h'/\Ext h0 h'/\Z5 h' r (Y7 p q):=by
 refine Cal.of (F:=a51) rfl rfl rfl ?_
 have lp:=hp.len
 have lq:=hq.len
 rw[QL]at lp lq
 by_cases hbp:p.big=true
 ·have e:Y7 p q=YI:=by unfold Y7;rw[if_pos (.inl hbp)]
  rw[e,hbp]
  repeat' first|apply Qh|apply Qc|apply QD|apply Qs|apply Qf|(apply Qg;refine Qi rfl ?_)|(apply Qe;first|refine Qp rfl ?_|refine QA rfl rfl rfl rfl ?_|refine QM rfl rfl rfl rfl rfl ?_)|(apply Qb;first|(have z:=e5;apply QQ;intro h6 e6 c6;have d3:=c3.ext (e4.trans (e5.trans e6)))|(have z:=e4;refine qU rfl ?_;intro h5 e5 c5)|(have z:=e3;refine Qr rfl ?_;intro h4 e4 c4)|(refine Qr rfl ?_;intro h3 e3 c3)|refine QB rfl d3 ?_|(refine Xp rfl rfl ?_)|(refine QZ rfl rfl c6 ?_;intro h7 w7)|refine Xa rfl ?_|refine Qn rfl ?_|refine QK rfl rfl ?_|refine Xt rfl rfl ?_)
  exact⟨.inr rfl,QY rfl w7.cel.read ⟨w7.ext (e3.trans (e4.trans (e5.trans e6))) (Gh e3.len (Gh e4.len e5.len)),.nilS,rfl,IsD.nil _⟩⟩
 have hbp':p.big=false:=by simpa using hbp
 rw[hbp']
 by_cases hbq:q.big=true
 ·have e:Y7 p q=YI:=by unfold Y7;rw[if_pos (.inr hbq)]
  rw[e,hbq]
  repeat' first|apply Qh|apply Qc|apply QD|apply Qs|apply Qf|(apply Qg;refine Qi rfl ?_)|(apply Qe;first|refine Qp rfl ?_|refine QA rfl rfl rfl rfl ?_|refine QM rfl rfl rfl rfl rfl ?_)|(apply Qb;first|(have z:=e5;apply QQ;intro h6 e6 c6;have d3:=c3.ext (e4.trans (e5.trans e6));have d4:=c4.ext (e5.trans e6))|(have z:=e4;refine qU rfl ?_;intro h5 e5 c5)|(have z:=e3;refine Qr rfl ?_;intro h4 e4 c4)|(refine Qr rfl ?_;intro h3 e3 c3)|refine QB rfl d3 ?_|refine QB rfl d4 ?_|(refine Xp rfl rfl ?_)|(refine QZ rfl rfl c6 ?_;intro h7 w7)|refine QE rfl ?_|refine Qn rfl ?_|refine Qy rfl rfl ?_|refine Xt rfl rfl ?_)
  exact⟨.inr rfl,QY rfl w7.cel.read ⟨w7.ext (e3.trans (e4.trans (e5.trans e6))) (Gh e3.len (Gh e4.len e5.len)),.nilS,rfl,IsD.nil _⟩⟩
 have hbq':q.big=false:=by simpa using hbq
 rw[hbq']
 have nb:¬(p.big=true∨q.big=true):=fun h=>h.elim hbp hbq
 have pl:=kp.len
 have ql:=kq.len
 repeat' first|apply Qh|apply Qc|apply Qz|apply Qm|apply Qf|(apply Qg;refine Qj rfl ?_)|(apply Qe;first|refine QA rfl rfl rfl rfl ?_|refine QM rfl rfl rfl rfl rfl ?_|refine Q7 rfl rfl rfl rfl rfl rfl ?_|refine Xh rfl rfl rfl rfl rfl rfl rfl rfl ?_)|(apply Qb;first|(have z:=e7;apply y7;intro h8 e8 c8;have u8:Cb h0 h8 h0.length h3.length h4.length h5.length hB.length h7.length sp sq S false []:=⟨xB.trans (e7.trans e8),d3_B.ext (e7.trans e8),d4_B.ext (e7.trans e8),Cel1.ext d5_B (e7.trans e8),c6_B.ext (e7.trans e8),c7.ext e8,c8,((oB.ext e7).ext e8).weaken x6.len,⟨Ge _,c3.lt,c4.lt,Cel1.lt c5,by have:=c6.lt;omega,c7.lt⟩⟩)|(have z:=xB;refine QT rfl ?_;intro h7 e7 c7)|(have z:=e5;apply QQ;intro h6 e6 c6;have d3:=c3.ext (e4.trans (e5.trans e6));have d4:=c4.ext (e5.trans e6);have d5:=Cel1.ext c5 e6;have x6:=e3.trans (e4.trans (e5.trans e6)))|(have z:=e4;refine qU rfl ?_;intro h5 e5 c5)|(have z:=e3;refine Qr rfl ?_;intro h4 e4 c4)|(refine Qr rfl ?_;intro h3 e3 c3)|refine QB rfl d3 ?_|refine QB rfl d4 ?_|refine Qt rfl d3 ?_|refine Qt rfl d4 ?_|refine QG rfl lp ?_|refine QG rfl lq ?_|(refine zW x6 rfl rfl (by simp only[Yh];omega) ?_;intro S hB oB eB xB lB;have d3_B:=d3.ext eB;have d4_B:=d4.ext eB;have d5_B:=Cel1.ext d5 eB;have c6_B:=c6.ext eB)|(refine Xp rfl rfl ?_)|(refine Ja rfl rfl u8.c8 ?_;intro h9 w9 c9;have u9:=u8.st8 (G:=true) w9 c9)|refine QE rfl ?_|refine Qn rfl ?_|refine Qy rfl rfl ?_|refine Q1 rfl rfl (by omega) ?_|refine Xt rfl rfl ?_)
 have g0:Mg p.ts q.ts 0 0 true []:=⟨rfl,⟨fun h=>⟨rfl,h⟩,fun h=>h.2⟩,Ge _⟩
 refine YK (I51 h0 h0.length h3.length h4.length h5.length hB.length h7.length sp sq p.ts q.ts) (qC p.ts q.ts) (R51 h0 h0.length h3.length h4.length h5.length hB.length h7.length sp sq p.ts q.ts) ⟨0,0,S,true,[],Gs _,Gs _,u9,g0,rfl⟩ (Qih h0 h0.length h3.length h4.length h5.length hB.length h7.length sp sq p.ts q.ts hp hq (fun t ht=>⟨kp.cf t ht,kp.ex t ht⟩) (fun t ht=>⟨kq.cf t ht,kq.ex t ht⟩) pl ql) ?_
 rintro ex E' hC ⟨rfl,s,F,uC,hF,_,_,_,_,_,_,rfl⟩
 have o:=uC.ord
 have c8:=uC.c8.at
 have c6:=uC.c6
 have lq6:h0.length<=h5.length:=by omega
 cases F
 ·have e:Y7 p q=YI:=by unfold Y7;rw[if_neg nb,if_neg (fun h=>by have:=hF.1 h;simp at this)]
  rw[e]
  repeat' first|apply Qh|apply Qc|apply QD|apply Q8|apply Qs|apply Qf|(apply Qg;refine Qi rfl ?_)|(apply Qe;first|refine Qp rfl ?_|refine Qq rfl rfl rfl ?_)|(apply Qb;first|refine X5 rfl c8 rfl ?_|(refine Xp rfl rfl ?_)|(refine QZ rfl rfl c6 ?_;intro hD wD)|refine YW rfl ?_)
  exact⟨.inr rfl,QY rfl wD.cel.read ⟨wD.ext uC.e lq6,.nilS,rfl,IsD.nil _⟩⟩
 ·have e:Y7 p q=⟨false,mA p.ts q.ts⟩:=by unfold Y7;rw[if_neg nb,if_pos (hF.2 rfl)]
  rw[e]
  repeat' first|apply Qh|apply Qc|apply Q8|apply Qm|apply Qs|apply Qf|(apply Qg;refine Qj rfl ?_)|(apply Qe;first|refine Qp rfl ?_|refine Qq rfl rfl rfl ?_)|(apply Qb;first|refine X5 rfl c8 rfl ?_|refine Qv rfl uC.c7 ?_|(refine QZ rfl rfl c6 ?_;intro hD wD)|refine XX rfl ?_)
  exact⟨.inr rfl,QY rfl wD.cel.read ⟨wD.ext uC.e lq6,s,rfl,(uC.o.wrC wD).is⟩⟩
theorem Qhe(h0:Qa)(sp sq:SV)(p q:Pol)(hp:IsD h0 sp (tms p.ts))(hq:IsD h0 sq (tms q.ts))(kp:Pok p)(kq:Pok q) :
  ∃ r h',Cal FT HKt 21 [.agg [.bool p.big,sp],.agg [.bool q.big,sq]] h0 r h'/\Ext h0 h'/\Z5 h' r (Y7 p q):=by
 refine Cal.of (F:=a21) rfl rfl rfl ?_
 have k53:=fun H (e:Ext h0 H)=>QlH H sp sq p q (hp.ext e) (hq.ext e) kp kq
 generalize Y7 p q=D at *
 repeat' first|apply Qh|apply Qc|apply Qs|apply Qf|(apply Qe;first|refine Qp rfl ?_|refine Qq rfl rfl rfl ?_)|(apply Qb;first|(have z:=e2;apply QQ;intro h3 e3 c4;have d2:=c2.ext (e2.trans e3);have d3:=c3.ext e3;have x3:=e1.trans (e2.trans e3))|(have z:=e1;refine Qr rfl ?_;intro h2 e2 c3)|(refine Qr rfl ?_;intro h1 e1 c2)|refine Qv rfl d2 ?_|refine Qv rfl d3 ?_|(refine Qd rfl (k53 h3 x3) ?_;rintro r h4 ⟨e4,s,rfl,is⟩;have c4_4:=c4.ext e4)|(refine QZ rfl rfl c4_4 ?_;intro h5 w5))
 exact⟨.inr rfl,QY rfl w5.cel.read ⟨w5.ext (x3.trans e4) (Gh e1.len e2.len),s,rfl,is.wrC w5⟩⟩
theorem Qeg(h0:Qa)(a:Int):∃ r h',Cal FT HKt 117 [.sc (.int .i64 a)] h0 r h'/\r = .sc (.bool false)/\h'=h0:=by
 refine Cal.of (F:=a117) rfl rfl rfl ?_
 repeat' first|apply Qh|apply Qc|apply Qs|apply Qf|(apply Qe;refine Qp rfl ?_)|(apply Qb;first|refine Qn rfl ?_|refine X2 rfl rfl (by omega) ?_)
 exact⟨.inr rfl,rfl,rfl⟩
def JR(a b:Int):Int:=if a<b then -1 else if b<a then 1 else 0
theorem Qlt(h0:Qa)(a b:Int):∃ r h',Cal FT HKt 91 [.sc (.int .i64 a),.sc (.int .i64 b)] h0 r h'/\r = .sc (.int .i64 (JR a b))/\h'=h0:=by
 refine Cal.of (F:=a91) rfl rfl rfl ?_
 have k84a:=fun H=>Qeg H a
 have k84b:=fun H=>Qeg H b
 by_cases h1:a<b
 ·have e:JR a b = -1:=by unfold JR;rw[if_pos h1]
  rw[e]
  repeat' first|apply Qh|apply Qc|apply QD|apply Qm|apply Qs|apply Qf|(apply Qg;first|refine Qi rfl ?_|refine Qj rfl ?_)|(apply Qe;first|refine Qp rfl ?_|refine Qx rfl rfl ?_|refine Qq rfl rfl rfl ?_|refine QA rfl rfl rfl rfl ?_)|(apply Qb;first|(refine Qd rfl (k84a _) ?_;rintro r _ ⟨rfl,rfl⟩)|(refine Qd rfl (k84b _) ?_;rintro r _ ⟨rfl,rfl⟩)|refine Qn rfl ?_|refine QH rfl rfl (by omega) ?_)
  exact⟨.inr rfl,rfl,rfl⟩
 ·by_cases h2:b<a
  ·have e:JR a b=1:=by unfold JR;rw[if_neg h1,if_pos h2]
   rw[e]
   repeat' first|apply Qh|apply Qc|apply QD|apply Qm|apply Qs|apply Qf|(apply Qg;first|refine Qi rfl ?_|refine Qj rfl ?_)|(apply Qe;first|refine Qp rfl ?_|refine Qx rfl rfl ?_|refine Qq rfl rfl rfl ?_|refine QA rfl rfl rfl rfl ?_)|(apply Qb;first|(refine Qd rfl (k84a _) ?_;rintro r _ ⟨rfl,rfl⟩)|(refine Qd rfl (k84b _) ?_;rintro r _ ⟨rfl,rfl⟩)|refine Qn rfl ?_|refine QW rfl rfl (by omega) ?_|refine X9 rfl rfl (by omega) ?_)
   exact⟨.inr rfl,rfl,rfl⟩
  ·have e:JR a b=0:=by unfold JR;rw[if_neg h1,if_neg h2]
   rw[e]
   repeat' first|apply Qh|apply Qc|apply Qm|apply Qs|apply Qf|(apply Qg;refine Qj rfl ?_)|(apply Qe;first|refine Qp rfl ?_|refine Qx rfl rfl ?_|refine Qq rfl rfl rfl ?_|refine QA rfl rfl rfl rfl ?_)|(apply Qb;first|(refine Qd rfl (k84a _) ?_;rintro r _ ⟨rfl,rfl⟩)|(refine Qd rfl (k84b _) ?_;rintro r _ ⟨rfl,rfl⟩)|refine Qn rfl ?_|refine QW rfl rfl (by omega) ?_|refine XY rfl rfl (by omega) ?_)
   exact⟨.inr rfl,rfl,rfl⟩
theorem Qg5(h0:Qa)(a c b:Int):∃ r h',Cal FT HKt 90 ([.agg [.int .i64 a,.int .i64 c],.sc (.int .i64 b)]++([]:List (Nat×Nat)).map fun p=>AV.sc (.ptr p.1 p.2)) h0 r h'/\Ext h0 h'/\r = .sc (.int .i64 (JR a b)):=by
 refine Cal.of (F:=a90) rfl rfl rfl ?_
 have k63:=fun H=>Qlt H a b
 repeat' first|apply Qh|apply Qc|apply Qs|apply Qf|(apply Qe;first|refine Qp rfl ?_|refine Qx rfl rfl ?_)|(apply Qb;first|(refine Qr rfl ?_;intro h1 e1 c1)|refine QB rfl c1 ?_|(refine Qd rfl (k63 _) ?_;rintro r _ ⟨rfl,rfl⟩)|refine Qn rfl ?_|refine Xt rfl rfl ?_)
 exact⟨.inr rfl,e1,rfl⟩
def I89(h0:Qa)(s:SV)(ts:List Tm)(tg:Int)(E:Env)(h:Qa):Prop:=Ext h0 h/\∃ i j:Nat,i<=j/\j<=ts.length/\(∀ k,k<i->∀ t,ts[k]?=some t->t.1<tg)/\(∀ k,j<=k->∀ t,ts[k]?=some t->tg<=t.1) ∧
 E.keep [0,1,2,8,9,10]=[(0,some (.sc s)),(1,some (.sc (.int .i64 tg))),(2,some (.sc (.fn 90 []))),(8,some (.sc (.int .i64 (ts.length:Nat)))),(9,some (.sc (.int .i64 (i:Nat)))),(10,some (.sc (.int .i64 (j:Nat))))]
def R89(h0:Qa)(s:SV)(ts:List Tm)(tg:Int)(ex:Ex)(E:Env)(h:Qa):Prop:=Ext h0 h/\ex = .ex 0/\∃ i:Nat,i<=ts.length/\(∀ k,k<i->∀ t,ts[k]?=some t->t.1<tg)/\(∀ k,i<=k->∀ t,ts[k]?=some t->tg<=t.1)/\∃ a b,
 E=[(0,some (.sc s)),(1,some (.sc (.int .i64 tg))),(2,some (.sc (.fn 90 []))),(8,some (.sc (.int .i64 (ts.length:Nat)))),(9,some (.sc (.int .i64 (i:Nat)))),(10,a),(17,b)]
def qS(E:Env)(_:Qa):Nat:=match (E.keep [0,1,2,8,9,10]).get 9,(E.keep [0,1,2,8,9,10]).get 10 with|some (.sc (.int .i64 i)),some (.sc (.int .i64 j))=>(j-i).toNat|_,_=>0
theorem Qdd{ts:List Tm}(hc:Can ts){a b:Nat}{t u:Tm}(ha:ts[a]?=some t)(hb:ts[b]?=some u)(h:a<=b):t.1<=u.1:=by
 by_cases e:a=b
 ·subst e;rw[ha]at hb;cases hb;exact Int.le_refl _
 ·obtain⟨h1,rfl⟩:=Gb.1 ha
  obtain⟨h2,rfl⟩:=Gb.1 hb
  have:=(List.pairwise_iff_getElem.1 hc.asc) a b h1 h2 (by omega)
  omega
theorem Qh8(h0:Qa)(s:SV)(ts:List Tm)(tg:Int)(hs:IsD h0 s (tms ts))(hc:Can ts)(hl:ts.length<=3000000)(E:Env)(h:Qa)(hI:I89 h0 s ts tg E h) :
  wA FT HKt QjP (E.keep [0,1,2,8,9,10]) h (QC (I89 h0 s ts tg) qS (qS E h) (R89 h0 s ts tg)):=by
 obtain⟨he,i,j,hij,hj,hlo,hhi,hE⟩:=hI
 have hm:qS E h=j-i:=by unfold qS;rw[hE];show ((j:Int)-(i:Int)).toNat=_;omega
 rw[hm,hE]
 by_cases hlt:i<j
 ·obtain⟨m,hmm⟩:∃ m:Nat,m=(i+j)/2:=⟨_,rfl⟩
  have e1:((i:Int)+(j:Int))/((2^1:Nat):Int)=(m:Int):=by rw[hmm];simp
  obtain⟨t,ht⟩:∃ t,ts[m]?=some t:=⟨_,Gc (by omega)⟩
  obtain⟨id,off,cap,e2,r0⟩:=hs.at (i:=m) (p:=tmP t) (by simp[ht])
  rw[QL]at e2
  subst e2
  have r1:=QO he r0
  have k62:=Qg5 h t.1 t.2 tg
  by_cases hv:t.1<tg
  ·have e:JR t.1 tg = -1:=by unfold JR;rw[if_pos hv]
   rw[e]at k62
   repeat' first|apply Qh|apply Qc|apply Qz|apply QV|apply Qm|apply Qf|(apply Qg;refine Qi rfl ?_)|(apply Qe;first|refine Q7 rfl rfl rfl rfl rfl rfl ?_|refine Xr rfl rfl rfl rfl rfl rfl rfl ?_|refine Xh rfl rfl rfl rfl rfl rfl rfl rfl ?_)|(apply Qb;first|(refine QbJ rfl (by omega) ?_)|(refine XQ (q:=1) rfl rfl rfl (by omega) ?_;rw[e1])|refine QJ (esz:=2) rfl rfl (by omega) ?_|refine XN rfl r1 ?_|(refine Xo rfl rfl k62 ?_;rintro r h2 ⟨e2,rfl⟩)|refine Qn rfl ?_|refine Q1 rfl rfl (by omega) ?_|refine YE rfl (by omega) ?_|refine QH rfl rfl (by omega) ?_)
   refine Xg ⟨he.trans e2,m+1,j,by omega,hj,fun k hk u hu=>?_,hhi,rfl⟩ (by unfold qS;show ((j:Int)-((m:Nat)+1)).toNat<j-i;omega)
   have:=Qdd hc hu ht (by omega)
   omega
  ·have e:¬ JR t.1 tg<0:=by unfold JR;rw[if_neg hv];split <;> omega
   generalize JR t.1 tg=C at *
   repeat' first|apply Qh|apply Qc|apply Qz|apply QV|apply Qm|apply Qf|(apply Qg;first|refine Qi rfl ?_|refine Qj rfl ?_)|(apply Qe;first|refine Q7 rfl rfl rfl rfl rfl rfl ?_|refine Xr rfl rfl rfl rfl rfl rfl rfl ?_|refine Xh rfl rfl rfl rfl rfl rfl rfl rfl ?_)|(apply Qb;first|(refine QbJ rfl (by omega) ?_)|(refine XQ (q:=1) rfl rfl rfl (by omega) ?_;rw[e1])|refine QJ (esz:=2) rfl rfl (by omega) ?_|refine XN rfl r1 ?_|(refine Xo rfl rfl k62 ?_;rintro r h2 ⟨e2,rfl⟩)|refine Qn rfl ?_|refine Q1 rfl rfl (by omega) ?_|refine YE rfl (by omega) ?_|refine QH rfl rfl (by omega) ?_|refine QW rfl rfl (by omega) ?_)
   refine Xg ⟨he.trans e2,i,m,by omega,by omega,hlo,fun k hk u hu=>?_,rfl⟩ (by unfold qS;show ((m:Int)-(i:Int)).toNat<j-i;omega)
   have:=Qdd hc ht hu hk
   omega
 ·have:j=i:=by omega
  subst this
  repeat' first|apply Qh|apply Qc|apply Xc|apply Q5|apply Qf|(apply Qg;refine Qj rfl ?_)|(apply Qe;refine Xr rfl rfl rfl rfl rfl rfl rfl ?_)|(apply Qb;first|refine Qn rfl ?_|refine QW rfl rfl (by omega) ?_)
  exact XA ⟨he,rfl,j,hj,hlo,hhi,_,_,rfl⟩
theorem Qlu(h0:Qa)(s:SV)(ts:List Tm)(tg:Int)(hs:IsD h0 s (tms ts))(hc:Can ts)(hl:ts.length<=3000000) :
  ∃ r h',Cal FT HKt 89 [.sc s,.sc (.int .i64 tg),.sc (.fn 90 [])] h0 r h'/\Ext h0 h'/\∃(i:Nat) (b:Bool),r = .tup [.sc (.int .i64 (i:Nat)),.sc (.bool b)]/\((b=true/\∃ t,ts[i]?=some t/\t.1=tg)∨(b=false/\cf ts tg=0)):=by
 refine Cal.of (F:=a89) rfl rfl rfl ?_
 have ls:=hs.len
 rw[QL]at ls
 repeat' first|apply Qh|apply Qc|apply Qz|apply Qf|(apply Qe;first|refine Qq rfl rfl rfl ?_|refine QA rfl rfl rfl rfl ?_|refine Q7 rfl rfl rfl rfl rfl rfl ?_)|(apply Qb;first|refine QG rfl ls ?_|refine Qn rfl ?_)
 refine YK (I89 h0 s ts tg) qS (R89 h0 s ts tg) ⟨Ext.refl _,0,ts.length,Gs _,Ge _,fun k hk=>absurd hk (Nat.not_lt_zero _),fun k hk t ht=>by have:=(Gb.1 ht).1;omega,rfl⟩ (Qh8 h0 s ts tg hs hc hl) ?_
 rintro ex E' h1 ⟨e1,rfl,i,hi,hlo,hhi,_,_,rfl⟩
 by_cases hlt:i<ts.length
 ·obtain⟨t,ht⟩:∃ t,ts[i]?=some t:=⟨_,Gc hlt⟩
  have hge:=hhi i (Ge _) t ht
  obtain⟨id,off,cap,e2,r0⟩:=hs.at (i:=i) (p:=tmP t) (by simp[ht])
  rw[QL]at e2
  subst e2
  have r1:=QO e1 r0
  have k62:=Qg5 h1 t.1 t.2 tg
  by_cases hv:t.1=tg
  ·have e:JR t.1 tg=0:=by unfold JR;rw[if_neg (by omega),if_neg (by omega)]
   rw[e]at k62
   repeat' first|apply Qh|apply Qc|apply Q8|apply Qs|apply Qf|(apply Qe;refine Qx rfl rfl ?_)|(apply Qb;first|refine QJ (esz:=2) rfl rfl (by omega) ?_|refine XN rfl r1 ?_|(refine Xo rfl rfl k62 ?_;rintro r h2 ⟨e2,rfl⟩)|refine QE rfl ?_|refine Qn rfl ?_|refine QK rfl rfl ?_|refine QH rfl rfl (by omega) ?_|refine XC rfl rfl (by omega) ?_)
   exact⟨.inr rfl,e1.trans e2,i,true,rfl,.inl ⟨rfl,t,ht,hv⟩⟩
  ·have e:JR t.1 tg≠0:=by unfold JR;rw[if_neg (by omega),if_pos (by omega)];omega
   generalize JR t.1 tg=C at *
   repeat' first|apply Qh|apply Qc|apply Q8|apply Qs|apply Qf|(apply Qe;refine Qx rfl rfl ?_)|(apply Qb;first|refine QJ (esz:=2) rfl rfl (by omega) ?_|refine XN rfl r1 ?_|(refine Xo rfl rfl k62 ?_;rintro r h2 ⟨e2,rfl⟩)|refine QE rfl ?_|refine Qn rfl ?_|refine QK rfl rfl ?_|refine QH rfl rfl (by omega) ?_|refine Xk rfl rfl (by omega) ?_)
   refine⟨.inr rfl,e1.trans e2,i,false,rfl,.inr ⟨rfl,XV fun u hu he=>?_⟩⟩
   obtain⟨k,hk⟩:=List.getElem?_of_mem hu
   by_cases hki:k<i
   ·have:=hlo k hki u hk;omega
   ·have:=Qdd hc ht hk (by omega);omega
 ·repeat' first|apply Qh|apply Qc|apply Q8|apply Qs|apply Qf|(apply Qe;refine Qx rfl rfl ?_)|(apply Qb;first|refine Xa rfl ?_|refine Qn rfl ?_|refine Qy rfl rfl ?_|refine QW rfl rfl (by omega) ?_)
  refine⟨.inr rfl,e1,i,false,rfl,.inr ⟨rfl,XV fun u hu he=>?_⟩⟩
  obtain⟨k,hk⟩:=List.getElem?_of_mem hu
  have hk2:=(Gb.1 hk).1
  have:=hlo k (by omega) u hk;omega
theorem Qc4(h0:Qa)(b:Bool)(s:SV)(ts:List Tm)(tg:Int)(hs:IsD h0 s (tms ts))(hc:Can ts)(hl:ts.length<=3000000) :
  ∃ r h',Cal FT HKt 62 [.agg [.bool b,s],.sc (.int .i64 tg)] h0 r h'/\Ext h0 h'/\r = .sc (.int .i64 (cf ts tg)):=by
 refine Cal.of (F:=a62) rfl rfl rfl ?_
 have k61:=fun H (e:Ext h0 H)=>Qlu H s ts tg (hs.ext e) hc hl
 repeat' first|apply Qh|apply Qc|apply Qf|(apply Qe;first|refine Qx rfl rfl ?_|refine Qq rfl rfl rfl ?_)|(apply Qb;first|(refine Qr rfl ?_;intro h1 e1 c1)|refine QS rfl ?_|refine Qt rfl c1 ?_|(refine Qd rfl (k61 h1 e1) ?_;rintro r h2 ⟨e2,i,bb,rfl,hor⟩;have c2:=c1.ext e2)|refine Qn rfl ?_|refine Xt rfl rfl ?_)
 rcases hor with ⟨rfl,t,ht,he⟩|⟨rfl,h0⟩
 ·obtain⟨id,off,cap,e3,r0⟩:=hs.at (i:=i) (p:=tmP t) (by simp[ht])
  rw[QL]at e3
  subst e3
  have hlt:=(Gb.1 ht).1
  have r2:=QO (e1.trans e2) (rd1 r0).2
  have e:cf ts tg=t.2:=by rw[← he];exact YQ hc (Gl ht)
  rw[e]
  repeat' first|apply Qh|apply Qc|apply Qm|apply Qs|apply Qf|(apply Qg;refine Qj rfl ?_)|(apply Qe;refine Qp rfl ?_)|(apply Qb;first|refine QS rfl ?_|refine Qt rfl c2 ?_|refine QJ (esz:=2) rfl rfl (by omega) ?_|refine Xx rfl r2 ?_|refine Qn rfl ?_)
  exact⟨.inr rfl,e1.trans e2,rfl⟩
 ·rw[h0]
  repeat' first|apply Qh|apply Qc|apply QD|apply Qs|apply Qf|(apply Qg;refine Qi rfl ?_)|(apply Qe;refine Qp rfl ?_)|(apply Qb;refine Qn rfl ?_)
  exact⟨.inr rfl,e1.trans e2,rfl⟩
def qH(p q:List Tm):Int:=lo0 p+lo0 q
def Z8(p q:List Tm):Nat:=(hi0 p+hi0 q-(lo0 p+lo0 q)+1).toNat
def Y6(p q:Pol):Pol:=open Classical in
 if p.big=true∨q.big=true then YI
 else if p.ts=[]∨q.ts=[] then Yf
 else if qH p.ts q.ts < -1048576∨1048576<hi0 p.ts+hi0 q.ts then YI
 else if ∀ t∈Qbx p.ts q.ts (qH p.ts q.ts) (Z8 p.ts q.ts),t.2.natAbs<=cM then ⟨false,Qbx p.ts q.ts (qH p.ts q.ts) (Z8 p.ts q.ts)⟩ else YI
theorem Qat{p q:List Tm}(hp:Can p)(hq:Can q):∀ t∈p,∀ u∈q,qH p q<=t.1+u.1/\t.1+u.1<qH p q+Z8 p q:=fun t ht u hu=>by
 have a:=XF hp t ht
 have b:=XF hq u hu
 have c:=XM hp t ht
 have d:=XM hq u hu
 unfold qH Z8
 omega
theorem QiJ{p q:Pol}(kp:Pok p)(kq:Pok q):Pok (Y6 p q):=by
 unfold Y6
 split
 ·exact JK
 split
 ·exact JS
 split
 ·exact JK
 split
 ·rename_i h1 h2 h3 h4
  refine⟨by simp,qz _ _ _,h4,fun t ht=>?_⟩
  have:=fromC_mem.1 ht
  simp only[qH,Z8,eM]at *
  omega
 ·exact JK
theorem X7{p:List Tm}(h0:p≠[]):∃ t∈p,t.1=lo0 p:=by
 cases p with
 | nil=>exact absurd rfl h0
 | cons t r=>exact⟨t,.head _,rfl⟩
theorem Pok.lo{p:Pol}(k:Pok p) : -1048576<=lo0 p.ts/\lo0 p.ts<=1048576 ∧ -1048576<=hi0 p.ts/\hi0 p.ts<=1048576/\lo0 p.ts<=hi0 p.ts:=by
 by_cases h:p.ts=[]
 ·rw[h];simp[lo0,hi0]
 ·obtain⟨t,t1,t2⟩:=X7 h
  obtain⟨u,u1,u2⟩:=YH h
  have a:=k.ex t t1
  have b:=k.ex u u1
  have c:=XF k.can u u1
  simp only[eM]at a b
  omega
theorem Qgk{p q:Pol}(kp:Pok p)(kq:Pok q)(e:Int) : -170141183460469231731687303715884105728<mc p.ts q.ts e/\mc p.ts q.ts e<170141183460469231731687303715884105728:=by
 have h1:=QcF (p:=p.ts) kq.can kq.cf e kp.cf
 have h2:=Gz (cM*cM) kp.len
 simp only[cM]at *
 omega
structure St22(h0 h:Qa)(q4 q5 q8:Nat)(lo:Int)(a:Bool)(S s:SV)(vs:List Int)(r:List Tm):Prop where
 e:Ext h0 h
 c4:Cel h q4 (.bool a) .nilS
 c5:Cel1 h q5 (.int .i64 lo)
 c8:Cel h q8 (.bool false) s
 o:OwnD h0 h s (tms r)
 sm:IsD h S (vs.map wdP)
 ap:Go.Ab.Apart s S
theorem St22.ext{h0 h h':Qa}{q4 q5 q8:Nat}{lo:Int}{a:Bool}{S s:SV}{vs:List Int}{r:List Tm}(st:St22 h0 h q4 q5 q8 lo a S s vs r)(he:Ext h h'):St22 h0 h' q4 q5 q8 lo a S s vs r :=
 ⟨st.e.trans he,st.c4.ext he,st.c5.ext he,st.c8.ext he,st.o.ext he,st.sm.ext he,st.ap⟩
theorem St22.wr{h0 h h1:Qa}{q4 q5 q8 q:Nat}{lo:Int}{a:Bool}{S s:SV}{vs:List Int}{r:List Tm}{x y:SV}(st:St22 h0 h q4 q5 q8 lo a S s vs r)(w:Wr h h1 q x y)(hq:h0.length<=q/\q4≠q/\q5≠q/\q8≠q):St22 h0 h1 q4 q5 q8 lo a S s vs r:=by
 refine⟨w.ext st.e hq.1,w.keep st.c4 hq.2.1,?_,w.keep st.c8 hq.2.2.2,st.o.wrC w,st.sm.wrC w,st.ap⟩
 have:=st.c5
 unfold Cel1 at this ⊢
 rw[w.eq,Gn (Ne.symm hq.2.2.1)];exact this
def I22(h0:Qa)(q4 q5 q8:Nat)(lo:Int)(S:SV)(f:Int->Int)(n:Nat)(E:Env)(h:Qa):Prop:=∃(i:Nat) (s:SV),i<=n/\(∀ k:Nat,k<i->(f (lo+k)).natAbs<=cM)/\St22 h0 h q4 q5 q8 lo false S s (smL f lo n) (Zz f lo i) ∧
 E.keep [4,5,8,73,74,75]=[(4,some (.sc (.ptr q4 0))),(5,some (.sc (.ptr q5 0))),(8,some (.sc (.ptr q8 0))),(73,some (.sc S)),(74,some (.sc (.int .i64 (n:Nat)))),(75,some (.sc (.int .i64 (i:Nat))))]
def R22(h0:Qa)(q4 q5 q8:Nat)(lo:Int)(S:SV)(f:Int->Int)(n:Nat)(ex:Ex)(E:Env)(h:Qa):Prop :=
 (ex = .ex 0/\∃ s a b c d,(∀ k:Nat,k<n->(f (lo+k)).natAbs<=cM)/\St22 h0 h q4 q5 q8 lo false S s (smL f lo n) (Zz f lo n)/\E=[(4,some (.sc (.ptr q4 0))),(5,a),(8,some (.sc (.ptr q8 0))),(73,b),(74,c),(75,d),(76,some (.sc (.bool false)))]) ∨
 (ex = .rt/\¬(∀ k:Nat,k<n->(f (lo+k)).natAbs<=cM)/\Ext h0 h/\Cel h q4 (.bool true) .nilS/\E=[(4,some (.sc (.ptr q4 0)))])
theorem Qe3(g:Int->Int)(lo:Int)(n:Nat):(Zz g lo n).length<=n:=ZF (qz g lo n) fun t ht=>⟨(fromC_mem.1 ht).1,(fromC_mem.1 ht).2.1⟩
theorem Qii(h0:Qa)(q4 q5 q8:Nat)(lo:Int)(S:SV)(f:Int->Int)(n:Nat)(hn:n<=5000000)(hlo : -2097152<=lo/\lo<=2097152)(hf:∀ e,-170141183460469231731687303715884105728<f e/\f e<170141183460469231731687303715884105728)(l4:h0.length<=q4)(l8:h0.length<=q8)(n48:q4≠q8)(E:Env)(h:Qa)(hI:I22 h0 q4 q5 q8 lo S f n E h) :
  wA FT HKt Qj7 (E.keep [4,5,8,73,74,75]) h (QC (I22 h0 q4 q5 q8 lo S f n) (cK [4,5,8,73,74,75] n 75) (cK [4,5,8,73,74,75] n 75 E h) (R22 h0 q4 q5 q8 lo S f n)):=by
 obtain⟨i,s,hi,hsm,st,hE⟩:=hI
 have hm:cK [4,5,8,73,74,75] n 75 E h=n-i:=by unfold cK;rw[hE];rfl
 rw[hm,hE]
 by_cases hlt:i<n
 ·have hv:(smL f lo n)[i]?=some (f (lo+i)):=by simp[smL,hlt]
  obtain⟨id,off,cap,e1,r0⟩:=st.sm.at (i:=i) (p:=wdP (f (lo+i))) (by simp[hv])
  rw[Gp,Za]at e1
  subst e1
  have k45:=fun H=>QlD H (f (lo+i)) (hf _)
  have fl:=Qe3 f lo i
  have fs:=qV f lo i
  by_cases hb:(f (lo+i)).natAbs<=cM
  ·have hsm2:∀ k:Nat,k<i+1->(f (lo+k)).natAbs<=cM:=fun k hk=>by
    by_cases e:k=i
    ·subst e;exact hb
    ·exact hsm k (by omega)
   have e45:smV (f (lo+i))=f (lo+i):=by unfold smV;rw[if_pos hb]
   rw[e45,decide_eq_true hb]at k45
   generalize hv2:f (lo+i)=v at *
   simp only[Qcm]at k45
   have n4:=st.c4.lt
   have n5:=(Gb.1 st.c5).1
   have n8:=st.c8.lt
   have n0:=st.e.len
   by_cases hz:v=0
   ·have fs2:Zz f lo (i+1)=Zz f lo i:=by rw[fs];unfold put;rw[if_pos hz,Hp]
    subst hz
    repeat' first|apply Qh|apply Qc|apply Qz|apply QV|apply Qm|apply Qf|(apply Qg;first|refine Qi rfl ?_|refine Qj rfl ?_)|(apply Qe;first|refine Q7 rfl rfl rfl rfl rfl rfl ?_|refine Xr rfl rfl rfl rfl rfl rfl rfl ?_|refine Xh rfl rfl rfl rfl rfl rfl rfl rfl ?_|refine Xd rfl rfl rfl rfl rfl rfl rfl rfl rfl ?_)|(apply Qb;first|refine QJ (esz:=2) rfl rfl (by omega) ?_|refine XN rfl r0 ?_|(apply QQ;intro h2 e2 c2;have s2:=st.ext e2;have n2:=e2.len)|(refine QZ rfl rfl c2 ?_;intro h3 w3;have c3:=w3.cel;have s3:=s2.wr w3 (by omega))|refine Qv rfl c3 ?_|(refine Qd rfl (k45 _) ?_;rintro r h4 ⟨e4,rfl⟩;have s4:=s3.ext e4)|refine Qn rfl ?_|refine XX rfl ?_|refine Q1 rfl rfl (by omega) ?_|refine QH rfl rfl (by omega) ?_|refine X2 rfl rfl (by omega) ?_|refine Xt rfl rfl ?_)
    exact Xg ⟨i+1,s,by omega,hsm2,by rw[fs2];exact s4,rfl⟩ (by simp[cK,Env.keep,Env.get];omega)
   ·have fs2:Zz f lo (i+1)=Zz f lo i++[(lo+i,v)]:=by rw[fs];unfold put;rw[if_neg hz]
    repeat' first|apply Qh|apply Qc|apply Qz|apply QV|apply Qm|apply Qf|(apply Qg;first|refine Qi rfl ?_|refine Qj rfl ?_)|(apply Qe;first|refine Q7 rfl rfl rfl rfl rfl rfl ?_|refine Xr rfl rfl rfl rfl rfl rfl rfl ?_|refine Xh rfl rfl rfl rfl rfl rfl rfl rfl ?_|refine Xd rfl rfl rfl rfl rfl rfl rfl rfl rfl ?_)|(apply Qb;first|refine QJ (esz:=2) rfl rfl (by omega) ?_|refine XN rfl r0 ?_|(apply QQ;intro h2 e2 c2;have s2:=st.ext e2;have n2:=e2.len)|(refine QZ rfl rfl c2 ?_;intro h3 w3;have c3:=w3.cel;have s3:=s2.wr w3 (by omega))|refine Qv rfl c3 ?_|(refine Qd rfl (k45 _) ?_;rintro r h4 ⟨e4,rfl⟩;have s4:=s3.ext e4)|refine QS rfl ?_|refine Qt rfl s4.c8 ?_|refine X5 rfl s4.c5.at rfl ?_|(refine Xp rfl rfl ?_)|(refine ZZ s4.e s4.o rfl rfl (by rw[QL];simp only[Yh];omega) ?_;intro s' h5 o5 e5 f5 l5;have d8:=s4.c8.fram f5 (s4.o.cel s4.c8))|(refine ZO rfl rfl d8 ?_;intro h6 w6)|refine Qn rfl ?_|refine XX rfl ?_|refine Q1 rfl rfl (by omega) ?_|refine QH rfl rfl (by omega) ?_|refine Zh rfl rfl (by omega) ?_|refine Xt rfl rfl ?_)
    have d4:=s4.c4.fram f5 (s4.o.cel s4.c4)
    have d5:=s4.c5.fram f5 (s4.o.cel s4.c5)
    have dS:IsD h5 (.slc id off n cap) ((smL f lo n).map wdP):=IsSl.away s4.sm f5 s4.ap
    have dA:=Fram.apart f5 s4.sm s4.ap
    have c5':Cel1 h6 q5 (.int .i64 lo):=by
     unfold Cel1 at d5 ⊢
     rw[w6.eq,Gn (fun e=>by
      subst e
      have:=s4.c5
      have c8':=s4.c8
      unfold Cel1 at this
      unfold Cel at c8'
      rw[c8']at this
      simp at this)]
     exact d5
    refine Xg ⟨i+1,s',by omega,hsm2,⟨w6.ext e5 l8,w6.keep d4 n48,c5',w6.cel,?_,dS.wrC w6,dA⟩,rfl⟩ (by simp[cK,Env.keep,Env.get];omega)
    rw[fs2]
    have:=o5.wrC w6
    simpa [tms,tmP]using this
  ·have e45:smV (f (lo+i))=0:=by unfold smV;rw[if_neg hb]
   rw[e45,decide_eq_false hb]at k45
   generalize hv2:f (lo+i)=v at *
   simp only[Qcm]at k45
   have n4:=st.c4.lt
   have n5:=(Gb.1 st.c5).1
   have n8:=st.c8.lt
   have n0:=st.e.len
   repeat' first|apply Qh|apply Qc|apply QD|apply Qz|apply Xn|apply Qm|apply Qs|apply Qf|(apply Qg;refine Qi rfl ?_)|(apply Qe;first|refine Qp rfl ?_|refine Xr rfl rfl rfl rfl rfl rfl rfl ?_|refine Xh rfl rfl rfl rfl rfl rfl rfl rfl ?_|refine Xd rfl rfl rfl rfl rfl rfl rfl rfl rfl ?_)|(apply Qb;first|refine QJ (esz:=2) rfl rfl (by omega) ?_|refine XN rfl r0 ?_|(apply QQ;intro h2 e2 c2;have s2:=st.ext e2;have n2:=e2.len)|(refine QZ rfl rfl c2 ?_;intro h3 w3;have c3:=w3.cel;have s3:=s2.wr w3 (by omega))|refine Qv rfl c3 ?_|(refine Qd rfl (k45 _) ?_;rintro r h4 ⟨e4,rfl⟩;have s4:=s3.ext e4)|(refine Xp rfl rfl ?_)|(have c4:=s4.c4;refine QZ rfl rfl c4 ?_;intro h6 w6)|refine Qn rfl ?_|refine YW rfl ?_|refine QH rfl rfl (by omega) ?_|refine Xt rfl rfl ?_)
   exact YJ (.inr ⟨rfl,fun h=>hb (by have:=h i hlt;rwa [hv2]at this),w6.ext s4.e l4,w6.cel,rfl⟩)
 ·have:i=n:=by omega
  subst this
  repeat' first|apply Qh|apply Qc|apply Xc|apply Q5|apply Qf|(apply Qg;refine Qj rfl ?_)|(apply Qe;refine Xr rfl rfl rfl rfl rfl rfl rfl ?_)|(apply Qb;refine QW rfl rfl (by omega) ?_)
  exact XA (.inl ⟨rfl,s,_,_,_,_,hsm,st,rfl⟩)
end Go.Proofs.YtofknpknogfijaaGreatDoor
namespace Go.Proofs.YtofknpknogfijaaGreatDoor
open Go.Ab
set_option linter.all false
variable [HB]
def mvL(f:Int->Int)(up:Bool)(l:List Tm):List Tm:=if up=true then l.map (fun t=>(f t.1,t.2)) else (l.map fun t=>(f t.1,t.2)).reverse
def Mvf(f:Int->Int)(up:Bool):Prop:=∀ a b,a<b->if up=true then f a<f b else f b<f a
theorem Mvf.inj{f:Int->Int}{up:Bool}(m:Mvf f up){a b:Int}(h:f a=f b):a=b:=by
 rcases Int.lt_trichotomy a b with h1|h1|h1
 ·have:=m a b h1
  cases up <;> simp at this <;> omega
 ·exact h1
 ·have:=m b a h1
  cases up <;> simp at this <;> omega
def UX(f:Int->Int)(up:Bool)(p:Pol):Pol:=open Classical in
 if p.big=true then p else if ∀ t∈p.ts,(f t.1).natAbs<=eM then ⟨false,mvL f up p.ts⟩ else YI
theorem QlR{p:Pol}(k:Pok p)(h:p.big=true):p=YI:=by
 obtain⟨b,ts⟩:=p
 have:=k.big h
 simp only at h this
 subst h this
 rfl
theorem Qbz{f:Int->Int}{up:Bool}{p:Pol}(hb:p.big=false)(h:∀ t∈p.ts,(f t.1).natAbs<=eM):UX f up p=⟨false,mvL f up p.ts⟩:=by
 unfold UX;rw[if_neg (by rw[hb];simp),if_pos h]
theorem Qjf{p q:Pol}(kp:Pok p)(kq:Pok q):Pok (Y7 p q):=by
 unfold Y7
 split
 ·exact JK
 split
 ·rename_i h
  refine⟨by simp,Zo kp.can kq.can,h,fun t ht=>?_⟩
  rcases Zb ht with ⟨u,a,b⟩|⟨u,a,b⟩
  ·rw[← b];exact kp.ex u a
  ·rw[← b];exact kq.ex u a
 ·exact JK
theorem Qg1(p q:List Tm)(e:Int):cf (mA p q) e=cf p e+cf q e:=by
 unfold cf mA
 rw[Vm (x:=1) (y:=1) (fun a b=>by omega)];omega
def Bd(k:Nat)(l:List Tm):Prop:=∀ t∈l,t.1.natAbs<=k
theorem Bd.lh{k:Nat}{l:List Tm}(h:Bd k l)(h0:l≠[]):(lo0 l).natAbs<=k/\(hi0 l).natAbs<=k:=by
 obtain⟨t,a,b⟩:=X7 h0
 obtain⟨u,c,d⟩:=YH h0
 rw[← b,← d]
 exact⟨h t a,h u c⟩
set_option maxHeartbeats 16000000
set_option maxRecDepth 20000
attribute [local irreducible] Qk wA Xv Xs QC Qu QP Q6
abbrev zP2:P2:=(.nilS,.nilS)
def Ub(ps:List P2)(k:Nat):List P2:=(List.range ps.length).map fun t=>if t<k∨ps.length<=t+k then ps.getD (ps.length-1-t) zP2 else ps.getD t zP2
theorem ZL(ps:List P2)(k:Nat):(Ub ps k).length=ps.length:=by simp[Ub]
theorem qx{ps:List P2}{k t:Nat}(ht:t<ps.length):(Ub ps k)[t]?=some (if t<k∨ps.length<=t+k then ps.getD (ps.length-1-t) zP2 else ps.getD t zP2):=by
 simp[Ub,ht]
theorem QeC(ps:List P2):Ub ps 0=ps:=by
 refine Gr fun t=>?_
 rcases Gt t ps.length with h|h
 ·rw[qx h,if_neg (by omega)]
  simp[List.getD,h]
 ·rw[Gg (by rw[ZL];exact h),Gg h]
theorem QfS{ps:List P2}{k:Nat}(hk:ps.length<=2*k+1):Ub ps k=ps.reverse:=by
 refine Gr fun t=>?_
 rcases Gt t ps.length with h|h
 ·rw[qx h,List.getElem?_reverse h]
  have e:ps[ps.length-1-t]?=some (ps.getD (ps.length-1-t) zP2):=by simp[List.getD,show ps.length-1-t<ps.length by omega]
  rw[e]
  by_cases c:t<k∨ps.length<=t+k
  ·rw[if_pos c]
  ·rw[if_neg c,show ps.length-1-t=t by omega]
 ·rw[Gg (by rw[ZL];exact h),Gg (by rw[List.length_reverse];exact h)]
theorem QeD{ps:List P2}{k:Nat}(hk:k<ps.length-1-k):((Ub ps k).set k (ps.getD (ps.length-1-k) zP2)).set (ps.length-1-k) (ps.getD k zP2)=Ub ps (k+1):=by
 refine Gr fun t=>?_
 rcases Gt t ps.length with h|h
 ·rw[qx h]
  by_cases c1:t=ps.length-1-k
  ·subst c1
   rw[GI (by rw[Hb,ZL];exact h),if_pos (by omega),show ps.length-1-(ps.length-1-k)=k by omega]
  ·rw[Gn (fun e=>c1 e.symm)]
   by_cases c2:t=k
   ·subst c2
    rw[GI (by rw[ZL];exact h),if_pos (by omega)]
   ·rw[Gn (fun e=>c2 e.symm),qx h]
    by_cases c3:t<k∨ps.length<=t+k
    ·rw[if_pos c3,if_pos (by omega)]
    ·rw[if_neg c3,if_neg (by omega)]
 ·rw[Gg (by rw[Hb,Hb,ZL];exact h),Gg (by rw[ZL];exact h)]
def I92(h0 hb:Qa)(s:SV)(ps:List P2)(E:Env)(h:Qa):Prop:=∃(k:Nat) (j:Int),2*k<=ps.length/\j=(ps.length:Int)-1-k/\OwnD h0 h s (Ub ps k)/\Ext h0 h/\(∀(i:Nat) (b:Blk),hb[i]?=some b->Ys s i->h[i]?=some b) ∧
 E.keep [0,2,3]=[(0,some (.sc s)),(2,some (.sc (.int .i64 (k:Nat)))),(3,some (.sc (.int .i64 j)))]
def R92(h0 hb:Qa)(s:SV)(ps:List P2)(ex:Ex)(E:Env)(h:Qa):Prop:=ex = .ex 0/\OwnD h0 h s ps.reverse/\Ext h0 h/\(∀(i:Nat) (b:Blk),hb[i]?=some b->Ys s i->h[i]?=some b)
theorem Qh7(h0 hb:Qa)(s:SV)(ps:List P2)(hn:1<=ps.length/\ps.length<=10000000)(E:Env)(h:Qa)(hI:I92 h0 hb s ps E h) :
  wA FT HKt QjO (E.keep [0,2,3]) h (QC (I92 h0 hb s ps) (cK [0,2,3] ps.length 2) (cK [0,2,3] ps.length 2 E h) (R92 h0 hb s ps)):=by
 obtain⟨k,j,hk,hj,o,x,fr,hE⟩:=hI
 have hm:cK [0,2,3] ps.length 2 E h=ps.length-k:=by unfold cK;rw[hE];rfl
 rw[hm,hE]
 by_cases hlt:(k:Int)<j
 ·have hkl:k<ps.length-1-k:=by omega
  have ejn:j.toNat=ps.length-1-k:=by omega
  have hl:=ZL ps k
  have a1:(Ub ps k)[ps.length-1-k]?=some (ps.getD (ps.length-1-k) zP2):=by rw[qx (by omega),if_neg (by omega)]
  have a2:(Ub ps k)[k]?=some (ps.getD k zP2):=by rw[qx (by omega),if_neg (by omega)]
  obtain⟨id,cap,es,r1⟩:=o.rd a1
  obtain⟨id2,cap2,es2,r2⟩:=o.rd a2
  rw[es]at es2
  simp only[SV.slc.injEq,true_and]at es2
  obtain⟨rfl,rfl⟩:=es2
  obtain⟨id3,cap3,h3,es3,w3,o3,x3,f3,l3⟩:=OwnD.wr x o (i:=k) (by omega) (ps.getD (ps.length-1-k) zP2).1 (ps.getD (ps.length-1-k) zP2).2
  obtain⟨id4,cap4,h4,es4,w4,o4,x4,f4,l4⟩:=OwnD.wr x3 o3 (i:=ps.length-1-k) (by rw[Hb];omega) (ps.getD k zP2).1 (ps.getD k zP2).2
  have st:=QeD hkl
  rw[show ((ps.getD (ps.length-1-k) zP2).1,(ps.getD (ps.length-1-k) zP2).2)=ps.getD (ps.length-1-k) zP2 from rfl,show ((ps.getD k zP2).1,(ps.getD k zP2).2)=ps.getD k zP2 from rfl,st]at o4
  rw[es]at es3 es4
  simp only[SV.slc.injEq,true_and]at es3 es4
  obtain⟨rfl,-⟩:=es3
  obtain⟨rfl,-⟩:=es4
  rw[hl]at es
  clear st a1 a2
  generalize ps.getD (ps.length-1-k) zP2=X at *
  generalize ps.getD k zP2=Y at *
  rw[← ejn]at r1 w4
  subst es
  repeat' first|apply Qh|apply Qc|apply Qz|apply QV|apply Qm|apply Qf|apply QU|apply Xl|apply Xm|(apply Qg;refine Qi rfl ?_)|(apply Qe;first|apply QR|apply Xu|refine Qq rfl rfl rfl ?_|refine QA rfl rfl rfl rfl ?_)|(apply Qb;first|refine QJ (esz:=2) (j:=j) rfl rfl (by omega) ?_|refine QJ (esz:=2) (j:=(k:Int)) rfl rfl (by omega) ?_|refine XN rfl r1 ?_|refine XN rfl r2 ?_|refine QbH rfl rfl w3 ?_|refine QbH rfl rfl w4 ?_|refine Qn rfl ?_|refine Q1 rfl rfl (by omega) ?_|refine Yp rfl rfl (by omega) ?_|refine QH rfl rfl (by omega) ?_)
  exact Xg ⟨k+1,j-1,by omega,by omega,o4,x4,fun i b hb hn=>(f4 _ _ (f3 _ _ (fr i b hb hn) hn).1 hn).1,rfl⟩ (by simp[cK,Env.keep,Env.get];omega)
 ·rw[QfS (by omega)]at o
  repeat' first|apply Qh|apply Qc|apply Xc|apply Q5|apply Qf|(apply Qg;refine Qj rfl ?_)|(apply Qe;refine QA rfl rfl rfl rfl ?_)|(apply Qb;first|refine Qn rfl ?_|refine QW rfl rfl (by omega) ?_)
  exact XA ⟨rfl,o,x,fr⟩
theorem Qls(h0 h:Qa)(s:SV)(ps:List P2)(hn:1<=ps.length/\ps.length<=10000000)(o:OwnD h0 h s ps)(x:Ext h0 h) :
  ∃ r h',Cal FT HKt 92 [.sc s] h r h'/\OwnD h0 h' s ps.reverse/\Ext h0 h'/\∀(i:Nat) (b:Blk),h[i]?=some b->Ys s i->h'[i]?=some b:=by
 refine Cal.of (F:=a92) rfl rfl rfl ?_
 have ls:=o.len
 have o':OwnD h0 h s (Ub ps 0):=by rw[QeC];exact o
 repeat' first|apply Qh|apply Qc|apply Qz|apply Qf|(apply Qe;refine Qq rfl rfl rfl ?_)|(apply Qb;first|refine QG rfl ls ?_|refine Qn rfl ?_|refine Yp rfl rfl (by omega) ?_)
 refine YK (I92 h0 h s ps) (cK [0,2,3] ps.length 2) (R92 h0 h s ps) ⟨0,(ps.length:Int)-1,Gs _,by omega,o',x,fun _ _ hb _=>hb,rfl⟩ (Qh7 h0 h s ps hn) ?_
 rintro ex E' h3 ⟨rfl,o3,x3,f3⟩
 repeat' (refine Q8 ?_)
 exact⟨.inl rfl,o3,x3,f3⟩
def QhG(h0:Qa)(g:FuncId)(caps:List (Nat×Nat))(f:Int->Int):Prop:=∀ H,Ext h0 H->∀ e:Int,e.natAbs<=eM->∃ r h',Cal FT HKt g ([.sc (.int .i64 e)]++caps.map fun p=>AV.sc (.ptr p.1 p.2)) H r h'/\r = .sc (.int .i64 (f e))/\h'=H
abbrev mvT(f:Int->Int)(l:List Tm):List Tm:=l.map fun t=>(f t.1,t.2)
structure St63(h0 h:Qa)(q4 q5:Nat)(s:SV)(r:List Tm):Prop where
 e:Ext h0 h
 c4:Cel h q4 (.bool false) .nilS
 c5:Cel h q5 (.bool false) s
 o:OwnD h0 h s (tms r)
theorem St63.ext{h0 h h':Qa}{q4 q5:Nat}{s:SV}{r:List Tm}(x:St63 h0 h q4 q5 s r)(he:Ext h h'):St63 h0 h' q4 q5 s r:=⟨x.e.trans he,x.c4.ext he,x.c5.ext he,x.o.ext he⟩
def I63(h0:Qa)(q4 q5:Nat)(fn sp:SV)(f:Int->Int)(ts:List Tm)(E:Env)(h:Qa):Prop:=∃(i:Nat) (s:SV),i<=ts.length/\(∀ t∈ts.take i,(f t.1).natAbs<=eM)/\St63 h0 h q4 q5 s (mvT f (ts.take i)) ∧
 E.keep [1,4,5,18,19,20]=[(1,some (.sc fn)),(4,some (.sc (.ptr q4 0))),(5,some (.sc (.ptr q5 0))),(18,some (.sc sp)),(19,some (.sc (.int .i64 (ts.length:Nat)))),(20,some (.sc (.int .i64 (i:Nat))))]
def R63(h0:Qa)(q4 q5:Nat)(f:Int->Int)(ts:List Tm)(ex:Ex)(E:Env)(h:Qa):Prop :=
 (ex = .ex 0/\∃ s,(∀ t∈ts,(f t.1).natAbs<=eM)/\St63 h0 h q4 q5 s (mvT f ts)/\∃ a b c d e,E=[(1,a),(4,some (.sc (.ptr q4 0))),(5,some (.sc (.ptr q5 0))),(18,b),(19,c),(20,d),(21,e)]) ∨
 (ex = .rt/\¬(∀ t∈ts,(f t.1).natAbs<=eM)/\Ext h0 h/\Cel h q4 (.bool true) .nilS/\E=[(4,some (.sc (.ptr q4 0)))])
theorem Qie(h0:Qa)(q4 q5:Nat)(g:FuncId)(caps:List (Nat×Nat))(f:Int->Int)(kf:QhG h0 g caps f)(sp:SV)(ts:List Tm)(hs:IsD h0 sp (tms ts))(hl:ts.length<=2097153)(hx:∀ t∈ts,t.1.natAbs<=eM)(l4:h0.length<=q4)(l5:h0.length<=q5)(n45:q4≠q5)(E:Env)(h:Qa)(hI:I63 h0 q4 q5 (.fn g caps) sp f ts E h) :
  wA FT HKt QjX (E.keep [1,4,5,18,19,20]) h (QC (I63 h0 q4 q5 (.fn g caps) sp f ts) (cK [1,4,5,18,19,20] ts.length 20) (cK [1,4,5,18,19,20] ts.length 20 E h) (R63 h0 q4 q5 f ts)):=by
 obtain⟨i,s,hi,hsm,st,hE⟩:=hI
 have hm:cK [1,4,5,18,19,20] ts.length 20 E h=ts.length-i:=by unfold cK;rw[hE];rfl
 rw[hm,hE]
 by_cases hlt:i<ts.length
 ·obtain⟨t,ht⟩:∃ t,ts[i]?=some t:=⟨_,Gc hlt⟩
  have hte:=hx t (Gl ht)
  obtain⟨id,off,cap,e1,r0⟩:=hs.at (i:=i) (p:=tmP t) (by simp[ht])
  rw[QL]at e1
  subst e1
  have r1:=QO st.e r0
  have tk:ts.take (i+1)=ts.take i++[t]:=by rw[G1,ht];rfl
  have hll:(mvT f (ts.take i)).length<=2097153:=by rw[Gp,GV];omega
  have k1:=fun H (e:Ext h0 H)=>kf H e t.1 hte
  have k35:=fun H=>Zl H (f t.1) 1048576 (by omega)
  have e6:((1048576:Int)).toNat=eM:=rfl
  rw[e6]at k35
  by_cases hb:(f t.1).natAbs<=eM
  ·rw[decide_eq_true hb]at k35
   repeat' first|apply Qh|apply Qc|apply Qz|apply QV|apply Qm|apply Qf|(apply Qg;first|refine Qi rfl ?_|refine Qj rfl ?_)|(apply Qe;first|refine Q7 rfl rfl rfl rfl rfl rfl ?_|refine Xr rfl rfl rfl rfl rfl rfl rfl ?_|refine Xh rfl rfl rfl rfl rfl rfl rfl rfl ?_|refine Xd rfl rfl rfl rfl rfl rfl rfl rfl rfl ?_)|(apply Qb;first|refine QJ (esz:=2) rfl rfl (by omega) ?_|refine XN rfl r1 ?_|(refine QT rfl ?_;intro h2 e2 c7;have s2:=st.ext e2)|refine QS rfl ?_|refine QB rfl c7 ?_|(refine Xo rfl rfl (k1 h2 s2.e) ?_;rintro r h3 ⟨rfl,rfl⟩)|(refine Qd rfl (k35 _) ?_;rintro r h4 ⟨rfl,rfl⟩)|refine Qt rfl s2.c5 ?_|refine Qt rfl c7 ?_|(refine Xp rfl rfl ?_)|(refine ZZ s2.e s2.o rfl rfl (by rw[QL];simp only[Yh];omega) ?_;intro s' h5 o5 e5 f5 l5';have d5:=s2.c5.fram f5 (s2.o.cel s2.c5))|(refine ZO rfl rfl d5 ?_;intro h6 w6)|refine Qn rfl ?_|refine XX rfl ?_|refine Q1 rfl rfl (by omega) ?_|refine QH rfl rfl (by omega) ?_)
   have d4:=s2.c4.fram f5 (s2.o.cel s2.c4)
   refine Xg ⟨i+1,s',by omega,fun u hu=>?_,⟨w6.ext e5 l5,w6.keep d4 n45,w6.cel,?_⟩,rfl⟩ (by simp[cK,Env.keep,Env.get];omega)
   ·rw[tk]at hu
    rcases GD.1 hu with hu|hu
    ·exact hsm u hu
    ·simp at hu;subst hu;exact hb
   ·rw[tk]
    have:=o5.wrC w6
    simpa [tms,tmP,mvT]using this
  ·rw[decide_eq_false hb]at k35
   repeat' first|apply Qh|apply Qc|apply QD|apply Qz|apply Xn|apply Qm|apply Qs|apply Qf|(apply Qg;refine Qi rfl ?_)|(apply Qe;first|refine Qp rfl ?_|refine Xr rfl rfl rfl rfl rfl rfl rfl ?_|refine Xh rfl rfl rfl rfl rfl rfl rfl rfl ?_|refine Xd rfl rfl rfl rfl rfl rfl rfl rfl rfl ?_)|(apply Qb;first|refine QJ (esz:=2) rfl rfl (by omega) ?_|refine XN rfl r1 ?_|(refine QT rfl ?_;intro h2 e2 c7;have s2:=st.ext e2)|refine QS rfl ?_|refine QB rfl c7 ?_|(refine Xo rfl rfl (k1 h2 s2.e) ?_;rintro r h3 ⟨rfl,rfl⟩)|(refine Qd rfl (k35 _) ?_;rintro r h4 ⟨rfl,rfl⟩)|(refine Xp rfl rfl ?_)|(have c4:=s2.c4;refine QZ rfl rfl c4 ?_;intro h6 w6)|refine Qn rfl ?_|refine YW rfl ?_|refine QH rfl rfl (by omega) ?_)
   exact YJ (.inr ⟨rfl,fun h=>hb (h t (Gl ht)),w6.ext s2.e l4,w6.cel,rfl⟩)
 ·have:i=ts.length:=by omega
  subst this
  rw[GH]at hsm st
  repeat' first|apply Qh|apply Qc|apply Xc|apply Q5|apply Qf|(apply Qg;refine Qj rfl ?_)|(apply Qe;refine Xr rfl rfl rfl rfl rfl rfl rfl ?_)|(apply Qb;refine QW rfl rfl (by omega) ?_)
  exact XA (.inl ⟨rfl,s,hsm,st,_,_,_,_,_,rfl⟩)
theorem QlB(h0:Qa)(sp:SV)(p:Pol)(hp:IsD h0 sp (tms p.ts))(kp:Pok p)(f:Int->Int)(up:Bool)(m:Mvf f up)(g:FuncId)(caps:List (Nat×Nat))(kf:QhG h0 g caps f) :
  ∃ r h',Cal FT HKt 63 [.agg [.bool p.big,sp],.sc (.fn g caps)] h0 r h'/\Ext h0 h'/\Z5 h' r (UX f up p):=by
 refine Cal.of (F:=a63) rfl rfl rfl ?_
 have lp:=hp.len
 rw[QL]at lp
 have pl:=kp.len
 by_cases hbp:p.big=true
 ·have e:UX f up p=p:=by unfold UX;rw[if_pos hbp]
  rw[e,hbp]
  have hpb:∀ {h':Qa},Ext h0 h'->Z5 h' (.agg [.bool true,sp]) p:=fun x=>⟨sp,by rw[hbp],hp.ext x⟩
  repeat' first|apply Qh|apply Qc|apply QD|apply Qs|apply Qf|(apply Qg;refine Qi rfl ?_)|(apply Qe;first|refine Qp rfl ?_|refine Qq rfl rfl rfl ?_|refine QA rfl rfl rfl rfl ?_)|(apply Qb;first|(have z:=e1;apply QQ;intro h2 e2 c2;have d1:=c1.ext e2)|(refine Qr rfl ?_;intro h1 e1 c1)|refine QS rfl ?_|refine QB rfl d1 ?_|refine Qv rfl d1 ?_|(refine QZ rfl rfl c2 ?_;intro h3 w3))
  exact⟨.inr rfl,QY rfl w3.cel.read ⟨w3.ext (e1.trans e2) e1.len,hpb (w3.ext (e1.trans e2) e1.len)⟩⟩
 have hbp':p.big=false:=by simpa using hbp
 rw[hbp']
 repeat' first|apply Qh|apply Qc|apply Qz|apply Qm|apply Qf|(apply Qg;refine Qj rfl ?_)|(apply Qe;first|refine Qq rfl rfl rfl ?_|refine QA rfl rfl rfl rfl ?_|refine Q7 rfl rfl rfl rfl rfl rfl ?_)|(apply Qb;first|(have z:=xB;refine QT rfl ?_;intro h5 e5 c5;have c2_5:=c2.ext (eB.trans e5);have d1_5:=(d1.ext eB).ext e5;have oS:=oB.ext e5)|(have z:=e1;apply QQ;intro h2 e2 c2;have d1:=c1.ext e2;have x2:=e1.trans e2)|(refine Qr rfl ?_;intro h1 e1 c1)|refine QS rfl ?_|refine QB rfl d1 ?_|refine Qt rfl d1 ?_|refine Qt rfl d1_5 ?_|refine QG rfl lp ?_|(refine zW x2 rfl rfl (by simp only[Yh];omega) ?_;intro S hB oB eB xB lB)|(refine Xp rfl rfl ?_)|refine Qn rfl ?_)
 have n2:=c2.lt
 have lB2:=eB.len
 have l1:=e1.len
 have l2:=e2.len
 have st0:St63 h0 h5 h1.length hB.length S (mvT f (p.ts.take 0)):=⟨xB.trans e5,c2_5,c5,oS.weaken x2.len⟩
 refine YK (I63 h0 h1.length hB.length (.fn g caps) sp f p.ts) (cK [1,4,5,18,19,20] p.ts.length 20) (R63 h0 h1.length hB.length f p.ts) ⟨0,S,Gs _,by simp,st0,rfl⟩ (Qie h0 h1.length hB.length g caps f kf sp p.ts hp pl kp.ex l1 (by omega) (by omega)) ?_
 rintro ex E' h6 (⟨rfl,s,hall,st,a,b,c,d,e,rfl⟩|⟨rfl,hns,e6,c4,rfl⟩)
 ·have e:UX f up p=⟨false,mvL f up p.ts⟩:=Qbz hbp' hall
  rw[e]
  have ls:=st.o.len
  rw[QL,Gp]at ls
  have c4:=st.c4
  have fin0:mvL f up p.ts=mvT f p.ts->∀ {h':Qa},Wr h6 h' h1.length (.bool false) s->Ext h0 h'/\Z5 h' (.agg [.bool false,s]) ⟨false,mvL f up p.ts⟩:=fun he h' w=>⟨w.ext st.e l1,s,rfl,by rw[he];exact(st.o.wrC w).is⟩
  by_cases hlen:p.ts.length<=1
  ·have he:mvL f up p.ts=mvT f p.ts:=by
    unfold mvL
    cases up
    ·rw[if_neg (by simp)]
     match p.ts,hlen with
     | [],_=>rfl
     | [t],_=>rfl
    ·rw[if_pos rfl]
   repeat' first|apply Qh|apply Qc|apply Q8|apply Qm|apply Qs|apply Qf|apply QU|apply Xl|apply Xm|(apply Qg;refine Qj rfl ?_)|(apply Qe;first|apply QR|refine Qp rfl ?_|refine Qq rfl rfl rfl ?_)|(apply Qb;first|refine QS rfl ?_|refine Qt rfl st.c5 ?_|refine QG rfl ls ?_|refine Qv rfl st.c5 ?_|(refine QZ rfl rfl c4 ?_;intro h7 w7)|refine Xa rfl ?_|refine Qn rfl ?_|refine Qy rfl rfl ?_|refine XY rfl rfl (by omega) ?_)
   exact⟨.inr rfl,QY rfl w7.cel.read (fin0 he w7)⟩
  ·obtain⟨t0,ht0⟩:∃ t,p.ts[0]?=some t:=⟨_,Gc (by omega)⟩
   obtain⟨t1,ht1⟩:∃ t,p.ts[1]?=some t:=⟨_,Gc (by omega)⟩
   have h01:t0.1<t1.1:=by
    have:=List.pairwise_iff_getElem.1 kp.can.asc 0 1 (by omega) (by omega) (by omega)
    rw[(Gb.1 ht0).2,(Gb.1 ht1).2]at this
    exact this
   have hm:=m t0.1 t1.1 h01
   obtain⟨id,cap,es,r0⟩:=st.o.rd (i:=0) (p:=tmP (f t0.1,t0.2)) (by simp[ht0])
   obtain⟨id2,cap2,es2,r1⟩:=st.o.rd (i:=1) (p:=tmP (f t1.1,t1.2)) (by simp[ht1])
   rw[es]at es2
   simp only[SV.slc.injEq,true_and]at es2
   obtain⟨rfl,rfl⟩:=es2
   rw[QL,Gp]at es
   have r0':=(rd1 r0).1
   have r1':=(rd1 r1).1
   cases up
   ·simp only[Bool.false_eq_true,if_false]at hm
    have k83:=Qls h0 h6 s (tms (mvT f p.ts)) (by rw[QL,Gp];omega) st.o st.e
    have er:(tms (mvT f p.ts)).reverse=tms (mvL f false p.ts):=by
     unfold mvL
     rw[if_neg (by simp)]
     exact List.map_reverse.symm
    rw[er]at k83
    have n4:=st.o.cel st.c4
    have n5:=st.o.cel st.c5
    subst es
    repeat' first|apply Qh|apply Qc|apply Q8|apply Qs|apply Qf|apply QU|apply Xl|apply Xm|(apply Qg;refine Qi rfl ?_)|(apply Qe;first|apply QR|refine Qp rfl ?_|refine Qx rfl rfl ?_|refine Qq rfl rfl rfl ?_)|(apply Qb;first|refine QS rfl ?_|(have z:=f7;refine Qv rfl d5 ?_)|refine Qt rfl st.c5 ?_|refine QG rfl ls ?_|refine QJ (esz:=2) (j:=0) rfl rfl (by omega) ?_|refine QJ (esz:=2) (j:=1) rfl rfl (by omega) ?_|refine Xx rfl r0' ?_|refine Xx rfl r1' ?_|(refine Qd rfl k83 ?_;rintro r h7 ⟨o7,x7,f7⟩;have d4:=f7 _ _ st.c4 n4;have d5:=f7 _ _ st.c5 n5)|(refine QZ rfl rfl d4 ?_;intro h8 w8)|refine QE rfl ?_|refine Qn rfl ?_|refine QK rfl rfl ?_|refine X9 rfl rfl (by omega) ?_)
    exact⟨.inr rfl,QY rfl w8.cel.read ⟨w8.ext x7 l1,_,rfl,(o7.wrC w8).is⟩⟩
   ·simp only[if_true]at hm
    have he:mvL f true p.ts=mvT f p.ts:=by unfold mvL;rw[if_pos rfl]
    subst es
    repeat' first|apply Qh|apply Qc|apply Q8|apply Qm|apply Qs|apply Qf|apply QU|apply Xl|apply Xm|(apply Qg;refine Qj rfl ?_)|(apply Qe;first|apply QR|refine Qp rfl ?_|refine Qq rfl rfl rfl ?_)|(apply Qb;first|refine QS rfl ?_|refine Qt rfl st.c5 ?_|refine QG rfl ls ?_|refine QJ (esz:=2) (j:=0) rfl rfl (by omega) ?_|refine QJ (esz:=2) (j:=1) rfl rfl (by omega) ?_|refine Xx rfl r0' ?_|refine Xx rfl r1' ?_|refine Qv rfl st.c5 ?_|(refine QZ rfl rfl c4 ?_;intro h7 w7)|refine QE rfl ?_|refine Qn rfl ?_|refine QK rfl rfl ?_|refine X9 rfl rfl (by omega) ?_|refine XY rfl rfl (by omega) ?_)
    exact⟨.inr rfl,QY rfl w7.cel.read (fin0 he w7)⟩
 ·have e:UX f up p=YI:=by unfold UX;rw[if_neg hbp,if_neg hns]
  rw[e]
  repeat' first|apply QD|apply Xn
  exact⟨.inr rfl,QY rfl c4.read ⟨e6,.nilS,rfl,IsD.nil _⟩⟩
def Qmf(h0 h:Qa)(v:AV)(p:Pol):Prop:=∃ s,v = .agg [.bool p.big,s]/\OwnD h0 h s (tms p.ts)
theorem Qi6(h0:Qa)(sp sq:SV)(p q:Pol)(hp:IsD h0 sp (tms p.ts))(hq:IsD h0 sq (tms q.ts))(kp:Pok p)(kq:Pok q)(hd:p.ts≠[]->q.ts≠[]->hi0 p.ts+hi0 q.ts-(lo0 p.ts+lo0 q.ts)<=64+4*(p.ts.length:Int)*q.ts.length) :
  ∃ r h',Cal FT HKt 22 [.agg [.bool p.big,sp],.agg [.bool q.big,sq]] h0 r h'/\Ext h0 h'/\Qmf h0 h' r (Y6 p q):=by
 refine Cal.of (F:=a22) rfl rfl rfl ?_
 have lp:=hp.len
 have lq:=hq.len
 rw[QL]at lp lq
 by_cases hbp:p.big=true
 ·have e:Y6 p q=YI:=by unfold Y6;rw[if_pos (.inl hbp)]
  rw[e,hbp]
  repeat' first|apply Qh|apply Qc|apply QD|apply Qs|apply Qf|(apply Qg;refine Qi rfl ?_)|(apply Qe;first|refine Qp rfl ?_|refine Qq rfl rfl rfl ?_|refine QA rfl rfl rfl rfl ?_)|(apply Qb;first|(have z:=e2;apply QQ;intro h3 e3 c3;have d1:=(c1.ext e2).ext e3;have d2:=c2.ext e3)|(have z:=e1;refine Qr rfl ?_;intro h2 e2 c2)|(refine Qr rfl ?_;intro h1 e1 c1)|refine QB rfl d1 ?_|(refine Xp rfl rfl ?_)|(refine QZ rfl rfl c3 ?_;intro h4 w4)|refine Xa rfl ?_|refine Qn rfl ?_|refine QK rfl rfl ?_|refine Xt rfl rfl ?_)
  exact⟨.inr rfl,QY rfl w4.cel.read ⟨w4.ext (e1.trans (e2.trans e3)) (Gh e1.len e2.len),.nilS,rfl,.inl ⟨rfl,rfl⟩⟩⟩
 have hbp':p.big=false:=by simpa using hbp
 rw[hbp']
 by_cases hbq:q.big=true
 ·have e:Y6 p q=YI:=by unfold Y6;rw[if_pos (.inr hbq)]
  rw[e,hbq]
  repeat' first|apply Qh|apply Qc|apply QD|apply Qs|apply Qf|(apply Qg;refine Qi rfl ?_)|(apply Qe;first|refine Qp rfl ?_|refine Qq rfl rfl rfl ?_|refine QA rfl rfl rfl rfl ?_)|(apply Qb;first|(have z:=e2;apply QQ;intro h3 e3 c3;have d1:=(c1.ext e2).ext e3;have d2:=c2.ext e3)|(have z:=e1;refine Qr rfl ?_;intro h2 e2 c2)|(refine Qr rfl ?_;intro h1 e1 c1)|refine QB rfl d1 ?_|refine QB rfl d2 ?_|(refine Xp rfl rfl ?_)|(refine QZ rfl rfl c3 ?_;intro h4 w4)|refine QE rfl ?_|refine Qn rfl ?_|refine Qy rfl rfl ?_|refine Xt rfl rfl ?_)
  exact⟨.inr rfl,QY rfl w4.cel.read ⟨w4.ext (e1.trans (e2.trans e3)) (Gh e1.len e2.len),.nilS,rfl,.inl ⟨rfl,rfl⟩⟩⟩
 have hbq':q.big=false:=by simpa using hbq
 rw[hbq']
 have nb:¬(p.big=true∨q.big=true):=fun h=>h.elim hbp hbq
 by_cases hpe:p.ts=[]
 ·have e:Y6 p q=Yf:=by unfold Y6;rw[if_neg nb,if_pos (.inl hpe)]
  have lp0:Yv false sp=some 0:=by rw[lp,hpe];rfl
  rw[e]
  repeat' first|apply Qh|apply Qc|apply QD|apply Qm|apply Qs|apply Qf|(apply Qg;first|refine Qi rfl ?_|refine Qj rfl ?_)|(apply Qe;first|refine Qp rfl ?_|refine Qq rfl rfl rfl ?_|refine QA rfl rfl rfl rfl ?_)|(apply Qb;first|(have z:=e2;apply QQ;intro h3 e3 c3;have d1:=(c1.ext e2).ext e3;have d2:=c2.ext e3)|(have z:=e1;refine Qr rfl ?_;intro h2 e2 c2)|(refine Qr rfl ?_;intro h1 e1 c1)|refine QB rfl d1 ?_|refine QB rfl d2 ?_|refine Qt rfl d1 ?_|refine QG rfl lp0 ?_|(refine Xp rfl rfl ?_)|(refine QZ rfl rfl c3 ?_;intro h4 w4)|refine Xa rfl ?_|refine QE rfl ?_|refine Qn rfl ?_|refine QK rfl rfl ?_|refine Qy rfl rfl ?_|refine XC rfl rfl (by omega) ?_|refine Xt rfl rfl ?_)
  exact⟨.inr rfl,QY rfl w4.cel.read ⟨w4.ext (e1.trans (e2.trans e3)) (Gh e1.len e2.len),.nilS,rfl,.inl ⟨rfl,rfl⟩⟩⟩
 have lpp:0<p.ts.length:=List.length_pos_iff.2 hpe
 by_cases hqe:q.ts=[]
 ·have e:Y6 p q=Yf:=by unfold Y6;rw[if_neg nb,if_pos (.inr hqe)]
  have lq0:Yv false sq=some 0:=by rw[lq,hqe];rfl
  rw[e]
  repeat' first|apply Qh|apply Qc|apply QD|apply Qm|apply Qs|apply Qf|(apply Qg;first|refine Qi rfl ?_|refine Qj rfl ?_)|(apply Qe;first|refine Qp rfl ?_|refine Qq rfl rfl rfl ?_|refine QA rfl rfl rfl rfl ?_)|(apply Qb;first|(have z:=e2;apply QQ;intro h3 e3 c3;have d1:=(c1.ext e2).ext e3;have d2:=c2.ext e3)|(have z:=e1;refine Qr rfl ?_;intro h2 e2 c2)|(refine Qr rfl ?_;intro h1 e1 c1)|refine QB rfl d1 ?_|refine QB rfl d2 ?_|refine Qt rfl d1 ?_|refine Qt rfl d2 ?_|refine QG rfl lp ?_|refine QG rfl lq0 ?_|(refine Xp rfl rfl ?_)|(refine QZ rfl rfl c3 ?_;intro h4 w4)|refine QE rfl ?_|refine Qn rfl ?_|refine Qy rfl rfl ?_|refine XC rfl rfl (by omega) ?_|refine Xk rfl rfl (by omega) ?_|refine Xt rfl rfl ?_)
  exact⟨.inr rfl,QY rfl w4.cel.read ⟨w4.ext (e1.trans (e2.trans e3)) (Gh e1.len e2.len),.nilS,rfl,.inl ⟨rfl,rfl⟩⟩⟩
 have lqp:0<q.ts.length:=List.length_pos_iff.2 hqe
 have ne2:¬(p.ts=[]∨q.ts=[]):=fun h=>h.elim hpe hqe
 have hd:=hd hpe hqe
 have kl:=kp.lo
 have kl2:=kq.lo
 have plen:=kp.len
 have qlen:=kq.len
 have k27p:=fun H (e:Ext h0 H)=>Y2 H false sp p.ts (hp.ext e)
 have k27q:=fun H (e:Ext h0 H)=>Y2 H false sq q.ts (hq.ext e)
 have k28p:=fun H (e:Ext h0 H)=>zw H false sp p.ts (hp.ext e) plen
 have k28q:=fun H (e:Ext h0 H)=>zw H false sq q.ts (hq.ext e) qlen
 have hmul:4*(p.ts.length:Int)*(q.ts.length:Int)<=8388612*2097153:=by
  have h1:4*(p.ts.length:Int)*(q.ts.length:Int)<=8388612*(q.ts.length:Int):=Gy (by omega) (by omega)
  omega
 have hmul0:0<=4*(p.ts.length:Int)*(q.ts.length:Int):=Ha (by omega) (by omega)
 have hrng:=Qat kp.can kq.can
 have hmlo:qH p.ts q.ts=lo0 p.ts+lo0 q.ts:=rfl
 have hmn:((Z8 p.ts q.ts:Nat):Int)=hi0 p.ts+hi0 q.ts-(lo0 p.ts+lo0 q.ts)+1:=by unfold Z8;omega
 generalize hLo:lo0 p.ts+lo0 q.ts=lo at *
 generalize hHi:hi0 p.ts+hi0 q.ts=hi at *
 by_cases hout:lo < -1048576∨1048576<hi
 ·have e:Y6 p q=YI:=by unfold Y6;rw[if_neg nb,if_neg ne2,hmlo,hHi,if_pos hout]
  rw[e]
  by_cases ho1:lo < -1048576
  ·repeat' first|apply Qh|apply Qc|apply QD|apply Qm|apply Qs|apply Qf|apply QU|apply Xl|apply Xm|(apply Qg;first|refine Qi rfl ?_|refine Qj rfl ?_)|(apply Qe;first|apply QR|apply Xu|refine Ye (by assumption) ?_|refine Qp rfl ?_|refine Qq rfl rfl rfl ?_|refine QA rfl rfl rfl rfl ?_|refine QM rfl rfl rfl rfl rfl ?_|refine Q7 rfl rfl rfl rfl rfl rfl ?_)|(apply Qb;first|(have z:=e2;apply QQ;intro h3 e3 c3;have x3:=e1.trans (e2.trans e3);have n1:=e1.len;have n2:=e2.len;have n3:=c3.lt;have d1:=(c1.ext e2).ext e3;have d2:=c2.ext e3;have m1:=c1.lt;have m2:=c2.lt)|(have z:=e1;refine Qr rfl ?_;intro h2 e2 c2)|(refine Qr rfl ?_;intro h1 e1 c1)|refine QB rfl d1 ?_|refine QB rfl d2 ?_|refine Qt rfl d1 ?_|refine Qt rfl d2 ?_|refine QG rfl lp ?_|refine QG rfl lq ?_|refine Qv rfl d1 ?_|refine Qv rfl d2_4 ?_|refine Qv rfl d1_5 ?_|refine Qv rfl d2_6 ?_|(refine Qd rfl (k27p h3 x3) ?_;rintro r h4 ⟨e4,rfl⟩;have d1_4:=d1.ext e4;have d2_4:=d2.ext e4;have c3_4:=c3.ext e4)|(refine Qd rfl (k27q h4 (x3.trans e4)) ?_;rintro r h5 ⟨e5,rfl⟩;have d1_5:=d1_4.ext e5;have d2_5:=d2_4.ext e5;have c3_5:=c3_4.ext e5)|(refine Qd rfl (k28p h5 (x3.trans (e4.trans e5))) ?_;rintro r h6 ⟨e6,rfl⟩;have d1_6:=d1_5.ext e6;have d2_6:=d2_5.ext e6;have c3_6:=c3_5.ext e6)|(refine Qd rfl (k28q h6 (x3.trans (e4.trans (e5.trans e6)))) ?_;rintro r h7 ⟨e7,rfl⟩;have d1_7:=d1_6.ext e7;have d2_7:=d2_6.ext e7;have c3_7:=c3_6.ext e7)|(have z:=e7;refine Q1 rfl rfl (by omega) ?_;rw[hHi])|(have z:=e5;refine Q1 rfl rfl (by omega) ?_;rw[hLo])|(have z:=e7;apply y7;intro h8 e8 n8;have m7:=(e4.trans (e5.trans (e6.trans e7))).len;have d1_8:=d1_7.ext e8;have d2_8:=d2_7.ext e8;have c3_8:=c3_7.ext e8)|(refine QbI rfl rfl n8 ?_;intro h9 w9 c9;have c3_9:Cel h9 h2.length (.bool false) .nilS:=(by unfold Cel;rw[w9,Gn (by omega)];exact c3_8))|refine X5 rfl (Cel1.at c9) rfl ?_|(refine Xp rfl rfl ?_)|(refine QZ rfl rfl c3_9 ?_;intro hA wA)|refine Xa rfl ?_|refine QE rfl ?_|refine Qn rfl ?_|refine QK rfl rfl ?_|refine Qy rfl rfl ?_|refine QH rfl rfl (by omega) ?_|refine Xk rfl rfl (by omega) ?_|refine Xt rfl rfl ?_)
   exact⟨.inr rfl,QY rfl wA.cel.read ⟨wA.ext (by rw[w9];exact(x3.trans (e4.trans (e5.trans (e6.trans (e7.trans e8))))).set (by omega) _) (Gh e1.len e2.len),.nilS,rfl,.inl ⟨rfl,rfl⟩⟩⟩
  ·have ho2:1048576<hi:=by omega
   repeat' first|apply Qh|apply Qc|apply QD|apply Qm|apply Qs|apply Qf|apply QU|apply Xl|apply Xm|(apply Qg;first|refine Qi rfl ?_|refine Qj rfl ?_)|(apply Qe;first|apply QR|apply Xu|refine Ye (by assumption) ?_|refine Qp rfl ?_|refine Qq rfl rfl rfl ?_|refine QA rfl rfl rfl rfl ?_|refine QM rfl rfl rfl rfl rfl ?_|refine Q7 rfl rfl rfl rfl rfl rfl ?_)|(apply Qb;first|(have z:=e2;apply QQ;intro h3 e3 c3;have x3:=e1.trans (e2.trans e3);have n1:=e1.len;have n2:=e2.len;have n3:=c3.lt;have d1:=(c1.ext e2).ext e3;have d2:=c2.ext e3;have m1:=c1.lt;have m2:=c2.lt)|(have z:=e1;refine Qr rfl ?_;intro h2 e2 c2)|(refine Qr rfl ?_;intro h1 e1 c1)|refine QB rfl d1 ?_|refine QB rfl d2 ?_|refine Qt rfl d1 ?_|refine Qt rfl d2 ?_|refine QG rfl lp ?_|refine QG rfl lq ?_|refine Qv rfl d1 ?_|refine Qv rfl d2_4 ?_|refine Qv rfl d1_5 ?_|refine Qv rfl d2_6 ?_|(refine Qd rfl (k27p h3 x3) ?_;rintro r h4 ⟨e4,rfl⟩;have d1_4:=d1.ext e4;have d2_4:=d2.ext e4;have c3_4:=c3.ext e4)|(refine Qd rfl (k27q h4 (x3.trans e4)) ?_;rintro r h5 ⟨e5,rfl⟩;have d1_5:=d1_4.ext e5;have d2_5:=d2_4.ext e5;have c3_5:=c3_4.ext e5)|(refine Qd rfl (k28p h5 (x3.trans (e4.trans e5))) ?_;rintro r h6 ⟨e6,rfl⟩;have d1_6:=d1_5.ext e6;have d2_6:=d2_5.ext e6;have c3_6:=c3_5.ext e6)|(refine Qd rfl (k28q h6 (x3.trans (e4.trans (e5.trans e6)))) ?_;rintro r h7 ⟨e7,rfl⟩;have d1_7:=d1_6.ext e7;have d2_7:=d2_6.ext e7;have c3_7:=c3_6.ext e7)|(have z:=e7;refine Q1 rfl rfl (by omega) ?_;rw[hHi])|(have z:=e5;refine Q1 rfl rfl (by omega) ?_;rw[hLo])|(have z:=e7;apply y7;intro h8 e8 n8;have m7:=(e4.trans (e5.trans (e6.trans e7))).len;have d1_8:=d1_7.ext e8;have d2_8:=d2_7.ext e8;have c3_8:=c3_7.ext e8)|(refine QbI rfl rfl n8 ?_;intro h9 w9 c9;have c3_9:Cel h9 h2.length (.bool false) .nilS:=(by unfold Cel;rw[w9,Gn (by omega)];exact c3_8))|refine X5 rfl (Cel1.at c9) rfl ?_|(refine Xp rfl rfl ?_)|(refine QZ rfl rfl c3_9 ?_;intro hA wA)|refine QE rfl ?_|refine Qn rfl ?_|refine Qy rfl rfl ?_|refine QW rfl rfl (by omega) ?_|refine X9 rfl rfl (by omega) ?_|refine Xk rfl rfl (by omega) ?_|refine Xt rfl rfl ?_)
   exact⟨.inr rfl,QY rfl wA.cel.read ⟨wA.ext (by rw[w9];exact(x3.trans (e4.trans (e5.trans (e6.trans (e7.trans e8))))).set (by omega) _) (Gh e1.len e2.len),.nilS,rfl,.inl ⟨rfl,rfl⟩⟩⟩
 repeat' first|apply Qh|apply Qc|apply Qm|apply Qf|apply QU|apply Xl|apply Xm|(apply Qg;refine Qj rfl ?_)|(apply Qe;first|apply QR|apply Xu|refine Ye (by assumption) ?_|refine Qq rfl rfl rfl ?_|refine QA rfl rfl rfl rfl ?_|refine QM rfl rfl rfl rfl rfl ?_|refine Q7 rfl rfl rfl rfl rfl rfl ?_)|(apply Qb;first|(have z:=eB;apply y7;intro hC eC cC;have oC:=oB.ext eC;have c9C:=Cel1.ext c9B eC;have d1_C:=d1_B.ext eC;have d2_C:=d2_B.ext eC;have c3_C:=c3_B.ext eC)|(have z:=e2;apply QQ;intro h3 e3 c3;have x3:=e1.trans (e2.trans e3);have n1:=e1.len;have n2:=e2.len;have n3:=c3.lt;have d1:=(c1.ext e2).ext e3;have d2:=c2.ext e3;have m1:=c1.lt;have m2:=c2.lt)|(have z:=e1;refine Qr rfl ?_;intro h2 e2 c2)|(refine Qr rfl ?_;intro h1 e1 c1)|refine QB rfl d1 ?_|refine QB rfl d2 ?_|refine Qt rfl d1 ?_|refine Qt rfl d2 ?_|refine QG rfl lp ?_|refine QG rfl lq ?_|refine Qv rfl d1 ?_|refine Qv rfl d2_4 ?_|refine Qv rfl d1_5 ?_|refine Qv rfl d2_6 ?_|(refine Qd rfl (k27p h3 x3) ?_;rintro r h4 ⟨e4,rfl⟩;have d1_4:=d1.ext e4;have d2_4:=d2.ext e4;have c3_4:=c3.ext e4)|(refine Qd rfl (k27q h4 (x3.trans e4)) ?_;rintro r h5 ⟨e5,rfl⟩;have d1_5:=d1_4.ext e5;have d2_5:=d2_4.ext e5;have c3_5:=c3_4.ext e5)|(refine Qd rfl (k28p h5 (x3.trans (e4.trans e5))) ?_;rintro r h6 ⟨e6,rfl⟩;have d1_6:=d1_5.ext e6;have d2_6:=d2_5.ext e6;have c3_6:=c3_5.ext e6)|(refine Qd rfl (k28q h6 (x3.trans (e4.trans (e5.trans e6)))) ?_;rintro r h7 ⟨e7,rfl⟩;have d1_7:=d1_6.ext e7;have d2_7:=d2_6.ext e7;have c3_7:=c3_6.ext e7)|(have z:=e7;refine Q1 rfl rfl (by omega) ?_;rw[hHi])|(have z:=e5;refine Q1 rfl rfl (by omega) ?_;rw[hLo])|(have z:=e7;apply y7;intro h8 e8 n8;have m7:=(e4.trans (e5.trans (e6.trans e7))).len;have d1_8:=d1_7.ext e8;have d2_8:=d2_7.ext e8;have c3_8:=c3_7.ext e8)|(refine QbI rfl rfl n8 ?_;intro h9 w9 c9;have x9:Ext h0 h9:=(by rw[w9];exact(x3.trans (e4.trans (e5.trans (e6.trans (e7.trans e8))))).set (by omega) _);have c3_9:Cel h9 h2.length (.bool false) .nilS:=(by unfold Cel;rw[w9,Gn (by omega)];exact c3_8);have d1_9:Cel h9 h0.length (.bool false) sp:=(by unfold Cel;rw[w9,Gn (by omega)];exact d1_8);have d2_9:Cel h9 h1.length (.bool false) sq:=(by unfold Cel;rw[w9,Gn (by omega)];exact d2_8))|refine X5 rfl (Cel1.at c9) rfl ?_|refine Qt rfl d1_9 ?_|refine Qt rfl d2_9 ?_|(refine zW x9 rfl rfl (by simp only[Yh];omega) ?_;intro S hB oB eB xB lB;have c9B:=Cel1.ext c9 eB;have d1_B:=d1_9.ext eB;have d2_B:=d2_9.ext eB;have c3_B:=c3_9.ext eB)|refine QE rfl ?_|refine Qn rfl ?_|refine Qy rfl rfl ?_|refine Q1 rfl rfl (by omega) ?_|refine Yp rfl rfl (by omega) ?_|refine QdU rfl rfl (by omega) ?_|refine QW rfl rfl (by omega) ?_|refine XY rfl rfl (by omega) ?_|refine Xk rfl rfl (by omega) ?_|refine Xt rfl rfl ?_)
 refine QbI rfl rfl cC ?_
 intro hD wD cD
 have lC:hB.length<hC.length:=(Gb.1 cC).1
 have l79:h7.length<h9.length:=(Gb.1 c9).1
 have l19:=d1_9.lt
 have l29:=d2_9.lt
 have l39:=c3_9.lt
 have nD:Ys S hB.length:=oC.cel cC
 have xD:Ext h0 hD:=by rw[wD];exact(xB.trans eC).set xB.len _
 have hrep:List.replicate (hi-lo+1).toNat (SV.int IntKind.u64 0,SV.int IntKind.u64 0)=(List.replicate (Z8 p.ts q.ts) (0:Int)).map wdP:=by
  rw[List.map_replicate,show (hi-lo+1).toNat=Z8 p.ts q.ts from by omega]
  rfl
 rw[hrep]at oC
 have oD:OwnD h0 hD S ((List.replicate (Z8 p.ts q.ts) (0:Int)).map wdP):=by rw[wD];exact(oC.set nD _).weaken x9.len
 have c9D:Cel1 hD h7.length (.int .i64 lo):=by unfold Cel1;rw[wD,Gn (by omega)];exact c9C
 have d1_D:Cel hD h0.length (.bool false) sp:=by unfold Cel;rw[wD,Gn (by omega)];exact d1_C
 have d2_D:Cel hD h1.length (.bool false) sq:=by unfold Cel;rw[wD,Gn (by omega)];exact d2_C
 have c3_D:Cel hD h2.length (.bool false) .nilS:=by unfold Cel;rw[wD,Gn (by omega)];exact c3_C
 have xS:Sx h0 hD hD S hB.length h7.length lo (List.replicate (Z8 p.ts q.ts) 0):=⟨xD,oD,cD,c9D,fun _ _ h _=>h⟩
 rw[hmlo]at hrng
 have k43:=QlF h0 hD S hB.length h7.length lo (Z8 p.ts q.ts) (by omega) false false sp sq p.ts q.ts hp hq kp.fit kq.fit hrng (by omega) xS
 have n3:=oD.cel c3_D
 clear wD c9C d1_C d2_C c3_C oC oB
 refine yP ?_
 repeat' first|apply Qh|apply Qc|apply Qz|apply Qf|(apply Qe;first|refine Qq rfl rfl rfl ?_|refine QA rfl rfl rfl rfl ?_|refine Q7 rfl rfl rfl rfl rfl rfl ?_)|(apply Qb;first|refine Qv rfl d1_D ?_|refine Qv rfl d2_D ?_|(refine Qd rfl k43 ?_;rintro r hE xE;have c3_E:=xE.k _ _ c3_D n3)|(have z:=xE;apply QQ;intro hF eF c8;have xF:=xE.ext eF;have c3_F:=Cel.ext c3_E eF;have lS:Yv false S=some ((Z8 p.ts q.ts:Nat):Int):=(by have:=xF.o.len;rwa [Gp,Za]at this))|refine X5 rfl (Cel1.at xF.b7) rfl ?_|refine QG rfl lS ?_|refine Qn rfl ?_|refine Xt rfl rfl ?_)
 have hst:St22 h0 hF h2.length h7.length hE.length lo false S .nilS (smL (fun e=>mc p.ts q.ts e) lo (Z8 p.ts q.ts)) (Zz (fun e=>mc p.ts q.ts e) lo 0):=⟨xF.e,c3_F,xF.b5,c8,.inl ⟨rfl,rfl⟩,xF.o.is,fun j => .inl (fun o n c e=>by cases e)⟩
 have nE:=c3_E
 have lE:h2.length<hE.length:=(Gb.1 c3_E).1
 have l02:h0.length<=h2.length:=Gh e1.len e2.len
 have hmul:Y6 p q=if ∀ t∈Qbx p.ts q.ts lo (Z8 p.ts q.ts),t.2.natAbs<=cM then ⟨false,Qbx p.ts q.ts lo (Z8 p.ts q.ts)⟩ else YI:=by unfold Y6;rw[if_neg nb,if_neg ne2,hmlo,hHi,if_neg hout]
 refine YK (I22 h0 h2.length h7.length hE.length lo S (fun e=>mc p.ts q.ts e) (Z8 p.ts q.ts)) (cK [4,5,8,73,74,75] (Z8 p.ts q.ts) 75) (R22 h0 h2.length h7.length hE.length lo S (fun e=>mc p.ts q.ts e) (Z8 p.ts q.ts)) ⟨0,.nilS,Gs _,fun k hk=>absurd hk (by omega),hst,rfl⟩ (Qii h0 h2.length h7.length hE.length lo S (fun e=>mc p.ts q.ts e) (Z8 p.ts q.ts) (by omega) (by omega) (Qgk kp kq) l02 (by have:=xF.e.len;have:=xS.e.len;have:=xE.e.len;omega) (by omega)) ?_
 rintro ex E' h3 (⟨rfl,s,_,_,_,_,hsm,st,rfl⟩|⟨rfl,hns,e3,c4,rfl⟩)
 ·have c4:=st.c4
  repeat' first|apply Qh|apply Qc|apply Q8|apply Qs|apply Qf|(apply Qe;refine Qp rfl ?_)|(apply Qb;first|refine Qv rfl st.c8 ?_|(refine QZ rfl rfl c4 ?_;intro h4 w4))
  refine⟨.inr rfl,QY rfl w4.cel.read ⟨w4.ext st.e l02,?_⟩⟩
  rw[hmul,if_pos]
  ·exact⟨s,rfl,st.o.wrC w4⟩
  ·intro t ht
   obtain⟨a,b,c,d⟩:=fromC_mem.1 ht
   have:=hsm (t.1-lo).toNat (by omega)
   rw[show lo+((t.1-lo).toNat:Int)=t.1 from by omega]at this
   rw[c];exact this
 ·repeat' first|apply QD|apply Xn
  refine⟨.inr rfl,QY rfl c4.read ⟨e3,?_⟩⟩
  rw[hmul,if_neg]
  ·exact⟨.nilS,rfl,.inl ⟨rfl,rfl⟩⟩
  ·intro hall
   refine hns fun k hk=>?_
   by_cases hz:mc p.ts q.ts (lo+k)=0
   ·show (mc p.ts q.ts (lo+k)).natAbs<=cM
    rw[hz];simp[cM]
   ·exact hall (lo+k,mc p.ts q.ts (lo+k)) (fromC_mem.2 ⟨by omega,by omega,rfl,hz⟩)
theorem Qhd(h0:Qa)(sp sq:SV)(p q:Pol)(hp:IsD h0 sp (tms p.ts))(hq:IsD h0 sq (tms q.ts))(kp:Pok p)(kq:Pok q)(hd:p.ts≠[]->q.ts≠[]->hi0 p.ts+hi0 q.ts-(lo0 p.ts+lo0 q.ts)<=64+4*(p.ts.length:Int)*q.ts.length) :
  ∃ r h',Cal FT HKt 22 [.agg [.bool p.big,sp],.agg [.bool q.big,sq]] h0 r h'/\Ext h0 h'/\Z5 h' r (Y6 p q):=by
 obtain⟨r,h',a,b,s,c,d⟩:=Qi6 h0 sp sq p q hp hq kp kq hd
 exact⟨r,h',a,b,s,c,d.is⟩
end Go.Proofs.YtofknpknogfijaaGreatDoor
namespace Go.Proofs.YtofknpknogfijaaGreatDoor
set_option linter.all false
abbrev Row:=Nat->Int
def alt(f:Nat->List Nat->Int):List Nat->Int
 | []=>0
 | c::cs=>f c cs-alt (fun d ds=>f d (c::ds)) cs
def D:List Row->List Nat->Int
 | [],_=>1
 | r::rs,cs=>alt (fun c ds=>r c*D rs ds) cs
def Cg(p:Nat)(a b:Int):Prop:=(p:Int) ∣ a-b
theorem Cg.rfl{p:Nat}{a:Int}:Cg p a a:=by unfold Cg;rw[Int.sub_self];exact Int.dvd_zero _
theorem Cg.of_eq{p:Nat}{a b:Int}(h:a=b):Cg p a b:=h ▸ Cg.rfl
theorem Cg.symm{p:Nat}{a b:Int}(h:Cg p a b):Cg p b a:=by
 obtain⟨k,h⟩:=h;exact⟨-k,by rw[Int.mul_neg];omega⟩
theorem Cg.trans{p:Nat}{a b c:Int}(h:Cg p a b)(h2:Cg p b c):Cg p a c:=by
 obtain⟨k,h⟩:=h;obtain⟨l,h2⟩:=h2;exact⟨k+l,by rw[Int.mul_add];omega⟩
theorem Cg.sub{p:Nat}{a b c d:Int}(h:Cg p a b)(h2:Cg p c d):Cg p (a-c) (b-d):=by
 obtain⟨k,h⟩:=h;obtain⟨l,h2⟩:=h2;exact⟨k-l,by rw[Int.mul_sub];omega⟩
theorem Cg.mul{p:Nat}{a b c d:Int}(h:Cg p a b)(h2:Cg p c d):Cg p (a*c) (b*d):=by
 obtain⟨k,h⟩:=h;obtain⟨l,h2⟩:=h2
 refine⟨k*c+b*l,?_⟩
 have e1:a*c-b*d=(a-b)*c+b*(c-d):=by rw[Int.sub_mul,Int.mul_sub];omega
 rw[e1,h,h2,Int.mul_add,Int.mul_assoc,Int.mul_left_comm b]
theorem Cg.mod{p:Nat}{a:Int}:Cg p (a%(p:Int)) a:=⟨-(a/p),by have:=Int.emod_add_mul_ediv a p;rw[Int.mul_neg];omega⟩
theorem Cg.modN{p a:Nat}:Cg p ((a%p:Nat):Int) (a:Nat):=by rw[Int.natCast_emod];exact Cg.mod
theorem Cg.eq{p:Nat}{a b:Int}(h:Cg p a b)(hs:(a-b).natAbs<p):a=b:=by
 obtain⟨k,h⟩:=h
 by_cases hk:k=0
 ·subst hk;omega
 ·exfalso
  have:(a-b).natAbs=p*k.natAbs:=by rw[h,Int.natAbs_mul];simp
  have h1:1<=k.natAbs:=by omega
  have:=Nat.mul_le_mul_left p h1
  omega
theorem Cg.eqN{p a b:Nat}(h:Cg p (a:Int) (b:Int))(ha:a<p)(hb:b<p):a=b:=by
 have:=h.eq (by omega);omega
def RCg(p:Nat)(cs:List Nat)(a b:Row):Prop:=∀ c∈cs,Cg p (a c) (b c)
inductive RsCg (p:Nat) (cs:List Nat):List Row->List Row->Prop
 | nil:RsCg p cs [] []
 | cons {a b:Row} {az bz:List Row}:RCg p cs a b->RsCg p cs az bz->RsCg p cs (a::az) (b::bz)
def sbM(p a b:Nat):Nat:=if a<b then a+p-b else a-b
def adM(p a b:Nat):Nat:=if p<=a+b then a+b-p else a+b
theorem Qkx{p a b:Nat}(hb:b<=p):Cg p (sbM p a b:Nat) ((a:Int)-b):=by
 unfold sbM
 split
 ·exact⟨1,by omega⟩
 ·exact⟨0,by omega⟩
theorem Qkw{p a b:Nat}(ha:a<p):sbM p a b<p:=by unfold sbM;split <;> omega
def elR(p k f:Nat)(piv r:List Nat):List Nat:=r.mapIdx fun c x=>if k<c then sbM p x (f*piv.getD c 0%p) else x
def pick(k:Nat):List (List Nat)->Option (List (List Nat)×List Nat×List (List Nat))
 | []=>none
 | r::rs=>if r.getD k 0≠0 then some ([],r,rs) else (pick k rs).map fun x=>(r::x.1,x.2)
def Qak(a:List (List Nat))(c:List (List Nat)):List (List Nat):=match a with
 | []=>c
 | x::a=>a++x::c
def detM(p:Nat)(inv:Nat->Nat):Nat->Nat->List (List Nat)->Nat->Nat
 | 0,_,_,d=>d
 | m + 1, k, rs, d => match pick k rs with
   | none=>0
   | some (a,b,c) =>
    detM p inv m (k+1) ((Qak a c).map fun r=>elR p k (r.getD k 0*inv (b.getD k 0)%p) b r) ((if a=[] then d else sbM p 0 d)*b.getD k 0%p)
def FOK(p:Nat)(inv:Nat->Nat):Prop:=∀ a,0<a->a<p->a*inv a%p=1
open Go.Ab
set_option maxHeartbeats 16000000
set_option maxRecDepth 20000
attribute [local irreducible] Qk wA Xv Xs QC Qu QP Q6
variable [HB]
theorem Qi8(h0:Qa)(p g a b:Nat)(hp:p<9223372036854775808)(ha:a<p)(hb:b<p):∃ r h',Cal FT HKt 129 [fld p g,u a,u b] h0 r h'/\Ext h0 h'/\r=u (adM p a b):=by
 refine Cal.of (F:=a129) rfl rfl rfl ?_
 unfold adM
 by_cases hc:p<=a+b
 ·rw[if_pos hc]
  have e:((a:Int)+b-p)=((a+b-p:Nat):Int):=by omega
  repeat' first|apply Qh|apply Qc|apply Qs|apply Qf|(apply Qg;refine Qi rfl ?_)|(apply Qe;first|refine Qp rfl ?_|refine Qx rfl rfl ?_|refine Qq rfl rfl rfl ?_)|(apply Qb;first|(refine Qr rfl ?_;intro h1 e1 c1)|refine QS rfl ?_|refine QB rfl c1 ?_|refine YX rfl rfl (by omega) ?_|(refine XI rfl rfl (by omega) ?_;rw[e])|refine Qn rfl ?_|refine YD rfl rfl (by omega) ?_)
  exact⟨.inr rfl,e1,rfl⟩
 ·rw[if_neg hc]
  have e:((a:Int)+b)=((a+b:Nat):Int):=by omega
  repeat' first|apply Qh|apply Qc|apply Qm|apply Qs|apply Qf|(apply Qg;refine Qj rfl ?_)|(apply Qe;first|refine Qp rfl ?_|refine Qx rfl rfl ?_|refine Qq rfl rfl rfl ?_)|(apply Qb;first|(refine Qr rfl ?_;intro h1 e1 c1)|refine QS rfl ?_|refine QB rfl c1 ?_|(refine YX rfl rfl (by omega) ?_;rw[e])|refine Qn rfl ?_|refine X3 rfl rfl (by omega) ?_)
  exact⟨.inr rfl,e1,rfl⟩
theorem Qed(h0:Qa)(p g a b:Nat)(hp:p<9223372036854775808)(ha:a<p)(hb:b<=p):∃ r h',Cal FT HKt 122 [fld p g,u a,u b] h0 r h'/\Ext h0 h'/\r=u (sbM p a b):=by
 refine Cal.of (F:=a122) rfl rfl rfl ?_
 unfold sbM
 by_cases hc:a<b
 ·rw[if_pos hc]
  have e:((a:Int)+p-b)=((a+p-b:Nat):Int):=by omega
  repeat' first|apply Qh|apply Qc|apply Qs|apply Qf|(apply Qg;refine Qi rfl ?_)|(apply Qe;first|refine Qp rfl ?_|refine Qx rfl rfl ?_|refine Qq rfl rfl rfl ?_|refine QA rfl rfl rfl rfl ?_)|(apply Qb;first|(refine Qr rfl ?_;intro h1 e1 c1)|refine QS rfl ?_|refine QB rfl c1 ?_|refine YX rfl rfl (by omega) ?_|(refine XI rfl rfl (by omega) ?_;rw[e])|refine Qn rfl ?_|refine QH rfl rfl (by omega) ?_)
  exact⟨.inr rfl,e1,rfl⟩
 ·rw[if_neg hc]
  have e:((a:Int)-b)=((a-b:Nat):Int):=by omega
  repeat' first|apply Qh|apply Qc|apply Qm|apply Qs|apply Qf|(apply Qg;refine Qj rfl ?_)|(apply Qe;first|refine Qp rfl ?_|refine Qq rfl rfl rfl ?_|refine QA rfl rfl rfl rfl ?_)|(apply Qb;first|(refine Qr rfl ?_;intro h1 e1 c1)|(refine XI rfl rfl (by omega) ?_;rw[e])|refine Qn rfl ?_|refine QW rfl rfl (by omega) ?_)
  exact⟨.inr rfl,e1,rfl⟩
def ofM(p:Nat)(x:Int):Nat:=if x<0 then p-x.natAbs else x.natAbs
theorem Qga{p:Nat}{x:Int}(h:x.natAbs<p):ofM p x<p:=by unfold ofM;split <;> omega
theorem Qgb{p:Nat}{x:Int}(h:x.natAbs<p):Cg p (ofM p x:Nat) x:=by
 unfold ofM
 split
 ·exact⟨1,by omega⟩
 ·exact Cg.of_eq (by omega)
theorem Qc1(h0:Qa)(p g:Nat)(x:Int)(hp:p<9223372036854775808)(hx:x.natAbs<p):∃ r h',Cal FT HKt 99 [fld p g,.sc (.int .i64 x)] h0 r h'/\Ext h0 h'/\r=u (ofM p x):=by
 refine Cal.of (F:=a99) rfl rfl rfl ?_
 unfold ofM
 by_cases hc:x<0
 ·rw[if_pos hc]
  have e:((p:Int) - -x)=((p-x.natAbs:Nat):Int):=by omega
  repeat' first|apply Qh|apply Qc|apply QD|apply Qs|apply Qf|(apply Qg;refine Qi rfl ?_)|(apply Qe;first|refine Qp rfl ?_|refine Qx rfl rfl ?_|refine Qq rfl rfl rfl ?_)|(apply Qb;first|(refine Qr rfl ?_;intro h1 e1 c1)|refine QS rfl ?_|refine QB rfl c1 ?_|refine QbJ rfl (by omega) ?_|(refine XI rfl rfl (by omega) ?_;rw[e])|refine Qn rfl ?_|refine Zy rfl (by omega) ?_|refine QH rfl rfl (by omega) ?_)
  exact⟨.inr rfl,e1,rfl⟩
 ·rw[if_neg hc]
  have e:x=((x.natAbs:Nat):Int):=by omega
  generalize x.natAbs=n at *
  subst e
  repeat' first|apply Qh|apply Qc|apply Qm|apply Qs|apply Qf|(apply Qg;refine Qj rfl ?_)|(apply Qe;first|refine Qp rfl ?_|refine Qx rfl rfl ?_|refine Qq rfl rfl rfl ?_)|(apply Qb;first|(refine Qr rfl ?_;intro h1 e1 c1)|refine QbJ rfl (by omega) ?_|refine Qn rfl ?_|refine QW rfl rfl (by omega) ?_)
  exact⟨.inr rfl,e1,rfl⟩
def lfM(p a:Nat):Int:=if p/2<a then -((p-a:Nat):Int) else (a:Nat)
theorem Qlq(h0:Qa)(p g a:Nat)(hp:p<9223372036854775808)(ha:a<p):∃ r h',Cal FT HKt 97 [fld p g,u a] h0 r h'/\Ext h0 h'/\r = .sc (.int .i64 (lfM p a)):=by
 refine Cal.of (F:=a97) rfl rfl rfl ?_
 unfold lfM
 by_cases hc:p/2<a
 ·rw[if_pos hc]
  have e:((p:Int)-a)=((p-a:Nat):Int):=by omega
  repeat' first|apply Qh|apply Qc|apply QD|apply Qs|apply Qf|(apply Qg;refine Qi rfl ?_)|(apply Qe;first|refine Qp rfl ?_|refine Qx rfl rfl ?_|refine Qq rfl rfl rfl ?_)|(apply Qb;first|(refine Qr rfl ?_;intro h1 e1 c1)|refine QS rfl ?_|refine QB rfl c1 ?_|refine UZ rfl rfl (by omega) ?_|refine YE rfl (by omega) ?_|(refine XI rfl rfl (by omega) ?_;rw[e])|refine Qn rfl ?_|refine Zy rfl (by omega) ?_|refine X9 rfl rfl (by omega) ?_)
  exact⟨.inr rfl,e1,rfl⟩
 ·rw[if_neg hc]
  repeat' first|apply Qh|apply Qc|apply Qm|apply Qs|apply Qf|(apply Qg;refine Qj rfl ?_)|(apply Qe;first|refine Qp rfl ?_|refine Qx rfl rfl ?_|refine Qq rfl rfl rfl ?_)|(apply Qb;first|(refine Qr rfl ?_;intro h1 e1 c1)|refine QS rfl ?_|refine QB rfl c1 ?_|refine UZ rfl rfl (by omega) ?_|refine YE rfl (by omega) ?_|refine Qn rfl ?_|refine XY rfl rfl (by omega) ?_)
  exact⟨.inr rfl,e1,rfl⟩
def Jj(p a:Nat):Nat:=YL p 64 1 a (p-2)
theorem QaV(h0:Qa)(p g a:Nat)(hp:2<=p/\p<18446744073709551616)(ha:a<18446744073709551616):∃ r h',Cal FT HKt 121 [fld p g,u a] h0 r h'/\Ext h0 h'/\r=u (Jj p a):=by
 refine Cal.of (F:=a121) rfl rfl rfl ?_
 unfold Jj
 have e:((p:Int)-2)=((p-2:Nat):Int):=by omega
 have k:=fun H=>yM H p g a (p-2) ⟨by omega,hp.2⟩ ha (by omega)
 repeat' first|apply Qh|apply Qc|apply Qs|apply Qf|(apply Qe;first|refine Qp rfl ?_|refine Qx rfl rfl ?_)|(apply Qb;first|(refine Qr rfl ?_;intro h1 e1 c1)|refine QS rfl ?_|refine QB rfl c1 ?_|refine Qv rfl c1 ?_|(refine XI rfl rfl (by omega) ?_;rw[e])|(refine Qd rfl (k _) ?_;rintro v h2 ⟨e2,rfl⟩)|refine Qn rfl ?_)
 exact⟨.inr rfl,e1.trans e2,rfl⟩
end Go.Proofs.YtofknpknogfijaaGreatDoor
namespace Go.Proofs.YtofknpknogfijaaGreatDoor
open Go.Ab
set_option linter.all false
def okW(a:Int):Prop:=0<=a/\a<18446744073709551616
instance (a:Int):Decidable (okW a):=by unfold okW;exact inferInstance
def Jx:Xq:=fun args h=>match args with
 | [.agg [.int .u64 p,.int .u64 g],.sc (.int .u64 a),.sc (.int .u64 b)]=>if 0<p/\okW p/\okW g/\okW a/\okW b then frc (a.toNat*b.toNat%p.toNat) fun r=>some (.sc (.int .u64 (r:Nat)),h) else none
 | _=>none
def Jv:Xq:=fun args h=>match args with
 | [.agg [.int .u64 p,.int .u64 g],.sc (.int .u64 a),.sc (.int .u64 b)]=>if 0<p/\okW p/\okW g/\okW a/\okW b then frc (YL p.toNat 64 1 a.toNat b.toNat) fun r=>some (.sc (.int .u64 (r:Nat)),h) else none
 | _=>none
def qR:Xq:=fun args h=>match args with
 | [.sc (.int .u64 n)]=>if 2<n/\okW n then some (.sc (.bool (prM n.toNat)),h) else none
 | _=>none
def JN:Xq:=fun args h=>match args with
 | [.agg [.int .u64 p,.int .u64 g],.sc (.int .u64 a),.sc (.int .u64 b)]=>if p<9223372036854775808/\0<=a/\a<p/\0<=b/\b<p/\okW g then frc (adM p.toNat a.toNat b.toNat) fun r=>some (.sc (.int .u64 (r:Nat)),h) else none
 | _=>none
def Jm:Xq:=fun args h=>match args with
 | [.agg [.int .u64 p,.int .u64 g],.sc (.int .u64 a),.sc (.int .u64 b)]=>if p<9223372036854775808/\0<=a/\a<p/\0<=b/\b<=p/\okW g then frc (sbM p.toNat a.toNat b.toNat) fun r=>some (.sc (.int .u64 (r:Nat)),h) else none
 | _=>none
def qT:Xq:=fun args h=>match args with
 | [.agg [.int .u64 p,.int .u64 g],.sc (.int .i64 x)]=>if p<9223372036854775808/\okW p/\okW g/\(x.natAbs:Int)<p then frc (ofM p.toNat x) fun r=>some (.sc (.int .u64 (r:Nat)),h) else none
 | _=>none
def Jy:Xq:=fun args h=>match args with
 | [.agg [.int .u64 p,.int .u64 g],.sc (.int .u64 a)]=>if 2<=p/\okW p/\okW g/\okW a then frc (Jj p.toNat a.toNat) fun r=>some (.sc (.int .u64 (r:Nat)),h) else none
 | _=>none
def HKs:zzH:=fun f=>if f=43 then some Ji else if f=129 then some JN else if f=122 then some Jm else if f=99 then some qT else if f=121 then some Jy else if f=98 then some Jx else if f=119 then some Jv else if f=118 then some qR else HK0 f
theorem V4{a:Int}(h:okW a):(SV.int .u64 a)=SV.int .u64 ((a.toNat:Nat):Int):=by unfold okW at h;rw[show ((a.toNat:Nat):Int)=a by omega]
theorem Qk0[Base][HB](hk:qE Tryz.prog HKt):HkOK Tryz.prog 98 Jx:=by
 refine Yu yD hk (by kernel_rfl) fun args h v h1 hs=>?_
 unfold Jx at hs
 split at hs
 ·rename_i p g a b
  split at hs
  ·rename_i hc
   obtain⟨c1,c2,c3,c4,c5⟩:=hc
   rw[Yw]at hs
   simp only[Option.some.injEq,Prod.mk.injEq]at hs
   obtain⟨rfl,rfl⟩:=hs
   have q2:=V4 c2
   have q3:=V4 c3
   have q4:=V4 c4
   have q5:=V4 c5
   unfold okW at c2 c3 c4 c5
   obtain⟨r,h',k1,k2,rfl⟩:=qj [] p.toNat g.toNat a.toNat b.toNat ⟨by omega,by omega⟩ (by omega) (by omega)
   rw[q2,q3,q4,q5]
   exact⟨rfl,rfl,_,h',rfl,rfl,k1⟩
  ·cases hs
 ·cases hs
theorem Qmb[Base][HB](hk:qE Tryz.prog HKt):HkOK Tryz.prog 129 JN:=by
 refine Yu yD hk (by kernel_rfl) fun args h v h1 hs=>?_
 unfold JN at hs
 split at hs
 ·rename_i p g a b
  split at hs
  ·rename_i hc
   obtain⟨c1,c2,c3,c4,c5,c6⟩:=hc
   rw[Yw]at hs
   simp only[Option.some.injEq,Prod.mk.injEq]at hs
   obtain⟨rfl,rfl⟩:=hs
   unfold okW at *
   have qp:SV.int .u64 p=SV.int .u64 ((p.toNat:Nat):Int):=by rw[show ((p.toNat:Nat):Int)=p by omega]
   have qg:SV.int .u64 g=SV.int .u64 ((g.toNat:Nat):Int):=by rw[show ((g.toNat:Nat):Int)=g by omega]
   have qa:SV.int .u64 a=SV.int .u64 ((a.toNat:Nat):Int):=by rw[show ((a.toNat:Nat):Int)=a by omega]
   have qb:SV.int .u64 b=SV.int .u64 ((b.toNat:Nat):Int):=by rw[show ((b.toNat:Nat):Int)=b by omega]
   rw[qp,qg,qa,qb]
   obtain⟨r,h',k1,k2,rfl⟩:=Qi8 [] p.toNat g.toNat a.toNat b.toNat (by omega) (by omega) (by omega)
   exact⟨rfl,rfl,_,h',rfl,rfl,k1⟩
  ·cases hs
 ·cases hs
theorem Qkr[Base][HB](hk:qE Tryz.prog HKt):HkOK Tryz.prog 122 Jm:=by
 refine Yu yD hk (by kernel_rfl) fun args h v h1 hs=>?_
 unfold Jm at hs
 split at hs
 ·rename_i p g a b
  split at hs
  ·rename_i hc
   obtain⟨c1,c2,c3,c4,c5,c6⟩:=hc
   rw[Yw]at hs
   simp only[Option.some.injEq,Prod.mk.injEq]at hs
   obtain⟨rfl,rfl⟩:=hs
   unfold okW at *
   have qp:SV.int .u64 p=SV.int .u64 ((p.toNat:Nat):Int):=by rw[show ((p.toNat:Nat):Int)=p by omega]
   have qg:SV.int .u64 g=SV.int .u64 ((g.toNat:Nat):Int):=by rw[show ((g.toNat:Nat):Int)=g by omega]
   have qa:SV.int .u64 a=SV.int .u64 ((a.toNat:Nat):Int):=by rw[show ((a.toNat:Nat):Int)=a by omega]
   have qb:SV.int .u64 b=SV.int .u64 ((b.toNat:Nat):Int):=by rw[show ((b.toNat:Nat):Int)=b by omega]
   rw[qp,qg,qa,qb]
   obtain⟨r,h',k1,k2,rfl⟩:=Qed [] p.toNat g.toNat a.toNat b.toNat (by omega) (by omega) (by omega)
   exact⟨rfl,rfl,_,h',rfl,rfl,k1⟩
  ·cases hs
 ·cases hs
theorem of_ok[Base][HB](hk:qE Tryz.prog HKt):HkOK Tryz.prog 99 qT:=by
 refine Yu yD hk (by kernel_rfl) fun args h v h1 hs=>?_
 unfold qT at hs
 split at hs
 ·rename_i p g x
  split at hs
  ·rename_i hc
   obtain⟨c1,c2,c3,c4⟩:=hc
   rw[Yw]at hs
   simp only[Option.some.injEq,Prod.mk.injEq]at hs
   obtain⟨rfl,rfl⟩:=hs
   unfold okW at *
   have qp:SV.int .u64 p=SV.int .u64 ((p.toNat:Nat):Int):=by rw[show ((p.toNat:Nat):Int)=p by omega]
   have qg:SV.int .u64 g=SV.int .u64 ((g.toNat:Nat):Int):=by rw[show ((g.toNat:Nat):Int)=g by omega]
   rw[qp,qg]
   obtain⟨r,h',k1,k2,rfl⟩:=Qc1 [] p.toNat g.toNat x (by omega) (by omega)
   exact⟨rfl,rfl,_,h',rfl,rfl,k1⟩
  ·cases hs
 ·cases hs
theorem Qle[Base][HB](hk:qE Tryz.prog HKt):HkOK Tryz.prog 121 Jy:=by
 refine Yu yD hk (by kernel_rfl) fun args h v h1 hs=>?_
 unfold Jy at hs
 split at hs
 ·rename_i p g a
  split at hs
  ·rename_i hc
   obtain⟨c1,c2,c3,c4⟩:=hc
   rw[Yw]at hs
   simp only[Option.some.injEq,Prod.mk.injEq]at hs
   obtain⟨rfl,rfl⟩:=hs
   unfold okW at *
   have qp:SV.int .u64 p=SV.int .u64 ((p.toNat:Nat):Int):=by rw[show ((p.toNat:Nat):Int)=p by omega]
   have qg:SV.int .u64 g=SV.int .u64 ((g.toNat:Nat):Int):=by rw[show ((g.toNat:Nat):Int)=g by omega]
   have qa:SV.int .u64 a=SV.int .u64 ((a.toNat:Nat):Int):=by rw[show ((a.toNat:Nat):Int)=a by omega]
   rw[qp,qg,qa]
   obtain⟨r,h',k1,k2,rfl⟩:=QaV [] p.toNat g.toNat a.toNat ⟨by omega,by omega⟩ (by omega)
   exact⟨rfl,rfl,_,h',rfl,rfl,k1⟩
  ·cases hs
 ·cases hs
theorem QkO[Base][HB](hk:qE Tryz.prog HKt):HkOK Tryz.prog 119 Jv:=by
 refine Yu yD hk (by kernel_rfl) fun args h v h1 hs=>?_
 unfold Jv at hs
 split at hs
 ·rename_i p g a b
  split at hs
  ·rename_i hc
   obtain⟨c1,c2,c3,c4,c5⟩:=hc
   rw[Yw]at hs
   simp only[Option.some.injEq,Prod.mk.injEq]at hs
   obtain⟨rfl,rfl⟩:=hs
   have q2:=V4 c2
   have q3:=V4 c3
   have q4:=V4 c4
   have q5:=V4 c5
   unfold okW at c2 c3 c4 c5
   obtain⟨r,h',k1,k2,rfl⟩:=yM [] p.toNat g.toNat a.toNat b.toNat ⟨by omega,by omega⟩ (by omega) (by omega)
   rw[q2,q3,q4,q5]
   exact⟨rfl,rfl,_,h',rfl,rfl,k1⟩
  ·cases hs
 ·cases hs
theorem pr_ok[Base][HB](hk:qE Tryz.prog HKt):HkOK Tryz.prog 118 qR:=by
 refine Yu yD hk (by kernel_rfl) fun args h v h1 hs=>?_
 unfold qR at hs
 split at hs
 ·rename_i n
  split at hs
  ·rename_i hc
   obtain⟨c1,c2⟩:=hc
   simp only[Option.some.injEq,Prod.mk.injEq]at hs
   obtain⟨rfl,rfl⟩:=hs
   have q2:=V4 c2
   unfold okW at c2
   obtain⟨r,h',k1,k2,rfl⟩:=Qef [] n.toNat ⟨by omega,by omega⟩
   rw[q2]
   exact⟨rfl,rfl,_,h',rfl,rfl,k1⟩
  ·cases hs
 ·cases hs
def phS:FuncId->Bool:=fun f=>f==98 || f==119 || f==118 || f==129 || f==122 || f==99 || f==121
theorem QkP:QhF phS HKs:=by
 intro f hf
 unfold phS at hf
 simp only[Bool.or_eq_true,beq_iff_eq]at hf
 have key:∀(b:Bool) (n:Nat) (x:Nat->AV) (h:Qa) (r:AV×Qa) (c:Prop) [Decidable c],(if c then frc n (fun r=>some (x r,h)) else none)=some r->r.2=h:=by
  intro b n x h r c _ e
  split at e
  ·rw[Yw]at e;cases e;rfl
  ·cases e
 rcases hf with (((((rfl|rfl)|rfl)|rfl)|rfl)|rfl)|rfl
 ·refine⟨Jx,rfl,fun args h r e=>?_⟩
  unfold Jx at e
  split at e
  ·exact key true _ _ _ _ _ e
  ·cases e
 ·refine⟨Jv,rfl,fun args h r e=>?_⟩
  unfold Jv at e
  split at e
  ·exact key true _ _ _ _ _ e
  ·cases e
 ·refine⟨qR,rfl,fun args h r e=>?_⟩
  unfold qR at e
  split at e
  ·split at e
   ·cases e;rfl
   ·cases e
  ·cases e
 ·refine⟨JN,rfl,fun args h r e=>?_⟩
  unfold JN at e
  split at e
  ·exact key true _ _ _ _ _ e
  ·cases e
 ·refine⟨Jm,rfl,fun args h r e=>?_⟩
  unfold Jm at e
  split at e
  ·exact key true _ _ _ _ _ e
  ·cases e
 ·refine⟨qT,rfl,fun args h r e=>?_⟩
  unfold qT at e
  split at e
  ·exact key true _ _ _ _ _ e
  ·cases e
 ·refine⟨Jy,rfl,fun args h r e=>?_⟩
  unfold Jy at e
  split at e
  ·exact key true _ _ _ _ _ e
  ·cases e
end Go.Proofs.YtofknpknogfijaaGreatDoor
namespace Go.Proofs.YtofknpknogfijaaGreatDoor
set_option linter.all false
def Pr(q:Nat):Prop:=1<q/\∀ d,d ∣ q->d=1∨d=q
theorem QeJ:∀(m:Nat),1<m->∃ q,Pr q/\q ∣ m:=by
 intro m
 induction m using Nat.strongRecOn with
 | _ m ih =>
  intro h
  by_cases hp:∀ d,d ∣ m->d=1∨d=m
  ·exact⟨m,⟨h,hp⟩,Nat.dvd_refl _⟩
  ·obtain⟨d,hd⟩:=Classical.not_forall.1 hp
   have h1:d ∣ m:=Classical.byContradiction fun h=>hd fun h'=>absurd h' h
   have h2:d≠1/\d≠m:=⟨fun e=>hd fun _ => .inl e,fun e=>hd fun _ => .inr e⟩
   have h3:=Nat.le_of_dvd (by omega) h1
   have h4:d≠0:=fun e=>by rw[e]at h1;have:=Nat.eq_zero_of_zero_dvd h1;omega
   obtain⟨q,hq,hqd⟩:=ih d (by omega) (by omega)
   exact⟨q,hq,Nat.dvd_trans hqd h1⟩
theorem Pr.euclid{q a b:Nat}(h:Pr q)(hd:q ∣ a*b):q ∣ a∨q ∣ b:=by
 rcases h.2 (Nat.gcd q a) (Nat.gcd_dvd_left _ _) with e|e
 ·exact .inr (Nat.Coprime.dvd_of_dvd_mul_left e hd)
 ·exact .inl (e ▸ Nat.gcd_dvd_right q a)
theorem Pr.mem{q:Nat}(h:Pr q):∀ {l:List Nat},(∀ x∈l,Pr x)->q ∣ l.foldr (·*·) 1->q∈l
 | [],_,hd=>by
  have:=Nat.le_of_dvd (by decide) (show q ∣ 1 from hd)
  have:=h.1
  omega
 | x::l,hl,hd=>by
  rcases h.euclid (show q ∣ x*l.foldr (·*·) 1 from hd) with e|e
  ·rcases(hl x (.head _)).2 q e with e|e
   ·have:=h.1;omega
   ·rw[e];exact .head _
  ·exact .tail _ (h.mem (fun y hy=>hl y (.tail _ hy)) e)
def prS(q:Nat):Bool:=decide (1<q)&&(List.range 70).all fun i=>decide (q<=i+2) || decide (q%(i+2)≠0)
theorem QkM{q:Nat}(h:prS q=true)(hs:q<4900):Pr q:=by
 unfold prS at h
 rw[Bool.and_eq_true,decide_eq_true_iff,List.all_eq_true]at h
 obtain⟨h1,h2⟩:=h
 refine⟨h1,fun d hd=>?_⟩
 apply Classical.byContradiction
 intro hc
 have hd0:d≠0:=fun e=>by rw[e]at hd;have:=Nat.eq_zero_of_zero_dvd hd;omega
 obtain⟨e,he⟩:=hd
 have hdl:=Nat.le_of_dvd (by omega) (show d ∣ q from ⟨e,he⟩)
 have key:∀ i,1<i->i<70->i ∣ q->i=q:=fun i h3 h4 h5=>by
  have:=h2 (i-2) (List.mem_range.2 (by omega))
  rw[show i-2+2=i by omega,Bool.or_eq_true,decide_eq_true_iff,decide_eq_true_iff]at this
  rcases this with h|h
  ·have:=Nat.le_of_dvd (by omega) h5;omega
  ·exact absurd (Nat.mod_eq_zero_of_dvd h5) h
 have hd1:1<d:=by omega
 have he1:1<e:=by
  rcases Nat.lt_or_ge 1 e with h|h
  ·exact h
  ·exfalso
   have:e=0∨e=1:=by omega
   rcases this with rfl|rfl <;> simp at he <;> omega
 have hde:d<70∨e<70:=by
  apply Classical.byContradiction
  intro h
  have:=Nat.mul_le_mul (show 70<=d by omega) (show 70<=e by omega)
  omega
 rcases hde with h|h
 ·exact hc (.inr (key d hd1 h ⟨e,he⟩))
 ·have:=key e he1 h ⟨d,by rw[Nat.mul_comm];exact he⟩
  rw[this]at he
  have:=Nat.mul_le_mul_right q (show 2<=d by omega)
  omega
theorem fitP:∀ {ys T:List Nat},ys.Nodup->(∀ y∈ys,y∈T)->ys.length<=T.length
 | [],_,_,_=>Nat.zero_le _
 | y::ys,T,hn,hs=>by
  have hy:=hs y (.head _)
  have h1:∀ z∈ys,z∈T.erase y:=fun z hz=>by
   have hne:z≠y:=fun e=>(List.nodup_cons.1 hn).1 (e ▸ hz)
   exact(List.mem_erase_of_ne hne).2 (hs z (.tail _ hz))
  have h2:=fitP (List.nodup_cons.1 hn).2 h1
  have h3:=List.length_erase_of_mem hy
  have:=List.length_pos_of_mem hy
  simp only[List.length_cons]
  omega
theorem fills{ys T:List Nat}(hn:ys.Nodup)(hs:∀ y∈ys,y∈T)(hl:T.length<=ys.length):∀ t∈T,t∈ys:=fun t ht=>by
 apply Classical.byContradiction
 intro h
 have:=fitP (ys:=t::ys) (T:=T) (List.nodup_cons.2 ⟨h,hn⟩) fun y hy=>by
  rcases List.mem_cons.1 hy with rfl|hy
  ·exact ht
  ·exact hs y hy
 simp only[List.length_cons]at this
 omega
theorem Qbm{p g a b:Nat}(ha:g^a%p=1%p)(hb:g^b%p=1%p):g^(a%b)%p=1%p:=by
 have hq:g^(b*(a/b))%p=1%p:=by rw[Nat.pow_mul,Nat.pow_mod,hb,← Nat.pow_mod,Nat.one_pow]
 have:g^a%p=g^(a%b)%p:=by
  conv=>lhs;rw[← Nat.mod_add_div a b,Nat.pow_add,Nat.mul_mod,hq,← Nat.mul_mod,Nat.mul_one]
 rw[← this,ha]
theorem Qbn{p g:Nat}:∀(a b:Nat),g^a%p=1%p->g^b%p=1%p->g^Nat.gcd a b%p=1%p:=by
 intro a b
 induction a,b using Nat.gcd.induction with
 | H0 b=>intro _ h;rw[Nat.gcd_zero_left];exact h
 | H1 a b ha ih =>
  intro h1 h2
  rw[Nat.gcd_rec]
  exact ih (Qbm h2 h1) h1
theorem lucas{p g:Nat}(l:List Nat)(hp:1<p)(hl:∀ q∈l,Pr q)(hm:l.foldr (·*·) 1=p-1)(h1:g^(p-1)%p=1)(hq:∀ q∈l,g^((p-1)/q)%p≠1):∀ a,0<a->a<p->a^(p-1)%p=1:=by
 have one:1%p=1:=Nat.mod_eq_of_lt hp
 have ord:∀ d,0<d->d<p-1->g^d%p≠1:=fun d h2 h3 h4=>by
  have h5:=Qbn (p:=p) (g:=g) d (p-1) (by rw[h4,one]) (by rw[h1,one])
  have h6:Nat.gcd d (p-1) ∣ p-1:=Nat.gcd_dvd_right _ _
  have h7:Nat.gcd d (p-1)<=d:=Nat.le_of_dvd h2 (Nat.gcd_dvd_left _ _)
  have h8:0<Nat.gcd d (p-1):=Nat.gcd_pos_of_pos_left _ h2
  generalize Nat.gcd d (p-1)=e at *
  obtain⟨m,hm2⟩:=h6
  have h9:1<m:=by
   rcases Nat.lt_or_ge 1 m with h|h
   ·exact h
   ·exfalso
    have:m=0∨m=1:=by omega
    rcases this with rfl|rfl <;> simp at hm2 <;> omega
  obtain⟨q,hqp,hqm⟩:=QeJ m h9
  have hin:q∈l:=hqp.mem hl (by rw[hm,hm2];exact Nat.dvd_trans hqm ⟨e,Nat.mul_comm _ _⟩)
  refine hq q hin ?_
  obtain⟨k,rfl⟩:=hqm
  have:(p-1)/q=e*k:=by
   rw[hm2,Nat.mul_left_comm,Nat.mul_div_cancel_left _ (by have:=hqp.1;omega)]
  rw[this,Nat.pow_mul,Nat.pow_mod,h5,← Nat.pow_mod,Nat.one_pow,one]
 have unit:∀ i,i<=p-1->g^i%p*(g^(p-1-i)%p)%p=1:=fun i hi=>by
  rw[← Nat.mul_mod,← Nat.pow_add,show i+(p-1-i)=p-1 by omega,h1]
 have inj:∀ i j,i<j->j<p-1->g^i%p≠g^j%p:=fun i j h2 h3 h4=>by
  refine ord (j-i) (by omega) (by omega) ?_
  have u:=unit i (by omega)
  have:g^j%p=g^(j-i)%p*(g^i%p)%p:=by rw[← Nat.mul_mod,← Nat.pow_add,show j-i+i=j by omega]
  rw[h4]at u
  have e2:g^(j-i)%p*(g^i%p)%p*(g^(p-1-i)%p)%p=g^(j-i)%p:=by
   rw[Nat.mod_mul_mod,Nat.mul_assoc,Nat.mul_mod,h4,u,Nat.mul_one,Nat.mod_mod,Nat.mod_mod]
  rw[← this,u]at e2
  exact e2.symm
 intro a ha hap
 have hall:=fills (ys:=(List.range (p-1)).map fun i=>g^i%p) (T:=(List.range (p-1)).map (·+1)) (by
  rw[List.nodup_iff_pairwise_ne,List.pairwise_map]
  exact List.pairwise_lt_range.imp_of_mem fun {i j} hi hj hij=>inj i j hij (List.mem_range.1 hj)) (fun y hy=>by
  obtain⟨i,hi,rfl⟩:=List.mem_map.1 hy
  have u:=unit i (by have:=List.mem_range.1 hi;omega)
  have:g^i%p≠0:=fun e=>by rw[e]at u;simp at u
  have:=Nat.mod_lt (g^i) (show 0<p by omega)
  exact List.mem_map.2 ⟨g^i%p-1,List.mem_range.2 (by omega),by omega⟩) (by simp) a (List.mem_map.2 ⟨a-1,List.mem_range.2 (by omega),by omega⟩)
 obtain⟨i,hi,rfl⟩:=List.mem_map.1 hall
 rw[← Nat.pow_mod,← Nat.pow_mul,Nat.mul_comm,Nat.pow_mul,Nat.pow_mod,h1,Nat.one_pow,one]
theorem Yo{p:Nat}(hp:1<p)(h:∀ a,0<a->a<p->a^(p-1)%p=1):Pr p:=by
 refine⟨hp,fun d hd=>?_⟩
 apply Classical.byContradiction
 intro hc
 have hle:=Nat.le_of_dvd (by omega) hd
 have hd0:d≠0:=fun e=>by rw[e]at hd;have:=Nat.eq_zero_of_zero_dvd hd;omega
 have h1:=h d (by omega) (by omega)
 have h2:d ∣ d^(p-1):=by
  obtain⟨k,hk⟩:∃ k,p-1=k+1:=⟨p-2,by omega⟩
  rw[hk,Nat.pow_succ];exact⟨_,Nat.mul_comm _ _⟩
 have h3:d ∣ d^(p-1)%p:=(Nat.dvd_mod_iff hd).2 h2
 rw[h1]at h3
 have:=Nat.le_of_dvd (by decide) h3
 omega
def sm:Nat->(Nat->Int)->Int
 | 0,_=>0
 | n+1,f=>sm n f+f n
theorem Cg.pow{p:Nat}{a b:Int}(h:Cg p a b):∀ n:Nat,Cg p (a^n) (b^n)
 | 0=>by rw[Int.pow_zero,Int.pow_zero];exact Cg.rfl
 | n+1=>by rw[Int.pow_succ,Int.pow_succ];exact(Cg.pow h n).mul h
theorem QhX(w:Int)(n:Nat):(w*w)^n=w^(2*n):=by
 rw[Int.pow_mul,Int.pow_succ,Int.pow_succ,Int.pow_zero,Int.one_mul]
def evs:List Nat->List Nat
 | x::_::l=>x::evs l
 | l=>l
def Rt(p s w:Nat):Prop:=s=0∨Cg p ((w:Int)^(2^(s-1))) (-1)
theorem Rt.top{p s u:Nat}(h:Rt p s u)(h1:s=0->Cg p (u:Int) 1):Cg p ((u:Int)^2^s) 1:=by
 rcases h with h|h
 ·have:=h1 h
  subst h
  exact this.pow 1
 ·by_cases h0:s=0
  ·subst h0;exact(h1 rfl).pow 1
  ·have e:2^s=2^(s-1)*2:=by rw[← Nat.pow_succ];congr 1;omega
   rw[e,Int.pow_mul]
   exact(h.pow 2).trans (Cg.of_eq (by decide))
variable [HB]
theorem QdB{p:Nat}:∀(n r a e:Nat),e<2^n->Cg p (YL p n r a e:Nat) ((r:Int)*(a:Int)^e)
 | 0,r,a,e,h=>by
  have:e=0:=by omega
  subst this
  exact Cg.of_eq (by simp[YL])
 | n+1,r,a,e,h=>by
  rw[Jg]
  split
  ·rename_i h0
   subst h0
   exact Cg.of_eq (by simp)
  ·have h2:e/2<2^n:=by rw[Nat.pow_succ]at h;omega
   have h3:Cg p (((a*a%p:Nat):Int)^(e/2)) ((a:Int)^(2*(e/2))):=by
    rw[← QhX,← Int.natCast_mul];exact Cg.modN.pow _
   refine(QdB n _ _ _ h2).trans ?_
   split
   ·rename_i ho
    refine((Cg.modN.trans (Cg.of_eq (Int.natCast_mul _ _))).mul h3).trans (Cg.of_eq ?_)
    rw[Int.mul_assoc,← Int.pow_succ']
    congr 2;omega
   ·rename_i ho
    refine(Cg.rfl.mul h3).trans (Cg.of_eq ?_)
    congr 2;omega
theorem Jh{p:Nat}:∀(n r a e:Nat),r<p->YL p n r a e<p
 | 0,r,a,e,h=>h
 | n+1,r,a,e,h=>by
  rw[Jg]
  split
  ·exact h
  ·refine Jh n _ _ _ ?_
   split
   ·exact Nat.mod_lt _ (by omega)
   ·exact h
theorem UM{p:Nat}(hp:1<p)(n a e:Nat)(h:e<2^n):YL p n 1 a e=a^e%p:=by
 refine Cg.eqN (p:=p) ((QdB n 1 a e h).trans ?_) (Jh n 1 a e hp) (Nat.mod_lt _ (by omega))
 refine Cg.trans (Cg.of_eq ?_) Cg.modN.symm
 rw[Int.natCast_pow]
 exact Int.one_mul _
def lucB(p g:Nat)(l:List Nat):Bool:=decide (1<p)&&(l.foldr (·*·) 1==p-1)&&(YL p 64 1 g (p-1)==1)&&l.all fun q=>YL p 64 1 g ((p-1)/q) != 1
theorem XU{p g:Nat}{l:List Nat}(h:lucB p g l=true)(hs:p<2^64)(hl:∀ q∈l,Pr q):∀ a,0<a->a<p->a^(p-1)%p=1:=by
 unfold lucB at h
 simp only[Bool.and_eq_true,decide_eq_true_iff,beq_iff_eq,List.all_eq_true,bne_iff_ne]at h
 obtain⟨⟨⟨h1,h2⟩,h3⟩,h4⟩:=h
 have lt:∀ q,(p-1)/q<2^64:=fun q=>Nat.lt_of_le_of_lt (Nat.div_le_self _ _) (by omega)
 rw[UM h1 64 g (p-1) (by omega)]at h3
 exact lucas l h1 hl h2 h3 fun q hq=>by
  have:=h4 q hq
  rwa [UM h1 64 g _ (lt q)]at this
def Qfv(l:List Nat):Bool:=l.all fun q=>prS q&&decide (q<4900)
theorem Xw{l:List Nat}(h:Qfv l=true):∀ q∈l,Pr q:=fun q hq=>by
 unfold Qfv at h
 rw[List.all_eq_true]at h
 have:=h q hq
 rw[Bool.and_eq_true,decide_eq_true_iff]at this
 exact QkM this.1 this.2
def p1:Nat:=2305843009211596801
def p2:Nat:=2305843009210023937
theorem Qlg{p:Nat}(hp:2<p)(hs:p<2^64)(h:∀ a,0<a->a<p->a^(p-1)%p=1):FOK p (Jj p):=fun a h0 h1=>by
 unfold Jj
 rw[UM (by omega) 64 a (p-2) (by omega),Nat.mul_mod_mod,← Nat.pow_succ',Nat.succ_eq_add_one,show p-2+1=p-1 by omega]
 exact h a h0 h1
def r1:Nat:=1681162619342215248
def r2:Nat:=1308300859968897983
open Go.Ab
set_option maxHeartbeats 16000000
set_option maxRecDepth 20000
attribute [local irreducible] Qk wA Xv Xs QC Qu QP Q6
structure Chg(S:Nat->Prop)(h h':Qa):Prop where
 len:h.length<=h'.length
 same:∀ j,j<h.length->¬ S j->h'[j]?=h[j]?
theorem Chg.refl{S:Nat->Prop}(h:Qa):Chg S h h:=⟨Ge _,fun _ _ _=>rfl⟩
theorem Chg.trans{S:Nat->Prop}{a b c:Qa}(x:Chg S a b)(y:Chg S b c):Chg S a c:=⟨Gh x.len y.len,fun j h1 h2=>by rw[y.same j (GJ h1 x.len) h2,x.same j h1 h2]⟩
theorem Chg.mono{S T:Nat->Prop}{a b:Qa}(x:Chg S a b)(h:∀ j,j<a.length->S j->T j):Chg T a b:=⟨x.len,fun j h1 h2=>x.same j h1 fun h3=>h2 (h j h1 h3)⟩
theorem Chg.toExt{a b:Qa}(x:Chg (fun _=>False) a b):Ext a b:=by
 refine⟨b.drop a.length,?_⟩
 apply Gr
 intro i
 rcases Gt i a.length with h|h
 ·rw[Gq h,x.same i h (fun h=>h)]
 ·rw[Gk h,GG];congr 1;omega
def Bu(h:Qa)(id:Nat)(xs:List Nat):Prop:=h[id]?=some (.cells (xs.map fun (x:Nat)=>SV.int .u64 (x:Int)) true 1)
theorem Bu.ext{h h':Qa}{id:Nat}{xs:List Nat}(b:Bu h id xs)(e:Ext h h'):Bu h' id xs:=by
 obtain⟨t,rfl⟩:=e
 unfold Bu at *
 rw[Gq (Gb.1 b).1,b]
theorem Bu.lt{h:Qa}{id:Nat}{xs:List Nat}(b:Bu h id xs):id<h.length:=(Gb.1 b).1
theorem Bu.rd{h:Qa}{id i:Nat}{xs:List Nat}(b:Bu h id xs)(hi:i<xs.length):Q9 h id (0+i*1) 1=some [.int .u64 ((xs.getD i 0:Nat):Int)]:=by
 unfold Bu at b
 simp only[Q9,b,cut,Gp]
 rw[if_pos (by omega)]
 congr 1
 rw[Hc,Hd]
 apply Gr
 intro j
 cases j with
 | zero=>simp[Gf,Gc hi]
 | succ j=>simp;omega
theorem Bu.wr{h:Qa}{id i y:Nat}{xs:List Nat}(b:Bu h id xs)(hi:i<xs.length):Xz h id (0+i*1) [.int .u64 (y:Int)]=some (h.set id (.cells ((xs.set i y).map fun (x:Nat)=>SV.int .u64 (x:Int)) true 1)):=by
 unfold Bu at b
 simp only[Xz,b,Gp,GQ,Hg]
 rw[if_pos (by omega)]
 congr 3
 unfold Xf
 rw[Hc,Hd]
 apply Gr
 intro j
 simp only[GQ,Hg,Gj,G7]
 rcases Nat.lt_trichotomy j i with h1|h1|h1
 ·rw[if_neg (by omega),GR,Gq (by simp;omega)]
  simp[GC,h1]
 ·subst h1
  rw[if_pos rfl,if_pos hi,GR,Gk (by simp;omega)]
  simp[GM (Nat.le_of_lt hi)]
 ·rw[if_neg (by omega),Gk (by simp;omega)]
  simp only[GK,GV,Gp,GQ,Hg,GG,Gj]
  rw[GM (Nat.le_of_lt hi)]
  congr 2;omega
theorem Bu.set{h:Qa}{id:Nat}{xs ys:List Nat}(b:Bu h id xs):Bu (h.set id (.cells (ys.map fun (x:Nat)=>SV.int .u64 (x:Int)) true 1)) id ys:=by
 unfold Bu;rw[GI b.lt]
theorem Bu.other{h:Qa}{id j:Nat}{xs:List Nat}(b:Bu h j xs)(hn:id≠j)(blk:Blk):Bu (h.set id blk) j xs:=by
 unfold Bu at *;rw[Gn hn,b]
theorem Cel.other{h:Qa}{id j:Nat}{x y:SV}(b:Cel h j x y)(hn:id≠j)(blk:Blk):Cel (h.set id blk) j x y:=by
 unfold Cel at *;rw[Gn hn];exact b
structure S141(p g id pid q8 q2 n:Nat)(cap:Option Nat)(piv row:List Nat)(h0 h:Qa):Prop where
 c:Chg (·=id) h0 h
 b:Bu h id row
 bp:Bu h pid piv
 c8:Cel1 h q8 (.slc pid 0 n cap)
 c2:Cel h q2 (.int .u64 (p:Nat)) (.int .u64 (g:Nat))
 ne:id≠pid/\id≠q8/\id≠q2
abbrev Qci:=Nat×List Nat
def rowS(n:Nat)(m:Qci):SV := .slc m.1 0 n (some n)
structure Mx(h:Qa)(q n:Nat)(ms:List Qci):Prop where
 top:h[q]?=some (.cells (ms.map (rowS n)) true 1)
 nd:(ms.map (·.1)).Nodup
 qn:q ∉ ms.map (·.1)
 row:∀ m∈ms,Bu h m.1 m.2
def QhE(p n:Nat)(ms:List Qci):Prop:=∀ m∈ms,m.2.length=n/\∀ x∈m.2,x<p
structure S130(p g q q2 q6 q8 n k:Nat)(pre Ua:List Qci)(pv:Qci)(dn:List Qci)(h0 h:Qa):Prop where
 c:Chg (fun j=>j=q∨∃ m∈pre++pv::(dn++Ua),m.1=j) h0 h
 M:Mx h q n (pre++pv::(dn++Ua))
 ro:QhE p n (pre++pv::(dn++Ua))
 c2:Cel h q2 (.int .u64 (p:Nat)) (.int .u64 (g:Nat))
 c6:Cel1 h q6 (.int .i64 (k:Nat))
 c8:Cel1 h q8 (.slc pv.1 0 n (some n))
 ne:∀ m∈pre++pv::(dn++Ua),m.1≠q2/\m.1≠q6/\m.1≠q8
section
variable {FT:zzA} {HK:zzH} {E:Env} {h:Qa} {K:Env->Qa->Prop} {d:Option Nat} {r:List AOp} {x:AO}
end
theorem Qcp{cs:List SV}{i:Nat}{v:SV}(h:i<cs.length):Xf cs i [v]=cs.set i v:=by
 unfold Xf
 apply Gr
 intro j
 rw[G7]
 rcases Nat.lt_trichotomy j i with h1|h1|h1
 ·rw[if_neg (by omega),GR,Gq (by simp;omega)]
  simp[GC,h1]
 ·subst h1
  rw[if_pos rfl,if_pos h,GR,Gk (by simp;omega)]
  simp[GM (Nat.le_of_lt h)]
 ·rw[if_neg (by omega),Gk (by simp;omega)]
  simp only[GK,GV,GQ,Hg,GG]
  rw[GM (Nat.le_of_lt h)]
  congr 1;omega
theorem wr1{h:Qa}{q i:Nat}{cs:List SV}{z:ESz}{v:SV}(hb:h[q]?=some (.cells cs true z))(hi:i<cs.length):Xz h q (0+i*1) [v]=some (h.set q (.cells (cs.set i v) true z)):=by
 simp only[Xz,hb,GQ,Hg]
 rw[if_pos (by omega),Hc,Hd,Qcp hi]
def acL:AC->AC
 | .seq a _=>a
 | c=>c
def acR:AC->AC
 | .seq _ b=>b
 | c=>c
def acB:AC->AC
 | .block _ a=>a
 | c=>c
def t130:AC:=acR (acR (acR (acR (acR (acR (acB (acL (acR (acR Qhm)))))))))
structure D130(p g q q2 n k d X:Nat)(ms0 ms:List Qci)(h0 h:Qa):Prop where
 c:Chg (fun j=>j=q∨∃ m∈ms0,m.1=j) h0 h
 M:Mx h q n ms
 ro:QhE p n ms
 c2:Cel h q2 (.int .u64 (p:Nat)) (.int .u64 (g:Nat))
 ids:∀ m∈ms,∃ m0∈ms0,m0.1=m.1
 l:ms.length=n
 dl:d<p
 X:detM p (Jj p) (n-k) k ((ms.drop k).map (·.2)) d=X
 ne:∀ m∈ms0,m.1≠q2
 nq:q≠q2
attribute [local irreducible] t130
end Go.Proofs.YtofknpknogfijaaGreatDoor
namespace Go.Proofs.YtofknpknogfijaaGreatDoor
open Go.Ab
set_option linter.all false
set_option maxHeartbeats 16000000
set_option maxRecDepth 20000
attribute [local irreducible] Qk wA Xv Xs QC Qu QP Q6
variable [HB]
theorem Ext.setF{h0 h:Qa}{id:Nat}(x:Ext h0 h)(hf:h0.length<=id)(b:Blk):Ext h0 (h.set id b) :=
 Chg.toExt ⟨by simpa using x.len,fun j hj _=>by
  rw[Gn (by omega)]
  obtain⟨t,rfl⟩:=x
  rw[Gq hj]⟩
def fill(f:Nat->Nat)(n i:Nat):List Nat:=(List.range n).map fun j=>if j<i then f j else 0
theorem QgN{f:Nat->Nat}{n i:Nat}:(fill f n i).length=n:=by simp[fill]
theorem Qe4{f:Nat->Nat}{n:Nat}:fill f n 0=List.replicate n 0:=by
 unfold fill
 apply Gr
 intro j
 rw[Gj,List.getElem?_replicate]
 rcases Gt j n with h|h
 ·rw[Gw h,if_pos h];simp
 ·rw[Gg (by simpa using h),if_neg (by omega)];rfl
theorem QgM{f:Nat->Nat}{n i:Nat}(h:i<n):(fill f n i).set i (f i)=fill f n (i+1):=by
 unfold fill
 apply Gr
 intro j
 rw[G7,Gj,Gj,Gp,List.length_range]
 by_cases e:i=j
 ·subst e
  rw[if_pos rfl,if_pos h,Gw h];simp
 ·rw[if_neg e]
  rcases Gt j n with hj|hj
  ·rw[Gw hj]
   simp only[Gm]
   by_cases h1:j<i
   ·rw[if_pos h1,if_pos (by omega)]
   ·rw[if_neg h1,if_neg (by omega)]
  ·rw[Gg (by simpa using hj)];rfl
theorem Qe6{f:Nat->Nat}{n:Nat}:fill f n n=(List.range n).map f:=by
 unfold fill
 refine Ht fun j hj=>?_
 rw[if_pos (Hl.1 hj)]
section
variable {FT:zzA} {HK:zzH} {E:Env} {h:Qa} {K:Env->Qa->Prop} {d:Option Nat} {r:List AOp} {x y:AO}
theorem repU:∀ n:Nat,rep [SV.int .u64 0] n=(List.replicate n 0).map fun (x:Nat)=>SV.int .u64 (x:Int)
 | 0=>rfl
 | n+1=>by rw[rep,repU n];rfl
theorem k_mkU{n:Nat}(hx:evS E x=some (.int .i64 (n:Nat)))(hy:evS E y=some (.int .i64 (n:Nat)))(hb:n<=10000000)(hw:∀ h1,Ext h h1->Bu h1 h.length (List.replicate n 0)->Qk FT HK r (Qw d (some (.sc (.slc h.length 0 n (some n)))) E) h1 K) :
  Qk FT HK (⟨d,.mk 1 8 [.int .u64 0] x y,none⟩::r) E h K:=by
 refine Xi (v:=some (.sc (.slc h.length 0 n (some n)))) (h':=h++[.cells (rep [.int .u64 0] n) true 1]) rfl rfl ?_ (hw _ ⟨_,rfl⟩ ?_)
 ·simp only[Ql,hx,hy]
  rw[if_pos ⟨by omega,by omega,by unfold Yh;omega⟩,Int.toNat_natCast]
 ·unfold Bu
  rw[Gk (Ge _),Nat.sub_self,repU];rfl
end
structure A131(p g q c e o N:Nat)(cs es os:List Nat)(h0 h:Qa):Prop where
 x:Ext h0 h
 c2:Cel h q (.int .u64 (p:Nat)) (.int .u64 (g:Nat))
 bc:Bu h c cs
 be:Bu h e es
 bo:Bu h o os
 lo:h0.length<=e/\h0.length<=o/\e≠o/\c<e/\c<o/\q<e/\q<o
structure B131(p g q e o v N:Nat)(es os vs:List Nat)(h0 h:Qa):Prop where
 x:Ext h0 h
 c2:Cel h q (.int .u64 (p:Nat)) (.int .u64 (g:Nat))
 be:Bu h e es
 bo:Bu h o os
 bv:Bu h v vs
 lo:h0.length<=v/\e<v/\o<v/\q<v
end Go.Proofs.YtofknpknogfijaaGreatDoor
namespace Go.Proofs.YtofknpknogfijaaGreatDoor
open Go.Ab
set_option linter.all false
variable [HB]
section
variable {FT:zzA} {HK:zzH} {E:Env} {h h0:Qa} {K:Env->Qa->Prop} {d:Option Nat} {r:List AOp} {x y xo so:AO} {m n:Int}
theorem QaI{a b z0 z1:SV}(hx:ev E xo=some (.agg [a,b]))(hw:∀ h1,Ext h h1->XZ h1 2 (.slc h.length 0 1 (some 1))=some (1,[a,b])->Qk FT HK r (Qw d (some (.sc (.slc h.length 0 1 (some 1)))) E) h1 K) :
  Qk FT HK (⟨d,.bsl 2 [z0,z1] 1 [(0,xo)],none⟩::r) E h K:=by
 refine Xi (v:=some (.sc (.slc h.length 0 1 (some 1)))) (h':=h++[.cells [a,b] true 2]) rfl rfl ?_ (hw _ ⟨_,rfl⟩ (by simp[XZ,Q9,cut]))
 simp[Ql,Yk,hx,AV.cells,ZA,rep,Xf,ez2]
theorem Us{bytes:Nat}{s t a b:SV}{ps:List P2}{z2:List SV}(he:Ext h0 h)(ho:OwnD h0 h s ps)(hs:evS E so=some s)(hx:evS E x=some t)(ht:XZ h 2 t=some (1,[a,b]))(hb:(ps.length+1)*(bytes+1)<=Yh)
  (hw:∀ s' h',OwnD h0 h' s' (ps++[(a,b)])->Ext h0 h'->Fram h h' s s'->h.length<=h'.length->Qk FT HK r (Qw d (some (.sc s')) E) h' K) :
  Qk FT HK (⟨d,.app 2 bytes z2 so x,none⟩::r) E h K:=by
 obtain⟨s',h',h1,h2,h3,h4,h5⟩:=appD (bytes:=bytes) he ho hb a b
 refine Xi (v:=some (.sc s')) (h':=h') rfl rfl ?_ (hw s' h' h2 h3 h5 h4)
 simp only[Ql,hs,hx,Gi,ez2,ht,h1,Gm]
theorem QaD(hx:evS E x=some (.int .i64 m))(hy:evS E y=some (.int .i64 n))(hr:n≠0 ∧ -9223372036854775808<=m.tdiv n/\m.tdiv n<=9223372036854775807)(hw:Qk FT HK r (Qw d (some (.sc (.int .i64 (m.tdiv n)))) E) h K):Qk FT HK (⟨d,.bin .quo x y,none⟩::r) E h K:=by
 refine Jw (n:=m.tdiv n) rfl rfl ?_ hr.2 hw
 simp only[Ql,hx,hy,Gi,Je,X8,yN]
 rw[if_neg (by decide),if_pos trivial,if_neg hr.1];rfl
theorem k_slD{S:SV}{ps:List P2}{lo:AO}{l:Int}(ho:OwnD h0 h S ps)(hx:evS E x=some S)(hl:evS E lo=some (.int .i64 l))(hb:0<=l/\l<=ps.length)
  (hw:∀ s',IsD h s' (ps.drop l.toNat)->Qk FT HK r (Qw d (some (.sc s')) E) h K) :
  Qk FT HK (⟨d,.sl 2 x (some lo) none,none⟩::r) E h K:=by
 rcases ho with ⟨rfl,rfl⟩|⟨id,cap,bl,rfl,h1,h2,h3,h4⟩
 ·have:l=0:=by simp at hb;omega
  subst this
  refine Xi (v:=some (.sc .nilS)) (h':=h) rfl rfl ?_ (hw .nilS (IsD.nil _))
  simp[Ql,hx,hl,Yv,bnd,YC]
 ·refine Xi (v:=some (.sc (.slc id (0+l.toNat*2) (ps.length-l.toNat) (cap.map (· - l.toNat))))) (h':=h) rfl rfl ?_ (hw _ ?_)
  ·have:l.toNat<=ps.length:=by omega
   have h2':l<=(ps.length:Int):=hb.2
   simp[Ql,hx,hl,Yv,bnd,YC,h2,Blk.esz,ez2,this,hb.1,h2']
  ·have hle:=h4.le
   refine .inr ⟨id,0+l.toNat*2,_,_,by rw[GW],h2,rfl,fun h=>?_,fun _=>⟨_,_,rfl,?_⟩⟩
   ·rw[Gu h];rfl
   ·unfold cut
    simp only[ez2,GW]
    rw[if_pos (by omega),ym,← h3,List.drop_take,Hc,Nat.sub_mul]
end
set_option maxHeartbeats 16000000
set_option maxRecDepth 20000
attribute [local irreducible] Qk wA Xv Xs QC Qu QP Q6
def smC(x:Int):Prop := -4611686018427387904<=x/\x<=4611686018427387904
def smallP(low:Int)(xs:List Int):Prop:=xs.length<=20 ∧ -100<=low/\low<=100/\∀ x∈xs,smC x
def Qkv(low:Int)(xs:List Int):Prop:=xs.length<=20 ∧ -1000<=low/\low<=1000/\∀ x∈xs,smC x
theorem smallP.q{low:Int}{xs:List Int}(h:smallP low xs):Qkv low xs:=⟨h.1,by have:=h.2.1;omega,by have:=h.2.2.1;omega,h.2.2.2⟩
section
variable {FT:zzA} {HK:zzH} {E:Env} {h:Qa} {K:Env->Qa->Prop} {d:Option Nat} {r:List AOp} {x:AO}
end
structure St27(h0 h:Qa)(q4 q5:Nat)(b:Bool)(s:SV)(r:List Tm):Prop where
 e:Ext h0 h
 c4:Cel h q4 .nilS (.bool b)
 c5:Cel h q5 s (.bool false)
 o:OwnD h0 h s (tms r)
 l:h0.length<=q4/\q4<q5
end Go.Proofs.YtofknpknogfijaaGreatDoor
namespace Go.Proofs.YtofknpknogfijaaGreatDoor
open Go.Ab
set_option linter.all false
set_option maxHeartbeats 16000000
set_option maxRecDepth 20000
attribute [local irreducible] Qk wA Xv Xs QC Qu QP
variable [HB]
abbrev nh(x:Int):SV := .int .i64 (x/1125899906842624)
abbrev nl(x:Int):SV := .int .i64 (x%1125899906842624)
abbrev nf(x:Int):AV := .agg [nh x,nl x]
end Go.Proofs.YtofknpknogfijaaGreatDoor
namespace Go.Proofs.YtofknpknogfijaaGreatDoor
open Go.Ab
set_option linter.all false
set_option maxHeartbeats 16000000
set_option maxRecDepth 20000
attribute [local irreducible] Qk wA Xv Xs QC Qu QP Q6
variable [HB]
def Qjo(n b:Nat):Nat:=YL n 64 1 b ((n-1)/131072)
def Qjp(n b:Nat):Bool:=YL n 64 1 (Qjo n b) 65536==n-1
def found(i:Nat):List (Nat×Nat):=(if 15<i then [(p1,r1)] else [])++(if 27<i then [(p2,r2)] else [])
structure RootAt(n B r:Nat):Prop where
 ok:Qjp n B=true
 no:∀ b,2<=b->b<B->Qjp n b=false
 eq:Qjo n B=r
 two:2<=B
 le:B<=100
structure F95(q5 n r:Nat)(s:SV)(ps:List P2)(h0 h:Qa):Prop where
 x:Ext h0 h
 c5:Cel h q5 (.int .u64 (n:Nat)) (.int .u64 (r:Nat))
 o:OwnD h0 h s ps
 l:h0.length<=q5
def acc1(p N t:Nat)(pws:List Nat)(x:Nat)(m:Tm):Nat:=adM p x (ofM p m.2*pws.getD (m.1.toNat*t%N) 0%p)
def acc(p N t:Nat)(pws:List Nat)(l:List Tm):Nat:=l.foldl (acc1 p N t pws) 0
structure S108(q rid:Nat)(top:List SV)(row:List Nat)(hb H h:Qa):Prop where
 x:Ext hb h
 c:Chg (·=rid) H h
 t:h[q]?=some (.cells top true 1)
 b:Bu h rid row
 lo:hb.length<=rid/\q≠rid
section
variable {FT:zzA} {HK:zzH} {E:Env} {h:Qa} {K:Env->Qa->Prop} {r:List AOp} {x:AO}
end
theorem Qko{h:Qa}{q i:Nat}{cs:List SV}{v:SV}(ht:h[q]?=some (.cells cs true 1))(hi:cs[i]?=some v):Q9 h q (0+i*1) 1=some [v]:=by
 have hl:=(Gb.1 hi).1
 simp only[Q9,ht,cut]
 rw[if_pos (by omega)]
 congr 1
 rw[Hc,Hd]
 apply Gr
 intro j
 cases j with
 | zero=>simp[hi]
 | succ j=>simp;omega
def Ent1(h:Qa)(s:SV)(r:List (List Tm)):Prop:=∃ ss:List SV,ss.length=r.length/\IsSl h s 1 ss.length ss/\∀(i:Nat) (t:SV) (l:List Tm),ss[i]?=some t->r[i]?=some l->IsD h t (tms l)
def rowM(p N t:Nat)(pws:List Nat)(r:List (List Tm)):List Nat:=r.map (acc p N t pws)
structure P108(p N t q n:Nat)(pws:List Nat)(es:List (List (List Tm)))(i:Nat)(ms:List Qci)(hb h:Qa):Prop where
 x:Ext hb h
 tp:h[q]?=some (.cells (ms.map (rowS n)++List.replicate (n-i) .nilS) true 1)
 l:ms.length=i
 nd:(ms.map (·.1)).Nodup
 ql:hb.length<=q
 lo:∀ m∈ms,hb.length<=m.1/\m.1≠q
 row:∀ m∈ms,Bu h m.1 m.2
 v:ms.map (·.2)=(es.take i).map (rowM p N t pws)
section
variable {FT:zzA} {HK:zzH} {E:Env} {h:Qa} {K:Env->Qa->Prop} {d:Option Nat} {r:List AOp} {x y:AO}
theorem repN{v:SV}:∀ n:Nat,rep [v] n=List.replicate n v
 | 0=>rfl
 | n+1=>by rw[rep,repN n];rfl
end
def V6:List Tm->Nat
 | []=>0
 | t::l=>t.2.natAbs+V6 l
def wsum:List (List Tm)->Nat
 | []=>0
 | l::r=>V6 l+wsum r
def Bi(h:Qa)(id:Nat)(xs:List Int):Prop:=h[id]?=some (.cells (xs.map (SV.int .i64)) true 1)
theorem Bi.ext{h h':Qa}{id:Nat}{xs:List Int}(b:Bi h id xs)(e:Ext h h'):Bi h' id xs:=by
 obtain⟨t,rfl⟩:=e
 unfold Bi at *
 rw[Gq (Gb.1 b).1,b]
theorem Bi.lt{h:Qa}{id:Nat}{xs:List Int}(b:Bi h id xs):id<h.length:=(Gb.1 b).1
theorem Bi.rd{h:Qa}{id i:Nat}{xs:List Int}{x:Int}(b:Bi h id xs)(hi:xs[i]?=some x):Q9 h id (0+i*1) 1=some [.int .i64 x] :=
 Qko b (by rw[Gj,hi];rfl)
theorem Bi.wr{h:Qa}{id i:Nat}{y:Int}{xs:List Int}(b:Bi h id xs)(hi:i<xs.length):Xz h id (0+i*1) [.int .i64 y]=some (h.set id (.cells ((xs.set i y).map (SV.int .i64)) true 1)):=by
 rw[wr1 b (by simpa using hi),List.map_set]
theorem Bi.set{h:Qa}{id:Nat}{xs ys:List Int}(b:Bi h id xs):Bi (h.set id (.cells (ys.map (SV.int .i64)) true 1)) id ys:=by
 unfold Bi;rw[GI b.lt]
theorem Bi.ints{h:Qa}{id:Nat}{xs:List Int}{c:Option Nat}(b:Bi h id xs):IsInts h (.slc id 0 xs.length c) xs:=by
 refine .inr ⟨id,0,c,_,rfl,b,rfl,fun h=>by rw[Gu h];rfl,fun _=>⟨_,_,rfl,?_⟩⟩
 unfold cut
 rw[if_pos (by simp[ESz.one_n])]
 simp only[ESz.one_n,Hi,Hd]
 rw[Gx (by simp)]
def qX(f:Nat->Int)(n i:Nat):List Int:=(List.range n).map fun j=>if j<i then f j else 0
theorem U3{f:Nat->Int}{n i:Nat}:(qX f n i).length=n:=by simp[qX]
theorem y9{f:Nat->Int}{n:Nat}:qX f n 0=List.replicate n 0:=by
 unfold qX
 apply Gr
 intro j
 rw[Gj,List.getElem?_replicate]
 rcases Gt j n with h|h
 ·rw[Gw h,if_pos h];simp
 ·rw[Gg (by simpa using h),if_neg (by omega)];rfl
theorem U2{f:Nat->Int}{n i:Nat}(h:i<n):(qX f n i).set i (f i)=qX f n (i+1):=by
 unfold qX
 apply Gr
 intro j
 rw[G7,Gj,Gj,Gp,List.length_range]
 by_cases e:i=j
 ·subst e
  rw[if_pos rfl,if_pos h,Gw h];simp
 ·rw[if_neg e]
  rcases Gt j n with hj|hj
  ·rw[Gw hj]
   simp only[Gm]
   by_cases h1:j<i
   ·rw[if_pos h1,if_pos (by omega)]
   ·rw[if_neg h1,if_neg (by omega)]
  ·rw[Gg (by simpa using hj)];rfl
theorem za{f:Nat->Int}{n:Nat}:qX f n n=(List.range n).map f:=by
 unfold qX
 refine Ht fun j hj=>?_
 rw[if_pos (Hl.1 hj)]
theorem QiV{f:Nat->Int}{n i:Nat}(h:i<n):(qX f n (i+1))[i]?=some (f i):=by
 unfold qX
 rw[Gj,Gw h];simp
section
variable {FT:zzA} {HK:zzH} {E:Env} {h:Qa} {K:Env->Qa->Prop} {d:Option Nat} {r:List AOp} {x y:AO}
theorem Qgx{n:Nat}(hx:evS E x=some (.int .i64 (n:Nat)))(hy:evS E y=some (.int .i64 (n:Nat)))(hb:n<=10000000)(hw:∀ h1,Ext h h1->Bi h1 h.length (List.replicate n 0)->Qk FT HK r (Qw d (some (.sc (.slc h.length 0 n (some n)))) E) h1 K) :
  Qk FT HK (⟨d,.mk 1 8 [.int .i64 0] x y,none⟩::r) E h K:=by
 refine Xi (v:=some (.sc (.slc h.length 0 n (some n)))) (h':=h++[.cells (rep [.int .i64 0] n) true 1]) rfl rfl ?_ (hw _ ⟨_,rfl⟩ ?_)
 ·simp only[Ql,hx,hy]
  rw[if_pos ⟨by omega,by omega,by unfold Yh;omega⟩,Int.toNat_natCast]
 ·unfold Bi
  rw[Gk (Ge _),Nat.sub_self,repN,List.map_replicate];rfl
end
structure FieldOk(p g:Nat):Prop where
 f:FOK p (Jj p)
 r:Rt p 17 g
 lt:g<p
 lo:1152921504606846976<p
 hi:p<2305843009213693952
theorem Qk2{p a:Nat}(h:a<p):Cg p (lfM p a) (a:Nat):=by
 unfold lfM
 split
 ·exact⟨-1,by omega⟩
 ·exact Cg.rfl
def Qfj(h:Qa)(v:AV)(p:Pol)(e:Int):Prop:=∃ s,v = .tup [.agg [.bool p.big,s],.sc (.int .i64 e)]/\IsD h s (tms p.ts)
def dvT(b t:Tm):Tm:=(t.1-b.1,t.2/b.2)
def Qb8(b t:Tm):Prop:=b.2 ∣ t.2/\(t.1-b.1).natAbs<=eM
open Classical in
noncomputable def U8(p:List Tm)(b:Tm):Pol×Int:=if ∀ t∈p,Qb8 b t then (⟨false,p.map (dvT b)⟩,0) else (Yf,10)
structure St70(h0 h:Qa)(q3 q4 q6:Nat)(b:Tm)(s:SV)(r:List Tm):Prop where
 e:Ext h0 h
 c3:Cel h q3 (.int .i64 b.1) (.int .i64 b.2)
 c4:Cel h q4 (.bool false) .nilS
 c6:Cel h q6 (.bool false) s
 o:OwnD h0 h s (tms r)
theorem St70.ext{h0 h h':Qa}{q3 q4 q6:Nat}{b:Tm}{s:SV}{r:List Tm}(st:St70 h0 h q3 q4 q6 b s r)(he:Ext h h'):St70 h0 h' q3 q4 q6 b s r :=
 ⟨st.e.trans he,st.c3.ext he,st.c4.ext he,st.c6.ext he,st.o.ext he⟩
def I70(h0:Qa)(q3 q4 q6:Nat)(sp:SV)(p:List Tm)(b:Tm)(E:Env)(h:Qa):Prop:=∃(i:Nat) (s:SV),i<=p.length/\(∀ t∈p.take i,Qb8 b t)/\St70 h0 h q3 q4 q6 b s ((p.take i).map (dvT b)) ∧
 E.keep [3,4,6,16,17,18]=[(3,some (.sc (.ptr q3 0))),(4,some (.sc (.ptr q4 0))),(6,some (.sc (.ptr q6 0))),(16,some (.sc sp)),(17,some (.sc (.int .i64 (p.length:Nat)))),(18,some (.sc (.int .i64 (i:Nat))))]
def R70(h0:Qa)(q3 q4 q6:Nat)(p:List Tm)(b:Tm)(ex:Ex)(E:Env)(h:Qa):Prop :=
 (ex = .ex 0/\∃ s a3 a b' c d,(∀ t∈p,Qb8 b t)/\St70 h0 h q3 q4 q6 b s (p.map (dvT b))/\E=[(3,a3),(4,some (.sc (.ptr q4 0))),(6,some (.sc (.ptr q6 0))),(16,a),(17,b'),(18,c),(19,d)]) ∨
 (ex = .rt/\¬(∀ t∈p,Qb8 b t)/\Ext h0 h/\Cel h q4 (.bool false) .nilS/\E=[(4,some (.sc (.ptr q4 0))),(5,some (.sc (.int .i64 10)))])
theorem Qh9(h0:Qa)(q3 q4 q6:Nat)(sp:SV)(p:List Tm)(b:Tm)(hp:IsD h0 sp (tms p))(fp:∀ t∈p,t.2.natAbs<=cM/\t.1.natAbs<=eM)(pl:p.length<=2097153)(hb:b.2≠0/\b.2.natAbs<=cM/\b.1.natAbs<=eM)(l3:h0.length<=q3)(l4:h0.length<=q4)(l6:h0.length<=q6)(n36:q3≠q6)(n46:q4≠q6)(E:Env)(h:Qa)(hI:I70 h0 q3 q4 q6 sp p b E h) :
  wA FT HKt QjQ (E.keep [3,4,6,16,17,18]) h (QC (I70 h0 q3 q4 q6 sp p b) (cK [3,4,6,16,17,18] p.length 18) (cK [3,4,6,16,17,18] p.length 18 E h) (R70 h0 q3 q4 q6 p b)):=by
 obtain⟨i,s,hi,hok,st,hE⟩:=hI
 have hm:cK [3,4,6,16,17,18] p.length 18 E h=p.length-i:=by unfold cK;rw[hE];rfl
 rw[hm,hE]
 by_cases hlt:i<p.length
 ·obtain⟨t,ht⟩:∃ t,p[i]?=some t:=⟨_,Gc hlt⟩
  have htm:=Gl ht
  obtain⟨tc,te⟩:=fp t htm
  obtain⟨bz,bc,be⟩:=hb
  obtain⟨id,off,cap,e1,r0⟩:=hp.at (i:=i) (p:=tmP t) (by simp[ht])
  rw[QL]at e1
  subst e1
  have r1:=QO st.e r0
  simp only[cM,eM]at tc te bc be
  have k35:=fun H=>Zl H (t.1-b.1) 1048576 (by omega)
  have tk:p.take (i+1)=p.take i++[t]:=by rw[G1,ht];rfl
  have l1:((p.take i).map (dvT b)).length=i:=by simp;omega
  by_cases hd:b.2 ∣ t.2
  ·have hz:t.2.tmod b.2=0:=Int.tmod_eq_zero_of_dvd hd
   have hq:t.2.tdiv b.2=t.2/b.2:=Int.tdiv_eq_ediv_of_dvd hd
   have hqb:(t.2/b.2).natAbs<=t.2.natAbs:=by rw[← hq,Int.natAbs_tdiv];exact Nat.div_le_self _ _
   by_cases hw:(t.1-b.1).natAbs<=1048576
   ·rw[show decide ((t.1-b.1).natAbs<=(1048576:Int).toNat)=true from decide_eq_true hw]at k35
    repeat' first|apply Qh|apply Qc|apply Qz|apply QV|apply Qm|apply Qf|apply QU|apply Xl|apply Xm|(apply Qg;first|refine Qi rfl ?_|refine Qj rfl ?_)|(apply Qe;first|apply QR|apply Xu|refine Ye (by assumption) ?_|refine Q7 rfl rfl rfl rfl rfl rfl ?_|refine Xr rfl rfl rfl rfl rfl rfl rfl ?_|refine Xh rfl rfl rfl rfl rfl rfl rfl rfl ?_|refine Xd rfl rfl rfl rfl rfl rfl rfl rfl rfl ?_)|(apply Qb;first|refine QJ (esz:=2) rfl rfl (by omega) ?_|refine XN rfl r1 ?_|(refine QT rfl ?_;intro h2 e2 c2;have s2:=st.ext e2;have lt8:=s2.c6.lt)|refine QS rfl ?_|refine QB rfl c2 ?_|refine Qt rfl c2 ?_|refine QB rfl s2.c3 ?_|refine Qt rfl s2.c3 ?_|(refine QaC rfl rfl bz ?_;rw[hz])|(refine Qd rfl (k35 _) ?_;rintro r _ ⟨rfl,rfl⟩)|refine Qt rfl s2.c6 ?_|(refine QaD rfl rfl (by omega) ?_;rw[hq])|(refine Xp rfl rfl ?_)|(refine QaI rfl ?_;intro h3 e3 src3;have s3:=s2.ext e3)|(refine Us s3.e s3.o rfl rfl src3 (by rw[QL,l1];simp only[Yh];omega) ?_;intro s' h5 o5 e5 f5 l5;have d6:=s3.c6.fram f5 (s3.o.cel s3.c6))|(refine ZO rfl rfl d6 ?_;intro h6 w6)|refine QE rfl ?_|refine Qn rfl ?_|refine Qy rfl rfl ?_|refine XX rfl ?_|refine Q1 rfl rfl (by omega) ?_|refine Yp rfl rfl (by omega) ?_|refine QH rfl rfl (by omega) ?_|refine X2 rfl rfl (by omega) ?_)
    have d3:=s3.c3.fram f5 (s3.o.cel s3.c3)
    have d4:=s3.c4.fram f5 (s3.o.cel s3.c4)
    refine Xg ⟨i+1,s',by omega,?_,⟨w6.ext e5 l6,w6.keep d3 n36,w6.keep d4 n46,w6.cel,?_⟩,rfl⟩ (by simp[cK,Env.keep,Env.get];omega)
    ·rw[tk]
     intro u hu
     rcases GD.1 hu with hu|hu
     ·exact hok u hu
     ·rw[List.mem_singleton.1 hu];exact⟨hd,by simpa [eM]using hw⟩
    ·rw[tk]
     have:=o5.wrC w6
     simpa [tms,tmP,dvT]using this
   ·rw[show decide ((t.1-b.1).natAbs<=(1048576:Int).toNat)=false from decide_eq_false hw]at k35
    repeat' first|apply Qh|apply Qc|apply QD|apply Qz|apply Xn|apply Qm|apply Qs|apply Qf|(apply Qg;refine Qi rfl ?_)|(apply Qe;first|refine Qx rfl rfl ?_|refine Xr rfl rfl rfl rfl rfl rfl rfl ?_|refine Xh rfl rfl rfl rfl rfl rfl rfl rfl ?_|refine Xd rfl rfl rfl rfl rfl rfl rfl rfl rfl ?_)|(apply Qb;first|refine QJ (esz:=2) rfl rfl (by omega) ?_|refine XN rfl r1 ?_|(refine QT rfl ?_;intro h2 e2 c2;have s2:=st.ext e2;have lt8:=s2.c6.lt)|refine QS rfl ?_|refine QB rfl c2 ?_|refine Qt rfl c2 ?_|refine QB rfl s2.c3 ?_|refine Qt rfl s2.c3 ?_|(refine QaC rfl rfl bz ?_;rw[hz])|(refine Qd rfl (k35 _) ?_;rintro r _ ⟨rfl,rfl⟩)|(refine Xp rfl rfl ?_)|(have c4:=s2.c4;refine QZ rfl rfl c4 ?_;intro h6 w6)|refine QE rfl ?_|refine Qn rfl ?_|refine Qy rfl rfl ?_|refine YW rfl ?_|refine Yp rfl rfl (by omega) ?_|refine QH rfl rfl (by omega) ?_|refine X2 rfl rfl (by omega) ?_)
    exact YJ (.inr ⟨rfl,fun h=>hw (by have:=(h t htm).2;simpa [eM]using this),w6.ext s2.e l4,w6.cel,rfl⟩)
  ·have hz:t.2.tmod b.2≠0:=fun h=>hd (Int.dvd_of_tmod_eq_zero h)
   generalize hmm:t.2.tmod b.2=mm at *
   repeat' first|apply Qh|apply Qc|apply QD|apply Qz|apply Xn|apply Qm|apply Qs|apply Qf|(apply Qg;refine Qi rfl ?_)|(apply Qe;first|refine Qx rfl rfl ?_|refine Xr rfl rfl rfl rfl rfl rfl rfl ?_|refine Xh rfl rfl rfl rfl rfl rfl rfl rfl ?_|refine Xd rfl rfl rfl rfl rfl rfl rfl rfl rfl ?_)|(apply Qb;first|refine QJ (esz:=2) rfl rfl (by omega) ?_|refine XN rfl r1 ?_|(refine QT rfl ?_;intro h2 e2 c2;have s2:=st.ext e2;have lt8:=s2.c6.lt)|refine QS rfl ?_|refine QB rfl c2 ?_|refine Qt rfl c2 ?_|refine QB rfl s2.c3 ?_|refine Qt rfl s2.c3 ?_|(refine QaC rfl rfl bz ?_;rw[hmm])|(refine Xp rfl rfl ?_)|(have c4:=s2.c4;refine QZ rfl rfl c4 ?_;intro h6 w6)|refine Xa rfl ?_|refine Qn rfl ?_|refine QK rfl rfl ?_|refine Yp rfl rfl (by omega) ?_|refine QH rfl rfl (by omega) ?_|refine Zh rfl rfl (by omega) ?_)
   exact YJ (.inr ⟨rfl,fun h=>hd (h t htm).1,w6.ext s2.e l4,w6.cel,rfl⟩)
 ·have:i=p.length:=by omega
  subst this
  rw[GH]at st hok
  repeat' first|apply Qh|apply Qc|apply Xc|apply Q5|apply Qf|(apply Qg;refine Qj rfl ?_)|(apply Qe;refine Xr rfl rfl rfl rfl rfl rfl rfl ?_)|(apply Qb;refine QW rfl rfl (by omega) ?_)
  exact XA (.inl ⟨rfl,s,_,_,_,_,_,hok,st,rfl⟩)
theorem Qly(h0:Qa)(sp:SV)(bp:Bool)(p:List Tm)(b:Tm)(hp:IsD h0 sp (tms p))(fp:∀ t∈p,t.2.natAbs<=cM/\t.1.natAbs<=eM)(pl:p.length<=2097153)(hb:b.2≠0/\b.2.natAbs<=cM/\b.1.natAbs<=eM) :
  ∃ r h',Cal FT HKt 70 [.agg [.bool bp,sp],.agg [.int .i64 b.1,.int .i64 b.2]] h0 r h'/\Ext h0 h'/\Qfj h' r (U8 p b).1 (U8 p b).2:=by
 refine Cal.of (F:=a70) rfl rfl rfl ?_
 have lp:=hp.len
 rw[QL]at lp
 repeat' first|apply Qh|apply Qc|apply Qz|apply Qf|(apply Qe;first|refine Qq rfl rfl rfl ?_|refine QA rfl rfl rfl rfl ?_|refine Q7 rfl rfl rfl rfl rfl rfl ?_)|(apply Qb;first|(have z:=xB;refine QT rfl ?_;intro h6 e6 c6;have oC:=oB.ext e6;have d2_6:=d2_B.ext e6;have d3_6:=d3_B.ext e6;have d4_6:=d4_B.ext e6;have x6:=xB.trans e6;have l6:h0.length<=hB.length:=xB.len)|(have z:=e3;apply QQ;intro h4 e4 c4;have d3:=c3.ext e4;have d2:=(c2.ext e3).ext e4;have x4:=e2.trans (e3.trans e4);have n4:=c4.lt;have n3:=c3.lt;have l3:=e2.len;have l4:=(e2.trans e3).len)|(have z:=e2;refine Qr rfl ?_;intro h3 e3 c3)|(refine Qr rfl ?_;intro h2 e2 c2)|refine Qt rfl d2 ?_|refine Qt rfl d2_6 ?_|refine QG rfl lp ?_|(refine zW x4 rfl rfl (by simp only[Yh];omega) ?_;intro S hB oB eB xB lB;have d2_B:=d2.ext eB;have d3_B:=d3.ext eB;have d4_B:=c4.ext eB)|(refine Xp rfl rfl ?_)|refine Qn rfl ?_|refine Xt rfl rfl ?_)
 refine YK (I70 h0 h2.length h3.length hB.length sp p b) (cK [3,4,6,16,17,18] p.length 18) (R70 h0 h2.length h3.length hB.length p b) ⟨0,S,Gs _,by simp,⟨x6,d3_6,d4_6,c6,oC.weaken x4.len⟩,rfl⟩ (Qh9 h0 h2.length h3.length hB.length sp p b hp fp pl hb l3 l4 l6 (by omega) (by omega)) ?_
 rintro ex E' h7 (⟨rfl,s,_,_,_,_,_,hall,st,rfl⟩|⟨rfl,hns,e7,c7,rfl⟩)
 ·have c4:=st.c4
  repeat' first|apply Qh|apply Qc|apply Q8|apply Qs|apply Qf|(apply Qe;refine Qx rfl rfl ?_)|(apply Qb;first|refine Qv rfl st.c6 ?_|(refine QZ rfl rfl c4 ?_;intro h8 w8)|refine Qn rfl ?_)
  refine⟨.inr rfl,XL rfl w8.cel.read rfl ⟨w8.ext st.e l4,?_⟩⟩
  unfold U8
  rw[if_pos hall]
  exact⟨s,rfl,(st.o.wrC w8).is⟩
 ·repeat' first|apply QD|apply Xn
  refine⟨.inr rfl,XL rfl c7.read rfl ⟨e7,?_⟩⟩
  unfold U8
  rw[if_neg hns]
  exact⟨.nilS,rfl,IsD.nil _⟩
def ZB(ts:List Tm)(e:Int):List Tm:=ts.filter fun t=>decide (t.1<e)
theorem Qfe{ts:List Tm}{e:Int}(h:∀ t∈ts,t.1<e):ZB ts e=ts:=List.filter_eq_self.2 fun t ht=>by simpa using h t ht
theorem Qda{ts:List Tm}{e:Int}(h:∀ t∈ts,e<=t.1):ZB ts e=[]:=List.filter_eq_nil_iff.2 fun t ht=>by simpa using h t ht
theorem Qc9{ts:List Tm}{e:Int}(h:∀ t∈ts,t.1≠e):ZB ts (e+1)=ZB ts e:=List.filter_congr fun t ht=>by
 have:=h t ht
 simp only[decide_eq_decide];omega
theorem Vh:∀ {ts:List Tm} {t:Tm},ts.Pairwise (fun x y=>x.1<y.1)->t∈ts->ZB ts (t.1+1)=ZB ts t.1++[t]
 | u::r,t,h,ht=>by
  obtain⟨h1,h2⟩:=Hm.1 h
  rcases GT.1 ht with rfl|ht
  ·unfold ZB
   rw[List.filter_cons_of_pos (by simp;omega),List.filter_cons_of_neg (by simp)]
   have e1:r.filter (fun t_1=>decide (t_1.1<t.1+1))=[]:=List.filter_eq_nil_iff.2 fun y hy=>by have:=h1 y hy;simp;omega
   have e2:r.filter (fun t_1=>decide (t_1.1<t.1))=[]:=List.filter_eq_nil_iff.2 fun y hy=>by have:=h1 y hy;simp;omega
   rw[e1,e2];rfl
  ·have:=h1 t ht
   have ih:=Vh h2 ht
   unfold ZB at ih ⊢
   rw[List.filter_cons_of_pos (by simp;omega),List.filter_cons_of_pos (by simp;omega),ih];rfl
def shL(low:Int)(l:List Tm):List Tm:=l.map fun t=>(t.1-low,t.2)
def I65(q2:Nat)(low:Int)(ts:List Tm)(hb:Qa)(m:Nat)(E:Env)(h:Qa):Prop:=∃(e:Int) (s:SV),lo0 ts<=e/\e<=hi0 ts+1/\m=(hi0 ts+1-e).toNat/\Ext hb h/\OwnD hb h s (tms (shL low (ZB ts e))) ∧
 E.keep [1,2,5,6]=[(1,some (.sc (.int .i64 low))),(2,some (.sc (.ptr q2 0))),(5,some (.sc s)),(6,some (.sc (.int .i64 e)))]
def R65(low:Int)(ts:List Tm)(hb:Qa)(ex:Ex)(E:Env)(h:Qa):Prop:=ex = .ex 0/\Ext hb h/\∃ s,OwnD hb h s (tms (shL low ts))/\∃ a b c d,E=[(1,a),(2,b),(5,some (.sc s)),(6,c),(13,d)]
theorem Qfd{ts:List Tm}{e:Int}:(ZB ts e).length<=ts.length:=List.length_filter_le _ _
theorem Qid(q2:Nat)(low:Int)(b:Bool)(sp:SV)(ts:List Tm)(hb:Qa)(hlow:low.natAbs<=10000000)(c2:Cel hb q2 (.bool b) sp)(dp:IsD hb sp (tms ts))(ca:Can ts)(hl:ts.length<=100000)(he:∀ t∈ts,t.1.natAbs<=10000000)(hlh:lo0 ts<=hi0 ts+1/\(lo0 ts).natAbs<=10000000/\(hi0 ts).natAbs<=10000000)(m:Nat)(E:Env)(h:Qa)(hI:I65 q2 low ts hb m E h) :
  wA FT HKt QjW (E.keep [1,2,5,6]) h (Qu (I65 q2 low ts hb) m (R65 low ts hb)):=by
 obtain⟨e,s,he1,he2,rfl,x,o,hE⟩:=hI
 rw[hE]
 have k54:=fun H (y:Ext hb H)=>zw H b sp ts (dp.ext y) (by omega)
 have k62:=fun H (y:Ext hb H)=>Qc4 H b sp ts e (dp.ext y) ca (by omega)
 have c2h:=fun H (y:Ext hb H)=>c2.ext y
 by_cases hlt:e<=hi0 ts
 ·by_cases hz:cf ts e=0
  ·have sk:ZB ts (e+1)=ZB ts e:=Qc9 fun t ht heq=>by
    have:=YQ ca ht
    rw[heq,hz]at this
    exact ca.nz t ht this.symm
   rw[hz]at k62
   have x0:=x
   repeat' first|apply Qh|apply Qc|apply Qz|apply QV|apply Qm|apply Qf|(apply Qg;first|refine Qi rfl ?_|refine Qj rfl ?_)|(apply Qe;first|refine QA rfl rfl rfl rfl ?_|refine QM rfl rfl rfl rfl rfl ?_|refine Q7 rfl rfl rfl rfl rfl rfl ?_)|(apply Qb;first|refine Qv rfl (c2h _ x0) ?_|(refine Qd rfl (k54 _ x0) ?_;rintro v h1 ⟨e1,rfl⟩;replace x0:=x0.trans e1;replace o:=o.ext e1)|(refine Qd rfl (k62 _ x0) ?_;rintro v h2 ⟨e2,rfl⟩;replace x0:=x0.trans e2;replace o:=o.ext e2)|refine Qn rfl ?_|refine Q1 rfl rfl (by omega) ?_|refine QcN rfl rfl (by omega) ?_|refine X2 rfl rfl (by omega) ?_)
   exact Xb (j:=(hi0 ts+1-(e+1)).toNat) (by omega) ⟨e+1,s,by omega,by omega,rfl,x0,by rw[sk];exact o,rfl⟩
  ·obtain⟨t,ht,hte⟩:=Z2 hz
   have hcf:=YQ ca ht
   rw[hte]at hcf
   have st:=Vh ca.asc ht
   rw[hte]at st
   have nx:tms (shL low (ZB ts e))++[(SV.int .i64 (e-low),SV.int .i64 (cf ts e))]=tms (shL low (ZB ts (e+1))):=by
    rw[st,hcf]
    simp[shL,tmP,hte]
   have lb:=Qfd (ts:=ts) (e:=e)
   have ll:(tms (shL low (ZB ts e))).length<=100000:=by rw[QL];unfold shL;rw[Gp];omega
   generalize cf ts e=v0 at *
   have x0:=x
   repeat' first|apply Qh|apply Qc|apply Qz|apply QV|apply Qm|apply Qf|(apply Qg;refine Qi rfl ?_)|(apply Qe;first|refine QA rfl rfl rfl rfl ?_|refine QM rfl rfl rfl rfl rfl ?_|refine Q7 rfl rfl rfl rfl rfl rfl ?_)|(apply Qb;first|refine Qv rfl (c2h _ x0) ?_|(refine Qd rfl (k54 _ x0) ?_;rintro v h1 ⟨e1,rfl⟩;replace x0:=x0.trans e1;replace o:=o.ext e1)|(refine Qd rfl (k62 _ x0) ?_;rintro v h2 ⟨e2,rfl⟩;replace x0:=x0.trans e2;replace o:=o.ext e2)|refine Zh rfl rfl (by omega) ?_|refine Xp rfl rfl ?_|(refine QaI rfl ?_;intro h4 x4 s4)|(refine Us (x0.trans x4) (o.ext x4) rfl rfl s4 (by unfold Yh;omega) ?_;intro s5 h5 o5 x5 fr5 l5)|refine Qn rfl ?_|refine Q1 rfl rfl (by omega) ?_|refine Yp rfl rfl (by omega) ?_|refine QcN rfl rfl (by omega) ?_)
   exact Xb (j:=(hi0 ts+1-(e+1)).toNat) (by omega) ⟨e+1,s5,by omega,by omega,rfl,x5,by rw[← nx];exact o5,rfl⟩
 ·have:e=hi0 ts+1:=by omega
  subst this
  have x0:=x
  repeat' first|apply Qh|apply Qc|apply Xc|apply Q5|apply Qf|(apply Qg;refine Qj rfl ?_)|(apply Qe;refine QM rfl rfl rfl rfl rfl ?_)|(apply Qb;first|refine Qv rfl (c2h _ x0) ?_|(refine Qd rfl (k54 _ x0) ?_;rintro v h1 ⟨e1,rfl⟩;replace x0:=x0.trans e1;replace o:=o.ext e1)|refine Qn rfl ?_|refine QaH rfl rfl (by omega) ?_)
  rw[Qfe fun t ht=>by have:=XM ca t ht;omega]at o
  exact Xj ⟨rfl,x0,s,o,_,_,_,_,rfl⟩
theorem OwnD.older{h0 hb h:Qa}{s:SV}{ps:List P2}(o:OwnD hb h s ps)(x:Ext h0 hb):OwnD h0 h s ps:=by
 rcases o with o|⟨id,cap,bl,h1,h2,h3⟩
 ·exact .inl o
 ·exact .inr ⟨id,cap,bl,h1,Gh x.len h2,h3⟩
theorem zR{ts:List Tm}(ca:Can ts):lo0 ts<=hi0 ts:=by
 by_cases h:ts=[]
 ·subst h;exact Int.le_refl _
 ·obtain⟨t,ht,e⟩:=X7 h
  rw[← e];exact XM ca t ht
theorem Qha(h0:Qa)(b:Bool)(sp:SV)(ts:List Tm)(low:Int)(hlow:low.natAbs<=10000000)(dp:IsD h0 sp (tms ts))(ca:Can ts)(hl:ts.length<=100000)(he:∀ t∈ts,t.1.natAbs<=10000000) :
  ∃ r h',Cal FT HKt 65 [.agg [.bool b,sp],.sc (.int .i64 low)] h0 r h'/\Ext h0 h'/\∃ s,r = .sc s/\OwnD h0 h' s (tms (shL low ts)):=by
 refine Cal.of (F:=a65) rfl rfl rfl ?_
 have k53:=fun H (y:Ext h0 H)=>Y2 H b sp ts (dp.ext y)
 have hlh:lo0 ts<=hi0 ts+1/\(lo0 ts).natAbs<=10000000/\(hi0 ts).natAbs<=10000000:=by
  have:=zR ca
  by_cases h:ts=[]
  ·subst h;simp[lo0,hi0]
  ·obtain⟨t,ht,e⟩:=X7 h
   obtain⟨u,hu,e2⟩:=YH h
   have:=he t ht
   have:=he u hu
   omega
 repeat' first|apply Qh|apply Qc|apply Qz|apply Qf|(apply Qe;first|refine Qx rfl rfl ?_|refine Qq rfl rfl rfl ?_|refine QA rfl rfl rfl rfl ?_)|(apply Qb;first|(refine Qr rfl ?_;intro h1 e1 c1)|refine Qv rfl c1 ?_|(refine Qd rfl (k53 _ e1) ?_;rintro v h2 ⟨e2,rfl⟩)|refine Qn rfl ?_)
 have e0:ZB ts (lo0 ts)=[]:=Qda fun t ht=>XF ca t ht
 refine XJ (I65 h0.length low ts h2) (hi0 ts+1-lo0 ts).toNat (R65 low ts h2) ⟨lo0 ts,.nilS,Int.le_refl _,hlh.1,rfl,Ext.refl _,by rw[e0];exact .inl ⟨rfl,rfl⟩,rfl⟩
  (Qid h0.length low b sp ts h2 hlow (c1.ext e2) ((dp.ext e1).ext e2) ca hl he hlh) ?_
 rintro ex E' h3 ⟨rfl,x3,s3,o3,_,_,_,_,rfl⟩
 repeat' first|apply Qh|apply Qc|apply Q8|apply Qs|apply Qf|(apply Qe;refine Qp rfl ?_)|(apply Qb;refine Qn rfl ?_)
 exact⟨.inr rfl,(e1.trans e2).trans x3,s3,rfl,OwnD.older o3 (e1.trans e2)⟩
def PolRow(h:Qa)(s:SV)(ps:List Pol):Prop:=∃ ss:List SV,ss.length=ps.length/\IsD h s (List.zipWith (fun (p:Pol) t=>(SV.bool p.big,t)) ps ss)/\∀(i:Nat) (p:Pol) (t:SV),ps[i]?=some p->ss[i]?=some t->IsD h t (tms p.ts)
def PolMx(h:Qa)(s:SV)(m:List (List Pol)):Prop:=∃ ss:List SV,ss.length=m.length/\IsSl h s 1 ss.length ss/\∀(i:Nat) (t:SV) (r:List Pol),ss[i]?=some t->m[i]?=some r->PolRow h t r
theorem PolRow.at{h:Qa}{s:SV}{r:List Pol}(e:PolRow h s r){i:Nat}{p:Pol}(hi:r[i]?=some p):∃ id off cap t,s = .slc id off r.length cap/\Q9 h id (off+i*2) 2=some [.bool p.big,t]/\IsD h t (tms p.ts):=by
 obtain⟨ss,h1,h2,h3⟩:=e
 have hl:=(Gb.1 hi).1
 obtain⟨t,ht⟩:∃ t,ss[i]?=some t:=⟨_,Gc (by omega)⟩
 obtain⟨id,off,cap,e1,rd⟩:=h2.at (i:=i) (p:=(SV.bool p.big,t)) (by rw[List.getElem?_zipWith,hi,ht])
 rw[List.length_zipWith,h1,Nat.min_self]at e1
 exact⟨id,off,cap,t,e1,rd,h3 i p t hi ht⟩
theorem PolMx.at{h:Qa}{s:SV}{m:List (List Pol)}(e:PolMx h s m){i:Nat}{r:List Pol}(hi:m[i]?=some r):∃ id off cap t,s = .slc id off m.length cap/\Q9 h id (off+i*1) 1=some [t]/\PolRow h t r:=by
 obtain⟨ss,h1,h2,h3⟩:=e
 have hl:=(Gb.1 hi).1
 obtain⟨t,ht⟩:∃ t,ss[i]?=some t:=⟨_,Gc (by omega)⟩
 obtain⟨id,off,cap,e1,rd⟩:=h2.at ht
 rw[h1]at e1
 exact⟨id,off,cap,t,e1,rd,h3 i t r ht hi⟩
def bstep(st:Option (Int×Int))(p:Pol):Option (Int×Int):=if p.ts=[] then st else match st with
 | none=>some (lo0 p.ts,hi0 p.ts)
 | some (a,b)=>some (min a (lo0 p.ts),max b (hi0 p.ts))
def bnds(r:List Pol):Option (Int×Int):=r.foldl bstep none
def bFst:Option (Int×Int)->Int
 | none=>0
 | some x=>x.1
def bSnd:Option (Int×Int)->Int
 | none=>0
 | some x=>x.2
def bF(r:List Pol):Int:=bFst (bnds r)
def bS(r:List Pol):Int:=bSnd (bnds r)
def degS(m:List (List Pol))(k:Nat):Int:=sm k fun j=>bS (m.getD j [])-bF (m.getD j [])
section
variable {FT:zzA} {HK:zzH} {E:Env} {h:Qa} {K:Env->Qa->Prop} {d:Option Nat} {r:List AOp} {x:AO}
end
structure S40(eid i:Nat)(top:List SV)(ls:List (List Tm))(s:SV)(hb H h:Qa):Prop where
 x:Ext hb h
 c:Chg (·=eid) H h
 t:h[eid]?=some (.cells (top.set i s) true 1)
 o:∃ vs,vs.length=ls.length/\Own hb h s vs/\∀(k:Nat) (t:SV) (l:List Tm),vs[k]?=some t->ls[k]?=some l->IsD h t (tms l)
 lo:∀ j,j<H.length->Ys s j
def esR(r:List Pol):List (List Tm):=r.map fun p=>shL (bF r) p.ts
def EntN(eid:Nat)(h:Qa)(s:SV)(r:List (List Tm)):Prop:=Ys s eid/\Ent1 h s r
structure J40(eid n i:Nat)(es:List (List (List Tm)))(hb h:Qa):Prop where
 x:Ext hb h
 r:∃ ss:List SV,ss.length=i/\h[eid]?=some (.cells (ss++List.replicate (n-i) .nilS) true 1)/\∀(j:Nat) (s:SV) (r:List (List Tm)),ss[j]?=some s->es[j]?=some r->EntN eid h s r
structure DOk(b:Nat)(m:List (List Pol)):Prop where
 n:m.length<=1000
 sq:∀ r∈m,r.length=m.length
 ok:∀ r∈m,∀ p∈r,Can p.ts/\p.big=false/\p.ts.length<=100000/\∀ t∈p.ts,t.1.natAbs<=50000/\t.2.natAbs<=cM
 bb:b<=60/\b*m.length<=118
 w:∀ r∈m,wsum (esR r)<2^b
 deg:degS m m.length<=65536
end Go.Proofs.YtofknpknogfijaaGreatDoor
namespace Go.Proofs.YtofknpknogfijaaGreatDoor
open Go.Ab
set_option linter.all false
variable [HB]
def mulT:List Tm->(Int->Int)->Int->Int
 | [],_,_=>0
 | t::l,f,e=>t.2*f (e-t.1)+mulT l f e
theorem Qbw{f g:Int->Int}:∀ {l:List Tm} {e:Int},(∀ t∈l,f (e-t.1)=g (e-t.1))->mulT l f e=mulT l g e
 | [],_,_=>rfl
 | t::l,e,h=>by
  simp only[mulT]
  rw[h t (.head _),Qbw fun u hu=>h u (.tail _ hu)]
theorem yY{f:Int->Int}:∀ {l:List Tm} {e:Int},(∀ t∈l,f (e-t.1)=0)->mulT l f e=0
 | [],_,_=>rfl
 | t::l,e,h=>by
  simp only[mulT]
  rw[h t (.head _),yY fun u hu=>h u (.tail _ hu),GE];rfl
theorem QdL{f:Int->Int}{B:Nat}(h:∀ e,(f e).natAbs<=B):∀ {l:List Tm} {e:Int},(mulT l f e).natAbs<=V6 l*B
 | [],_=>by simp[mulT,V6]
 | t::l,e=>by
  simp only[mulT,V6]
  have h1:=QdL h (l:=l) (e:=e)
  have h2:(t.2*f (e-t.1)).natAbs<=t.2.natAbs*B:=by rw[He];exact Nat.mul_le_mul_left _ (h _)
  rw[GZ];omega
def rT(r:List Pol):List (List Tm):=r.map Pol.ts
set_option maxHeartbeats 16000000
set_option maxRecDepth 20000
attribute [local irreducible] Qk wA Xv Xs QC Qu QP Q6
theorem VH{low:Int}{xs:List Int}(h:∀ x∈xs,x.natAbs<=cM)(hl:low<=eM)(he:∀ i,i<xs.length->(low+(i:Nat)).natAbs<=eM) :
  ∃ r,ofP low xs=⟨false,r⟩/\Can r/\(∀ t∈r,low<=t.1/\t.1<low+xs.length/\t.2.natAbs<=cM/\t.1.natAbs<=eM)/\∀ e,cf r e=if low<=e/\e<low+xs.length then xs.getD (e-low).toNat 0 else 0:=by
 have key:∀ i,i<=xs.length->∃ r,ofN low xs i=some r:=by
  intro i
  induction i with
  | zero=>intro _;exact⟨[],rfl⟩
  | succ i ih =>
   intro hi
   obtain⟨r,hr⟩:=ih (by omega)
   have hm:xs.getD i 0∈xs:=by rw[Gf,Gc (by omega)];exact List.getElem_mem _
   have h1:=h _ hm
   have h2:=he i (by omega)
   rw[ofN,hr,Gi]
   split
   ·exact⟨_,rfl⟩
   ·rw[if_pos ⟨h1,hl,h2⟩];exact⟨_,rfl⟩
 obtain⟨r,hr⟩:=key xs.length (Ge _)
 obtain⟨a,b,c⟩:=yW hr
 exact⟨r,by unfold ofP;rw[hr],a,b,c⟩
structure SqM(b:Nat)(m:List (List Pol)):Prop where
 n:m.length<=64
 sq:∀ r∈m,r.length=m.length
 ok:∀ r∈m,∀ p∈r,Can p.ts/\p.big=false/\p.ts.length<=100000/\∀ t∈p.ts,t.1.natAbs<=400/\t.2.natAbs<=cM
 bb:b<=60/\b*m.length<=118
 w:∀ r∈m,wsum (rT r)<2^b
structure Sa(h0 h:Qa)(q2 q3 q4:Nat)(sp sq S:SV)(vs:List Int):Prop where
 e:Ext h0 h
 c2:Cel h q2 (.bool false) sp
 c3:Cel h q3 (.bool false) sq
 c4:Cel h q4 (.bool false) .nilS
 o:OwnD h0 h S (vs.map wdP)
theorem Sa.ext{h0 h h':Qa}{q2 q3 q4:Nat}{sp sq S:SV}{vs:List Int}(st:Sa h0 h q2 q3 q4 sp sq S vs)(he:Ext h h'):Sa h0 h' q2 q3 q4 sp sq S vs :=
 ⟨st.e.trans he,st.c2.ext he,st.c3.ext he,st.c4.ext he,st.o.ext he⟩
theorem Sa.put{h0 h:Qa}{q2 q3 q4:Nat}{sp sq S:SV}{vs:List Int}(st:Sa h0 h q2 q3 q4 sp sq S vs){k:Nat}(hk:k<vs.length)(v:Int) :
  ∃ id cap h',S = .slc id 0 vs.length cap/\Xz h id (0+k*2) [(wdP v).1,(wdP v).2]=some h'/\Sa h0 h' q2 q3 q4 sp sq S (vs.set k v)/\Fram h h' S S/\h'.length=h.length:=by
 obtain⟨id,cap,h',e1,w1,o1,x1,f1,l1⟩:=OwnD.wr st.e st.o (i:=k) (by simp;exact hk) (wdP v).1 (wdP v).2
 rw[Gp]at e1
 refine⟨id,cap,h',e1,w1,⟨x1,st.c2.fram f1 (st.o.cel st.c2),st.c3.fram f1 (st.o.cel st.c3),st.c4.fram f1 (st.o.cel st.c4),?_⟩,f1,l1⟩
 rw[List.map_set];exact o1
theorem Sa.rd{h0 h:Qa}{q2 q3 q4:Nat}{sp sq S:SV}{vs:List Int}(st:Sa h0 h q2 q3 q4 sp sq S vs){k:Nat}{v:Int}(hv:vs[k]?=some v) :
  ∃ id cap,S = .slc id 0 vs.length cap/\Q9 h id (0+k*2) 2=some [(wdP v).1,(wdP v).2]:=by
 obtain⟨id,cap,e1,r1⟩:=st.o.rd (i:=k) (p:=wdP v) (by simp[hv])
 rw[Gp]at e1
 exact⟨id,cap,e1,r1⟩
theorem Uh{f:Int->Int}{lo:Int}{n k:Nat}(hk:k<n):(smL f lo n)[k]?=some (f (lo+k)):=by simp[smL,hk]
theorem Qlk{p:List Tm}(hc:Can p){i:Nat}{t:Tm}(ht:p[i]?=some t):cf (p.take i) t.1=0:=by
 refine XV fun u hu e=>?_
 obtain⟨k,hk,rfl⟩:=List.getElem_of_mem hu
 rw[GV]at hk
 obtain⟨hi,rfl⟩:=Gb.1 ht
 have:=(List.pairwise_iff_getElem.1 hc.asc) k i (by omega) hi (by omega)
 simp at e
 omega
def I30a(h0:Qa)(q2 q3 q4:Nat)(sp sq S:SV)(p:List Tm)(N:Nat)(st:Int)(E:Env)(h:Qa):Prop:=∃ i:Nat,i<=p.length/\Sa h0 h q2 q3 q4 sp sq S (smL (fun e=>cf (p.take i) e) (lo0 p) N) ∧
 E.keep [2,3,4,6,7,75,76,77]=[(2,some (.sc (.ptr q2 0))),(3,some (.sc (.ptr q3 0))),(4,some (.sc (.ptr q4 0))),(6,some (.sc (.int .i64 st))),(7,some (.sc S)),(75,some (.sc sp)),(76,some (.sc (.int .i64 (p.length:Nat)))),(77,some (.sc (.int .i64 (i:Nat))))]
def R30a(h0:Qa)(q2 q3 q4:Nat)(sp sq S:SV)(p:List Tm)(N:Nat)(st:Int)(ex:Ex)(E:Env)(h:Qa):Prop :=
 ex = .ex 1/\∃ a b c d,Sa h0 h q2 q3 q4 sp sq S (smL (fun e=>cf p e) (lo0 p) N) ∧
 E=[(2,some (.sc (.ptr q2 0))),(3,some (.sc (.ptr q3 0))),(4,some (.sc (.ptr q4 0))),(6,some (.sc (.int .i64 st))),(7,some (.sc S)),(75,a),(76,b),(77,c),(78,d)]
theorem QfK(h0:Qa)(q2 q3 q4:Nat)(sp sq S:SV)(p:List Tm)(N:Nat)(st:Int)(hp:IsD h0 sp (tms p))(hc:Can p)(fp:∀ t∈p,t.2.natAbs<=cM/\t.1.natAbs<=eM)(pl:p.length<=2097153)(hN:∀ t∈p,t.1-lo0 p<N)(hlo:(lo0 p).natAbs<=eM)(E:Env)(h:Qa)(hI:I30a h0 q2 q3 q4 sp sq S p N st E h) :
  wA FT HKt Qj4 (E.keep [2,3,4,6,7,75,76,77]) h (QC (I30a h0 q2 q3 q4 sp sq S p N st) (cK [2,3,4,6,7,75,76,77] p.length 77) (cK [2,3,4,6,7,75,76,77] p.length 77 E h) (R30a h0 q2 q3 q4 sp sq S p N st)):=by
 obtain⟨i,hi,st,hE⟩:=hI
 have hm:cK [2,3,4,6,7,75,76,77] p.length 77 E h=p.length-i:=by unfold cK;rw[hE];rfl
 rw[hm,hE]
 by_cases hlt:i<p.length
 ·obtain⟨t,ht⟩:∃ t,p[i]?=some t:=⟨_,Gc hlt⟩
  have htm:=Gl ht
  obtain⟨tc,te⟩:=fp t htm
  have tlo:=XF hc t htm
  have thi:=hN t htm
  obtain⟨id,off,cap,e1,r0⟩:=hp.at (i:=i) (p:=tmP t) (by simp[ht])
  rw[QL]at e1
  subst e1
  have r1:=QO st.e r0
  simp only[cM,eM]at tc te hlo
  have k27:=fun H (e:Ext h0 H)=>Y2 H false _ p (hp.ext e)
  have k37:=fun H=>Qlx H t.2 (by omega)
  simp only[Qcm]at k37
  have hk:(t.1-lo0 p).toNat<(smL (fun e=>cf (p.take i) e) (lo0 p) N).length:=by rw[Za];omega
  obtain⟨v,hv⟩:∃ v,(smL (fun e=>cf (p.take i) e) (lo0 p) N)[(t.1-lo0 p).toNat]?=some v:=⟨_,Gc hk⟩
  obtain⟨id2,cap2,e2,-⟩:=st.rd hv
  have tk:p.take (i+1)=p.take i++[t]:=by rw[G1,ht];rfl
  have hset:(smL (fun e=>cf (p.take i) e) (lo0 p) N).set (t.1-lo0 p).toNat t.2=smL (fun e=>cf (p.take (i+1)) e) (lo0 p) N:=by
   have:=V9 (f:=fun e=>cf (p.take i) e) (lo:=lo0 p) (e:=t.1) (w:=t.2) (n:=N) tlo (by omega)
   rw[Qcq (by omega),show lo0 p+((t.1-lo0 p).toNat:Int)=t.1 by omega,Qlk hc ht,Hw]at this
   rw[this]
   exact Y4 fun e=>by rw[tk,QaS,YT];show _=_+(t.2*dl e t.1+0);omega
  subst e2
  repeat' first|apply Qh|apply Qc|apply Qz|apply QV|apply Qm|apply Qf|apply QU|apply Xl|apply Xm|(apply Qg;refine Qi rfl ?_)|(apply Qe;first|apply QR|apply Xu|refine Ye (by assumption) ?_|refine Xh rfl rfl rfl rfl rfl rfl rfl rfl ?_|refine Xd rfl rfl rfl rfl rfl rfl rfl rfl rfl ?_)|(apply Qb;first|refine QJ (esz:=2) rfl rfl (by omega) ?_|refine XN rfl r1 ?_|(refine QT rfl ?_;intro h2 e2 c2;have s2:=st.ext e2)|refine QS rfl ?_|refine QB rfl c2 ?_|refine Qv rfl s2.c2 ?_|(refine Qd rfl (k27 h2 s2.e) ?_;rintro r h3 ⟨e3,rfl⟩;have s3:=s2.ext e3;have c3:=c2.ext e3)|refine Qt rfl c3 ?_|(refine Qd rfl (k37 h3) ?_;rintro r h4 ⟨e4,rfl⟩;have s4:=s3.ext e4;obtain⟨id5,cap5,h5,e5,w5,s5,f5,l5⟩:=s4.put hk t.2;cases e5)|refine QbH rfl rfl w5 ?_|refine Qn rfl ?_|refine Q1 rfl rfl (by omega) ?_|refine Yp rfl rfl (by omega) ?_|refine QH rfl rfl (by omega) ?_)
  rw[hset]at s5
  exact Xg ⟨i+1,by omega,s5,rfl⟩ (by simp[cK,Env.keep,Env.get];omega)
 ·have:i=p.length:=by omega
  subst this
  rw[GH]at st
  repeat' first|apply Qh|apply Qc|apply Xc|apply Q5|apply Qf|(apply Qg;refine Qj rfl ?_)|(apply Qe;refine Xd rfl rfl rfl rfl rfl rfl rfl rfl rfl ?_)|(apply Qb;refine QW rfl rfl (by omega) ?_)
  exact XA ⟨rfl,_,_,_,_,st,rfl⟩
def I30d(h0 hb:Qa)(q4 q10:Nat)(S:SV)(vs:List Int)(E:Env)(h:Qa):Prop:=∃ i:Nat,i<=vs.length/\(∀ k<i,vs.getD k 0=0)/\Ext hb h ∧
 E.keep [4,10,170,171,172]=[(4,some (.sc (.ptr q4 0))),(10,some (.sc (.ptr q10 0))),(170,some (.sc S)),(171,some (.sc (.int .i64 (vs.length:Nat)))),(172,some (.sc (.int .i64 (i:Nat))))]
def R30d(h0 hb:Qa)(q4 q10:Nat)(vs:List Int)(ex:Ex)(E:Env)(h:Qa):Prop :=
 (ex = .ex 7/\∃ a b c d,(∀ k<vs.length,vs.getD k 0=0)/\Ext hb h/\E=[(4,some (.sc (.ptr q4 0))),(10,some (.sc (.ptr q10 0))),(170,a),(171,b),(172,c),(173,d)]) ∨
 (ex = .rt/\¬(∀ k<vs.length,vs.getD k 0=0)/\Ext h0 h/\Cel h q4 (.bool false) .nilS/\E=[(4,some (.sc (.ptr q4 0))),(5,some (.sc (.int .i64 10)))])
theorem QfH(h0 hb:Qa)(q4 q10:Nat)(S:SV)(vs:List Int)(hs:IsD hb S (vs.map wdP))(he:Ext h0 hb)(c4:Cel hb q4 (.bool false) .nilS)(l4:h0.length<=q4)(hv:∀ v∈vs,-170141183460469231731687303715884105728<v/\v<170141183460469231731687303715884105728)(hl:vs.length<=10000000)(E:Env)(h:Qa)(hI:I30d h0 hb q4 q10 S vs E h) :
  wA FT HKt Qj1 (E.keep [4,10,170,171,172]) h (QC (I30d h0 hb q4 q10 S vs) (cK [4,10,170,171,172] vs.length 172) (cK [4,10,170,171,172] vs.length 172 E h) (R30d h0 hb q4 q10 vs)):=by
 obtain⟨i,hi,hz,st,hE⟩:=hI
 have hm:cK [4,10,170,171,172] vs.length 172 E h=vs.length-i:=by unfold cK;rw[hE];rfl
 rw[hm,hE]
 by_cases hlt:i<vs.length
 ·obtain⟨v,hvv⟩:∃ v,vs[i]?=some v:=⟨_,Gc hlt⟩
  have hvm:=Gl hvv
  have hvd:vs.getD i 0=v:=by rw[Gf,hvv];rfl
  obtain⟨id,off,cap,e1,r0⟩:=hs.at (i:=i) (p:=wdP v) (by simp[hvv])
  rw[Gp]at e1
  subst e1
  have r1:=QO st r0
  have k38:=fun H=>Qg8 H v (hv v hvm)
  simp only[Qcm]at k38
  by_cases hz0:v=0
  ·rw[decide_eq_true hz0]at k38
   repeat' first|apply Qh|apply Qc|apply Qz|apply QV|apply Qm|apply Qf|(apply Qg;first|refine Qi rfl ?_|refine Qj rfl ?_)|(apply Qe;first|refine QM rfl rfl rfl rfl rfl ?_|refine Q7 rfl rfl rfl rfl rfl rfl ?_)|(apply Qb;first|refine QJ (esz:=2) rfl rfl (by omega) ?_|refine XN rfl r1 ?_|(refine QT rfl ?_;intro h2 e2 c2)|refine Qv rfl c2 ?_|(refine Qd rfl (k38 _) ?_;rintro r h3 ⟨e3,rfl⟩)|refine Qn rfl ?_|refine XX rfl ?_|refine Q1 rfl rfl (by omega) ?_|refine QH rfl rfl (by omega) ?_)
   exact Xg ⟨i+1,by omega,fun k hk=>by
    by_cases e:k=i
    ·rw[e,hvd];exact hz0
    ·exact hz k (by omega),st.trans (e2.trans e3),rfl⟩ (by simp[cK,Env.keep,Env.get];omega)
  ·rw[decide_eq_false hz0]at k38
   repeat' first|apply Qh|apply Qc|apply QD|apply Qz|apply Xn|apply Qm|apply Qs|apply Qf|(apply Qg;refine Qi rfl ?_)|(apply Qe;first|refine Qx rfl rfl ?_|refine Q7 rfl rfl rfl rfl rfl rfl ?_)|(apply Qb;first|refine QJ (esz:=2) rfl rfl (by omega) ?_|refine XN rfl r1 ?_|(refine QT rfl ?_;intro h2 e2 c2)|refine Qv rfl c2 ?_|(refine Qd rfl (k38 _) ?_;rintro r h3 ⟨e3,rfl⟩;have d4:=c4.ext (st.trans (e2.trans e3)))|(refine Xp rfl rfl ?_)|(refine QZ rfl rfl d4 ?_;intro h6 w6)|refine Qn rfl ?_|refine YW rfl ?_|refine QH rfl rfl (by omega) ?_)
   exact YJ (.inr ⟨rfl,fun h=>hz0 (by rw[← hvd];exact h i hlt),w6.ext (he.trans (st.trans (e2.trans e3))) l4,w6.cel,rfl⟩)
 ·have:i=vs.length:=by omega
  subst this
  repeat' first|apply Qh|apply Qc|apply Xc|apply Q5|apply Qf|(apply Qg;refine Qj rfl ?_)|(apply Qe;refine Q7 rfl rfl rfl rfl rfl rfl ?_)|(apply Qb;refine QW rfl rfl (by omega) ?_)
  exact XA (.inl ⟨rfl,_,_,_,_,hz,st,rfl⟩)
structure St30(h0 h:Qa)(q2 q3 q4 q10:Nat)(sp sq S s:SV)(vs:List Int)(r:List Tm):Prop where
 a:Sa h0 h q2 q3 q4 sp sq S vs
 cX:Cel h q10 (.bool false) s
 os:OwnD h0 h s (tms r)
 ap:Go.Ab.Apart s S
theorem St30.ext{h0 h h':Qa}{q2 q3 q4 q10:Nat}{sp sq S s:SV}{vs:List Int}{r:List Tm}(st:St30 h0 h q2 q3 q4 q10 sp sq S s vs r)(he:Ext h h'):St30 h0 h' q2 q3 q4 q10 sp sq S s vs r :=
 ⟨st.a.ext he,st.cX.ext he,st.os.ext he,st.ap⟩
theorem St30.put{h0 h:Qa}{q2 q3 q4 q10:Nat}{sp sq S s:SV}{vs:List Int}{r:List Tm}(st:St30 h0 h q2 q3 q4 q10 sp sq S s vs r){k:Nat}(hk:k<vs.length)(v:Int) :
  ∃ id cap h',S = .slc id 0 vs.length cap/\Xz h id (0+k*2) [(wdP v).1,(wdP v).2]=some h'/\St30 h0 h' q2 q3 q4 q10 sp sq S s (vs.set k v) r:=by
 obtain⟨id,cap,h',e1,w1,a1,f1,l1⟩:=st.a.put hk v
 exact⟨id,cap,h',e1,w1,a1,st.cX.fram f1 (st.a.o.cel st.cX),st.os.away f1 st.ap.symm,st.ap⟩
theorem St30.push{h0 h h6 h7:Qa}{q2 q3 q4 q10:Nat}{sp sq S s s':SV}{vs:List Int}{r r':List Tm}(st:St30 h0 h q2 q3 q4 q10 sp sq S s vs r)(o6:OwnD h0 h6 s' (tms r'))(e6:Ext h0 h6)(f6:Fram h h6 s s')(w7:Wr h6 h7 q10 (.bool false) s')(l:h0.length<=q10/\q2≠q10/\q3≠q10/\q4≠q10) :
  St30 h0 h7 q2 q3 q4 q10 sp sq S s' vs r' :=
 ⟨⟨w7.ext e6 l.1,w7.keep (st.a.c2.fram f6 (st.os.cel st.a.c2)) l.2.1,w7.keep (st.a.c3.fram f6 (st.os.cel st.a.c3)) l.2.2.1,w7.keep (st.a.c4.fram f6 (st.os.cel st.a.c4)) l.2.2.2,(st.a.o.away f6 st.ap).wrC w7⟩,w7.cel,o6.wrC w7,Fram.apart f6 st.a.o.is st.ap⟩
def I30c(h0:Qa)(q2 q3 q4 q10:Nat)(sp sq S s:SV)(f:Int->Int)(lo:Int)(q r:List Tm)(N i:Nat)(c st:Int)(E:Env)(h:Qa):Prop:=∃ j:Nat,j<=q.length/\St30 h0 h q2 q3 q4 q10 sp sq S s (smL (fun e=>f e-mc [(lo-lo0 q+i,c)] (q.take j) e) lo N) r ∧
 E.keep [2,3,4,6,7,10,11,12,93,94,139,140,141]=[(2,some (.sc (.ptr q2 0))),(3,some (.sc (.ptr q3 0))),(4,some (.sc (.ptr q4 0))),(6,some (.sc (.int .i64 st))),(7,some (.sc S)),(10,some (.sc (.ptr q10 0))),(11,some (.sc (.int .i64 (i:Nat)))),(12,some (.sc (.int .i64 c))),(93,some (.sc (.int .i64 (st+1)))),(94,some (.sc (.int .i64 (i:Nat)))),(139,some (.sc sq)),(140,some (.sc (.int .i64 (q.length:Nat)))),(141,some (.sc (.int .i64 (j:Nat))))]
def R30c(h0:Qa)(q2 q3 q4 q10:Nat)(sp sq S s:SV)(f:Int->Int)(lo:Int)(q r:List Tm)(N i:Nat)(c st:Int)(ex:Ex)(E:Env)(h:Qa):Prop :=
 ex = .ex 5/\∃ a b a' b' c' d',St30 h0 h q2 q3 q4 q10 sp sq S s (smL (fun e=>f e-mc [(lo-lo0 q+i,c)] q e) lo N) r ∧
 E=[(2,some (.sc (.ptr q2 0))),(3,some (.sc (.ptr q3 0))),(4,some (.sc (.ptr q4 0))),(6,some (.sc (.int .i64 st))),(7,some (.sc S)),(10,some (.sc (.ptr q10 0))),(11,a),(12,b),(93,some (.sc (.int .i64 (st+1)))),(94,some (.sc (.int .i64 (i:Nat)))),(139,a'),(140,b'),(141,c'),(142,d')]
theorem QfI(h0:Qa)(q2 q3 q4 q10:Nat)(sp sq S s:SV)(f:Int->Int)(lo:Int)(q r:List Tm)(N i:Nat)(c st:Int)(hq:IsD h0 sq (tms q))(hqc:Can q)(fq:∀ t∈q,t.2.natAbs<=cM/\t.1.natAbs<=eM)(ql:q.length<=2097153)(hN:∀ u∈q,(i:Int)+u.1-lo0 q<N)(hi:i<=10000000)(hc:c.natAbs<=cM)(hlq:(lo0 q).natAbs<=eM)(E:Env)(h:Qa)(hI:I30c h0 q2 q3 q4 q10 sp sq S s f lo q r N i c st E h) :
  wA FT HKt Qj2 (E.keep [2,3,4,6,7,10,11,12,93,94,139,140,141]) h (QC (I30c h0 q2 q3 q4 q10 sp sq S s f lo q r N i c st) (cK [2,3,4,6,7,10,11,12,93,94,139,140,141] q.length 141) (cK [2,3,4,6,7,10,11,12,93,94,139,140,141] q.length 141 E h) (R30c h0 q2 q3 q4 q10 sp sq S s f lo q r N i c st)):=by
 obtain⟨j,hj,st,hE⟩:=hI
 have hm:cK [2,3,4,6,7,10,11,12,93,94,139,140,141] q.length 141 E h=q.length-j:=by unfold cK;rw[hE];rfl
 rw[hm,hE]
 by_cases hlt:j<q.length
 ·obtain⟨u,hu⟩:∃ u,q[j]?=some u:=⟨_,Gc hlt⟩
  have hum:=Gl hu
  obtain⟨uc,ue⟩:=fq u hum
  have ulo:=XF hqc u hum
  have uhi:=hN u hum
  obtain⟨id,off,cap,e1,r0⟩:=hq.at (i:=j) (p:=tmP u) (by simp[hu])
  rw[QL]at e1
  subst e1
  have r1:=QO st.a.e r0
  simp only[cM,eM]at uc ue hlq hc
  have k27:=fun H (e:Ext h0 H)=>Y2 H false _ q (hq.ext e)
  have k41:=fun H=>Qg7 H (-c) u.2 (by omega) (by omega)
  obtain⟨k,hk⟩:∃ k:Nat,(k:Int)=(i:Int)+u.1-lo0 q:=⟨((i:Int)+u.1-lo0 q).toNat,by omega⟩
  have hkN:k<N:=by omega
  have tk:q.take (j+1)=q.take j++[u]:=by rw[G1,hu];rfl
  have hget:=Uh (f:=fun e=>f e-mc [(lo-lo0 q+i,c)] (q.take j) e) (lo:=lo) hkN
  have hset:=V9 (f:=fun e=>f e-mc [(lo-lo0 q+i,c)] (q.take j) e) (lo:=lo) (e:=lo+k) (w := -c*u.2) (n:=N) (by omega) (by omega)
  rw[show (lo+(k:Int)-lo).toNat=k by omega,Qcq hkN]at hset
  generalize f (lo+(k:Int))-mc [(lo-lo0 q+i,c)] (q.take j) (lo+k)=v at hget hset
  rw[show smL (fun x=>(f x-mc [(lo-lo0 q+i,c)] (q.take j) x) + -c*u.2*dl x (lo+k)) lo N=smL (fun e=>f e-mc [(lo-lo0 q+i,c)] (q.take (j+1)) e) lo N from Y4 fun e=>by
   rw[tk,QdN,show lo+(k:Int)=lo-lo0 q+i+u.1 by omega];simp only[Int.neg_mul];omega]at hset
  have k40:=fun H=>Qhb H v (-c*u.2)
  simp only[Qcm]at k40 k41
  obtain⟨id2,cap2,e2,rS⟩:=st.a.rd hget
  subst e2
  repeat' first|apply Qh|apply Qc|apply Qz|apply QV|apply Qm|apply Qf|apply QU|apply Xl|apply Xm|(apply Qg;refine Qi rfl ?_)|(apply Qe;first|apply QR|apply Xu|refine Ye (by assumption) ?_|refine Qdj rfl rfl rfl rfl rfl rfl rfl rfl rfl rfl rfl rfl rfl ?_|refine Uf rfl rfl rfl rfl rfl rfl rfl rfl rfl rfl rfl rfl rfl rfl ?_|refine yf rfl rfl rfl rfl rfl rfl rfl rfl rfl rfl rfl rfl rfl rfl rfl ?_)|(apply Qb;first|refine QJ (esz:=2) rfl rfl (by omega) ?_|refine QJ (esz:=2) rfl rfl (by rw[Za];omega) ?_|refine XN rfl r1 ?_|(refine QT rfl ?_;intro h2 e2 c2;have s2:=st.ext e2;have rS2:=QO e2 rS)|refine QS rfl ?_|refine QB rfl c2 ?_|refine Qv rfl s2.a.c3 ?_|(refine Qd rfl (k27 h2 s2.a.e) ?_;rintro r h3 ⟨e3,rfl⟩;have s3:=s2.ext e3;have c3:=c2.ext e3;have rS3:=QO e3 rS2)|(have z:=e3;refine Yp rfl rfl (by omega) ?_;rw[← hk])|refine XN rfl rS3 ?_|refine Qt rfl c3 ?_|(refine Qd rfl (k41 h3) ?_;rintro r h4 ⟨e4,rfl⟩;have s4:=s3.ext e4)|(refine Qd rfl (k40 h4) ?_;rintro r h5 ⟨e5,rfl⟩;have s5:=s4.ext e5;obtain⟨id5,cap5,h6,e6,w6,s6⟩:=s5.put (k:=k) (by rw[Za];exact hkN) (v + -c*u.2);cases e6)|refine QbH rfl rfl w6 ?_|refine Qn rfl ?_|refine Q1 rfl rfl (by omega) ?_|refine Zy rfl (by omega) ?_|refine QH rfl rfl (by omega) ?_)
  rw[hset]at s6
  exact Xg ⟨j+1,by omega,s6,rfl⟩ (by simp[cK,Env.keep,Env.get];omega)
 ·have:j=q.length:=by omega
  subst this
  rw[GH]at st
  repeat' first|apply Qh|apply Qc|apply Xc|apply Q5|apply Qf|(apply Qg;refine Qj rfl ?_)|(apply Qe;refine Uf rfl rfl rfl rfl rfl rfl rfl rfl rfl rfl rfl rfl rfl rfl ?_)|(apply Qb;refine QW rfl rfl (by omega) ?_)
  exact XA ⟨rfl,_,_,_,_,_,_,st,rfl⟩
theorem U7{p q:List Tm}{M X i:Nat}(h:dvL p q M X i=none):∀ {j:Nat},i<=j->dvL p q M X j=none
 | 0, hj => by obtain rfl : i = 0 := by omega
               exact h
 | j+1,hj=>by
  by_cases e:i=j+1
  ·rw[← e];exact h
  ·rw[dvL,U7 h (j:=j) (by omega)];rfl
theorem QgT{p q:List Tm}{M X i:Nat}{r:List Tm}(hq:Can q)(h0:q≠[])(h:dvL p q M X i=some r):r.length<=i :=
 ZF (Qb5 hq h0 h).can fun t ht=>(Qb5 hq h0 h).rng t ht
theorem Qbh{P Q:Pol}(kp:Pok P)(kq:Pok Q)(h0:Q.ts≠[]){i:Nat}{r:List Tm}(h:dvL P.ts Q.ts cM eM i=some r)(hi:i<=2097153)(e:Int) : -170141183460469231731687303715884105728<cf P.ts e-mc r Q.ts e/\cf P.ts e-mc r Q.ts e<170141183460469231731687303715884105728:=by
 have h1:=QcF (p:=r) kq.can kq.cf e (fun t ht=>((Qb5 kq.can h0 h).bd t ht).1)
 have h2:=Vd kp.can kp.cf e
 have h3:=QgT kq.can h0 h
 have h4:=Gz (cM*cM) (Gh h3 hi)
 simp only[cM]at *
 omega
def I30b(h0:Qa)(q2 q3 q4 q10:Nat)(sp sq S:SV)(p q:List Tm)(N Ln:Nat)(E:Env)(h:Qa):Prop:=∃(i:Nat) (r:List Tm) (s:SV),i<=Ln+1/\dvL p q cM eM i=some r/\St30 h0 h q2 q3 q4 q10 sp sq S s (smL (fun e=>cf p e-mc r q e) (lo0 p) N) r ∧
 E.keep [2,3,4,6,7,10,93,94]=[(2,some (.sc (.ptr q2 0))),(3,some (.sc (.ptr q3 0))),(4,some (.sc (.ptr q4 0))),(6,some (.sc (.int .i64 (Ln:Nat)))),(7,some (.sc S)),(10,some (.sc (.ptr q10 0))),(93,some (.sc (.int .i64 ((Ln:Nat)+1)))),(94,some (.sc (.int .i64 (i:Nat))))]
def R30b(h0:Qa)(q2 q3 q4 q10:Nat)(sp sq S:SV)(p q:List Tm)(N Ln:Nat)(ex:Ex)(E:Env)(h:Qa):Prop :=
 (ex = .ex 3/\∃ r s a b c,dvL p q cM eM (Ln+1)=some r/\St30 h0 h q2 q3 q4 q10 sp sq S s (smL (fun e=>cf p e-mc r q e) (lo0 p) N) r ∧
  E=[(2,some (.sc (.ptr q2 0))),(3,some (.sc (.ptr q3 0))),(4,some (.sc (.ptr q4 0))),(6,some (.sc (.int .i64 (Ln:Nat)))),(7,some (.sc S)),(10,some (.sc (.ptr q10 0))),(93,a),(94,b),(95,c)]) ∨
 (ex = .rt/\dvL p q cM eM (Ln+1)=none/\Ext h0 h/\Cel h q4 (.bool false) .nilS/\E=[(4,some (.sc (.ptr q4 0))),(5,some (.sc (.int .i64 10)))])
theorem QfJ(h0:Qa)(q2 q3 q4 q10:Nat)(sp sq S:SV)(P Q:Pol)(N Ln:Nat)(hp:IsD h0 sp (tms P.ts))(hq:IsD h0 sq (tms Q.ts))(kp:Pok P)(kq:Pok Q)(b:Tm)(q':List Tm)(hqe:Q.ts=b::q')(hN:(N:Int)=hi0 P.ts-lo0 P.ts+1)(hL:(Ln:Int)=dvN P.ts Q.ts)(l4:h0.length<=q4)(l10:h0.length<=q10/\q2≠q10/\q3≠q10/\q4≠q10)(E:Env)(h:Qa)(hI:I30b h0 q2 q3 q4 q10 sp sq S P.ts Q.ts N Ln E h) :
  wA FT HKt Qj3 (E.keep [2,3,4,6,7,10,93,94]) h (QC (I30b h0 q2 q3 q4 q10 sp sq S P.ts Q.ts N Ln) (cK [2,3,4,6,7,10,93,94] (Ln+1) 94) (cK [2,3,4,6,7,10,93,94] (Ln+1) 94 E h) (R30b h0 q2 q3 q4 q10 sp sq S P.ts Q.ts N Ln)):=by
 obtain⟨i,r,s,hi,hdv,st,hE⟩:=hI
 have hm:cK [2,3,4,6,7,10,93,94] (Ln+1) 94 E h=Ln+1-i:=by unfold cK;rw[hE];rfl
 rw[hm,hE]
 have kpl:=kp.lo
 have kql:=kq.lo
 have ql:=kq.len
 have q0:Q.ts≠[]:=by rw[hqe];simp
 have hbm:b∈Q.ts:=by rw[hqe];exact .head _
 have blo:lo0 Q.ts=b.1:=by rw[hqe];rfl
 have bhi:=XM kq.can b hbm
 have bnz:=kq.can.nz b hbm
 have bcf:cf Q.ts (lo0 Q.ts)=b.2:=by rw[blo];exact YQ kq.can hbm
 have bc:=kq.cf b hbm
 have be:=kq.ex b hbm
 have lq:=hq.len
 rw[QL]at lq
 have hdn:dvN P.ts Q.ts=hi0 P.ts-lo0 P.ts-(hi0 Q.ts-lo0 Q.ts):=rfl
 rw[hdn]at hL
 have hLn:Ln+1<=2097153:=by omega
 have rl:=QgT kq.can q0 hdv
 by_cases hlt:i<Ln+1
 ·have hiN:i<N:=by omega
  have hsm:=Qbh kp kq q0 hdv (by omega) (lo0 P.ts+i)
  have hget:=Uh (f:=fun e=>cf P.ts e-mc r Q.ts e) (lo:=lo0 P.ts) hiN
  have hrk:rk P.ts Q.ts r i=cf P.ts (lo0 P.ts+i)-mc r Q.ts (lo0 P.ts+i):=rfl
  have hstep:dvL P.ts Q.ts cM eM (i+1)=(if rk P.ts Q.ts r i=0 then some r else if rk P.ts Q.ts r i%cf Q.ts (lo0 Q.ts)=0/\(rk P.ts Q.ts r i/cf Q.ts (lo0 Q.ts)).natAbs<=cM/\(lo0 P.ts-lo0 Q.ts+i).natAbs<=eM then some (r++[(lo0 P.ts-lo0 Q.ts+i,rk P.ts Q.ts r i/cf Q.ts (lo0 Q.ts))]) else none):=by rw[dvL,hdv];rfl
  rw[hrk,bcf]at hstep
  obtain⟨id2,cap2,eS,rS⟩:=st.a.rd hget
  rw[Za]at eS
  subst eS
  generalize hv:cf P.ts (lo0 P.ts+i)-mc r Q.ts (lo0 P.ts+i)=v at *
  have k38:=fun H=>Qg8 H v hsm
  simp only[cM,eM]at bc be
  have k39:=fun H=>Qlw H v b.2 hsm (by omega) bnz
  simp only[Qcm]at k38 k39
  by_cases hz:v=0
  ·rw[decide_eq_true hz]at k38
   rw[if_pos hz]at hstep
   repeat' first|apply Qh|apply Qc|apply Xc|apply Qz|apply Q8|apply Qm|apply Q5|apply Qf|(apply Qg;refine Qi rfl ?_)|(apply Qe;first|refine Xh rfl rfl rfl rfl rfl rfl rfl rfl ?_|refine Xd rfl rfl rfl rfl rfl rfl rfl rfl rfl ?_|refine XO rfl rfl rfl rfl rfl rfl rfl rfl rfl rfl ?_)|(apply Qb;first|refine QJ (esz:=2) rfl rfl (by omega) ?_|refine XN rfl rS ?_|(refine Qd rfl (k38 h) ?_;rintro r' h2 ⟨e2,rfl⟩;have s2:=st.ext e2)|refine Qn rfl ?_|refine Q1 rfl rfl (by omega) ?_|refine QH rfl rfl (by omega) ?_)
   exact Xg ⟨i+1,r,s,by omega,hstep,s2,rfl⟩ (by simp[cK,Env.keep,Env.get];omega)
  ·rw[decide_eq_false hz]at k38
   rw[if_neg hz]at hstep
   have k27p:=fun H (e:Ext h0 H)=>Y2 H false _ P.ts (hp.ext e)
   have k27q:=fun H (e:Ext h0 H)=>Y2 H false _ Q.ts (hq.ext e)
   have k35:=fun H=>Zl H (lo0 P.ts-lo0 Q.ts+i) 1048576 (by omega)
   obtain⟨idq,offq,capq,eq,rq⟩:=hq.at (i:=0) (p:=tmP b) (by rw[hqe];rfl)
   rw[QL]at eq
   subst eq
   have rb:=fun H (e:Ext h0 H)=>QO e (rd1 rq).2
   have hql1:0<Q.ts.length:=List.length_pos_iff.2 q0
   by_cases hok:JY v b.2
   ·rw[if_pos hok,decide_eq_true hok]at k39
    by_cases hx:(lo0 P.ts-lo0 Q.ts+i).natAbs<=1048576
    ·rw[show decide ((lo0 P.ts-lo0 Q.ts+i).natAbs<=(1048576:Int).toNat)=true from decide_eq_true hx]at k35
     rw[if_pos ⟨Int.emod_eq_zero_of_dvd hok.1,hok.2,hx⟩]at hstep
     have hcb:=hok.2
     generalize hc:v/b.2=c at *
     repeat' first|apply Qh|apply Qc|apply Qz|apply Qm|apply Qf|apply QU|apply Xl|apply Xm|(apply Qg;first|refine Qi rfl ?_|refine Qj rfl ?_)|(apply Qe;first|apply QR|apply Xu|refine Ye (by assumption) ?_|refine Xd rfl rfl rfl rfl rfl rfl rfl rfl rfl ?_|refine XO rfl rfl rfl rfl rfl rfl rfl rfl rfl rfl ?_|refine qu rfl rfl rfl rfl rfl rfl rfl rfl rfl rfl rfl ?_|refine yg rfl rfl rfl rfl rfl rfl rfl rfl rfl rfl rfl rfl ?_|refine Qdj rfl rfl rfl rfl rfl rfl rfl rfl rfl rfl rfl rfl rfl ?_)|(apply Qb;first|refine QJ (esz:=2) rfl rfl (by omega) ?_|refine XN rfl rS ?_|(refine Qd rfl (k38 h) ?_;rintro r' h2 ⟨e2,rfl⟩;have s2:=st.ext e2;have rS2:=QO e2 rS)|refine XN rfl rS2 ?_|refine QS rfl ?_|refine Qt rfl s2.a.c3 ?_|refine Xx rfl (rb h2 s2.a.e) ?_|(refine Qd rfl (k39 h2) ?_;rintro r' h3 ⟨e3,rfl⟩;have s3:=s2.ext e3)|refine Qv rfl s3.a.c2 ?_|(refine Qd rfl (k27p h3 s3.a.e) ?_;rintro r' h4 ⟨e4,rfl⟩;have s4:=s3.ext e4)|refine Qv rfl s4.a.c3 ?_|(refine Qd rfl (k27q h4 s4.a.e) ?_;rintro r' h5 ⟨e5,rfl⟩;have s5:=s4.ext e5)|(refine Qd rfl (k35 h5) ?_;rintro r' _ ⟨rfl,rfl⟩)|refine Qt rfl s5.cX ?_|(refine Xp rfl rfl ?_)|(refine ZZ s5.a.e s5.os rfl rfl (by rw[QL];simp only[Yh];omega) ?_;intro s' h6 o6 e6 f6 l6;have cX6:=s5.cX.fram f6 (s5.os.cel s5.cX);have o6':OwnD h0 h6 s' (tms (r++[(lo0 P.ts-lo0 Q.ts+i,c)])):=(by simpa [tms,tmP]using o6))|(refine ZO rfl rfl cX6 ?_;intro h7 w7;have s7:=s5.push o6' e6 f6 w7 l10)|refine Qt rfl s7.a.c3 ?_|refine QG rfl lq ?_|refine QE rfl ?_|refine Qn rfl ?_|refine Qy rfl rfl ?_|refine XX rfl ?_|refine Q1 rfl rfl (by omega) ?_|refine Yp rfl rfl (by omega) ?_|refine QH rfl rfl (by omega) ?_|refine Xt rfl rfl ?_)
     have hst:smL (fun e=>cf P.ts e-mc r Q.ts e) (lo0 P.ts) N=smL (fun e=>(fun e=>cf P.ts e-mc r Q.ts e) e-mc [(lo0 P.ts-lo0 Q.ts+i,c)] (Q.ts.take 0) e) (lo0 P.ts) N:=Y4 fun e=>by simp only[List.take_zero,yx];omega
     rw[hst]at s7
     refine YK (I30c h0 q2 q3 q4 q10 sp _ _ s' (fun e=>cf P.ts e-mc r Q.ts e) (lo0 P.ts) Q.ts (r++[(lo0 P.ts-lo0 Q.ts+i,c)]) N i c Ln) (cK [2,3,4,6,7,10,11,12,93,94,139,140,141] Q.ts.length 141) (R30c h0 q2 q3 q4 q10 sp _ _ s' (fun e=>cf P.ts e-mc r Q.ts e) (lo0 P.ts) Q.ts (r++[(lo0 P.ts-lo0 Q.ts+i,c)]) N i c Ln) ⟨0,Gs _,s7,rfl⟩ (QfI h0 q2 q3 q4 q10 sp _ _ s' (fun e=>cf P.ts e-mc r Q.ts e) (lo0 P.ts) Q.ts (r++[(lo0 P.ts-lo0 Q.ts+i,c)]) N i c Ln hq kq.can (fun t ht=>⟨kq.cf t ht,kq.ex t ht⟩) ql (fun u hu=>by have:=XM kq.can u hu;omega) (by omega) hcb (by simp only[eM];omega)) ?_
     rintro ex E' h8 ⟨rfl,_,_,_,_,_,_,st8,rfl⟩
     repeat' first|apply Qc|apply QV|apply Q8|apply Qf|(apply Qe;refine Xh rfl rfl rfl rfl rfl rfl rfl rfl ?_)|(apply Qb;first|refine Qn rfl ?_|refine Q1 rfl rfl (by omega) ?_)
     have hst8:smL (fun e=>(fun e=>cf P.ts e-mc r Q.ts e) e-mc [(lo0 P.ts-lo0 Q.ts+i,c)] Q.ts e) (lo0 P.ts) N=smL (fun e=>cf P.ts e-mc (r++[(lo0 P.ts-lo0 Q.ts+i,c)]) Q.ts e) (lo0 P.ts) N:=Y4 fun e=>by simp only[QcE];omega
     rw[hst8]at st8
     exact Xg ⟨i+1,_,s',by omega,hstep,st8,rfl⟩ (by simp[cK,Env.keep,Env.get];omega)
    ·rw[show decide ((lo0 P.ts-lo0 Q.ts+i).natAbs<=(1048576:Int).toNat)=false from decide_eq_false hx]at k35
     rw[if_neg (fun h=>hx h.2.2)]at hstep
     generalize hc:v/b.2=c at *
     repeat' first|apply Qh|apply Qc|apply QD|apply Qz|apply Xn|apply Qm|apply Qs|apply Qf|apply QU|apply Xl|apply Xm|(apply Qg;first|refine Qi rfl ?_|refine Qj rfl ?_)|(apply Qe;first|apply QR|apply Xu|refine Ye (by assumption) ?_|refine Qx rfl rfl ?_|refine Xd rfl rfl rfl rfl rfl rfl rfl rfl rfl ?_|refine XO rfl rfl rfl rfl rfl rfl rfl rfl rfl rfl ?_|refine qu rfl rfl rfl rfl rfl rfl rfl rfl rfl rfl rfl ?_|refine yg rfl rfl rfl rfl rfl rfl rfl rfl rfl rfl rfl rfl ?_)|(apply Qb;first|refine QJ (esz:=2) rfl rfl (by omega) ?_|refine XN rfl rS ?_|(refine Qd rfl (k38 h) ?_;rintro r' h2 ⟨e2,rfl⟩;have s2:=st.ext e2;have rS2:=QO e2 rS)|refine XN rfl rS2 ?_|refine QS rfl ?_|refine Qt rfl s2.a.c3 ?_|refine Xx rfl (rb h2 s2.a.e) ?_|(refine Qd rfl (k39 h2) ?_;rintro r' h3 ⟨e3,rfl⟩;have s3:=s2.ext e3)|refine Qv rfl s3.a.c2 ?_|(refine Qd rfl (k27p h3 s3.a.e) ?_;rintro r' h4 ⟨e4,rfl⟩;have s4:=s3.ext e4)|refine Qv rfl s4.a.c3 ?_|(refine Qd rfl (k27q h4 s4.a.e) ?_;rintro r' h5 ⟨e5,rfl⟩;have s5:=s4.ext e5)|(refine Qd rfl (k35 h5) ?_;rintro r' _ ⟨rfl,rfl⟩;have d4:=s5.a.c4)|(refine Xp rfl rfl ?_)|(refine QZ rfl rfl d4 ?_;intro h6 w6)|refine QE rfl ?_|refine Qn rfl ?_|refine Qy rfl rfl ?_|refine XX rfl ?_|refine YW rfl ?_|refine Q1 rfl rfl (by omega) ?_|refine Yp rfl rfl (by omega) ?_|refine QH rfl rfl (by omega) ?_|refine Xt rfl rfl ?_)
     exact YJ (.inr ⟨rfl,U7 hstep (by omega),w6.ext s5.a.e l4,w6.cel,rfl⟩)
   ·rw[if_neg hok,decide_eq_false hok]at k39
    rw[if_neg (fun h=>hok ⟨Int.dvd_of_emod_eq_zero h.1,h.2.1⟩)]at hstep
    repeat' first|apply Qh|apply Qc|apply QD|apply Qz|apply Xn|apply Qm|apply Qs|apply Qf|apply QU|apply Xl|apply Xm|(apply Qg;first|refine Qi rfl ?_|refine Qj rfl ?_)|(apply Qe;first|apply QR|apply Xu|refine Ye (by assumption) ?_|refine Qx rfl rfl ?_|refine Xd rfl rfl rfl rfl rfl rfl rfl rfl rfl ?_|refine XO rfl rfl rfl rfl rfl rfl rfl rfl rfl rfl ?_|refine qu rfl rfl rfl rfl rfl rfl rfl rfl rfl rfl rfl ?_|refine yg rfl rfl rfl rfl rfl rfl rfl rfl rfl rfl rfl rfl ?_)|(apply Qb;first|refine QJ (esz:=2) rfl rfl (by omega) ?_|refine XN rfl rS ?_|(refine Qd rfl (k38 h) ?_;rintro r' h2 ⟨e2,rfl⟩;have s2:=st.ext e2;have rS2:=QO e2 rS)|refine XN rfl rS2 ?_|refine QS rfl ?_|refine Qt rfl s2.a.c3 ?_|refine Xx rfl (rb h2 s2.a.e) ?_|(refine Qd rfl (k39 h2) ?_;rintro r' h3 ⟨e3,rfl⟩;have s3:=s2.ext e3)|refine Qv rfl s3.a.c2 ?_|(refine Qd rfl (k27p h3 s3.a.e) ?_;rintro r' h4 ⟨e4,rfl⟩;have s4:=s3.ext e4)|refine Qv rfl s4.a.c3 ?_|(refine Qd rfl (k27q h4 s4.a.e) ?_;rintro r' h5 ⟨e5,rfl⟩;have s5:=s4.ext e5)|(refine Xp rfl rfl ?_)|(have d4:=s5.a.c4;refine QZ rfl rfl d4 ?_;intro h6 w6)|refine Xa rfl ?_|refine Qn rfl ?_|refine QK rfl rfl ?_|refine YW rfl ?_|refine Q1 rfl rfl (by omega) ?_|refine Yp rfl rfl (by omega) ?_|refine QH rfl rfl (by omega) ?_|refine Xt rfl rfl ?_)
    exact YJ (.inr ⟨rfl,U7 hstep (by omega),w6.ext s5.a.e l4,w6.cel,rfl⟩)
 ·have:i=Ln+1:=by omega
  subst this
  repeat' first|apply Qh|apply Qc|apply Xc|apply Q5|apply Qf|(apply Qg;refine Qj rfl ?_)|(apply Qe;refine Xd rfl rfl rfl rfl rfl rfl rfl rfl rfl ?_)|(apply Qb;refine QW rfl rfl (by omega) ?_)
  exact XA (.inl ⟨rfl,r,s,_,_,_,hdv,st,rfl⟩)
