/- The products of -/
import Derived.Test.YtofknpknogfijaaGreatDoorPE
import Derived.Lib.ItoaLen
import Derived.Lib.ItoaMem
import Derived.Test.YtofknpknogfijaaGreatDoorAb49
namespace Go.Proofs.YtofknpknogfijaaGreatDoor
open Go.Ab
set_option linter.all false
set_option maxHeartbeats 16000000
set_option maxRecDepth 20000
attribute [local irreducible] Qm wA Xp Xo QI Qp QZ QY
variable [HB]
def wdP(v:Int):P2:=(.int .u64 (v/18446744073709551616%18446744073709551616),.int .u64 (v%18446744073709551616))
theorem Qe1(v:Int):wd v=[(wdP v).1,(wdP v).2]:=rfl
def Cel1(h:Qa)(q:Nat)(a:SV):Prop:=h[q]?=some (.cells [a] true 0)
theorem Cel1.at{h:Qa}{q:Nat}{a:SV}(c:Cel1 h q a):Blk.At h q [a]:=⟨true,0,c⟩
theorem Cel1.ext{h h':Qa}{q:Nat}{a:SV}(c:Cel1 h q a)(he:Ext h h'):Cel1 h' q a:=he.get _ _ c
theorem Cel1.fram{h h':Qa}{q:Nat}{a s s':SV}(c:Cel1 h q a)(hf:Fram h h' s s')(hn:XW s q):Cel1 h' q a:=(hf _ _ c hn).1
theorem Qoy(h0 h:Qa)(he:Ext h0 h)(q7 q5:Nat)(S:SV)(lo ex w:Int)(vs:List Int)(ho:OwnD h0 h S (vs.map wdP))(b7:Cel1 h q7 S)(b5:Cel1 h q5 (.int .i64 lo))(hk:0<=ex-lo/\ex-lo<vs.length)(hlen:vs.length<=10000000) :
  ∃ r h',Cal FT HKt 57 [.sc (.int .i64 ex),.agg (wd w),.sc (.ptr q7 0),.sc (.ptr q5 0)] h r h'/\Ext h0 h'/\OwnD h0 h' S ((vs.set (ex-lo).toNat (vs.getD (ex-lo).toNat 0+w)).map wdP)/\Fram h h' S S:=by
 refine Cal.of (F:=a57) rfl rfl rfl ?_
 have hkl:(ex-lo).toNat<vs.length:=by omega
 obtain⟨v,hv⟩:∃ v,vs[(ex-lo).toNat]?=some v:=⟨_,Ga hkl⟩
 have hv2:vs.getD (ex-lo).toNat 0=v:=by rw[Ge,hv];rfl
 rw[hv2]
 obtain⟨id,cap,hS,hr⟩:=ho.rd (i:=(ex-lo).toNat) (p:=wdP v) (by simp[hv])
 have k40:=fun H=>Qih H v w
 have hwr:=fun H (e:Ext h0 H) (o:OwnD h0 H S (vs.map wdP))=>OwnD.wr e o (i:=(ex-lo).toNat) (by simp;exact hkl) (wdP (v+w)).1 (wdP (v+w)).2
 rw[Gj]at hS hwr
 have fin:∀(H h2:Qa),OwnD h0 h2 S ((vs.map wdP).set (ex-lo).toNat ((wdP (v+w)).1,(wdP (v+w)).2))->OwnD h0 h2 S ((vs.set (ex-lo).toNat (v+w)).map wdP):=fun _ _ o=>by rw[List.map_set];exact o
 subst hS
 simp only[Qe1]at k40 ⊢
 repeat' first|apply Qf|apply Qb|apply Qe|apply Q7|apply Xm|apply Xn|(apply Qd;first|apply Q5|apply Xw|refine XP (by assumption) ?_|refine QG rfl rfl rfl rfl ?_)|(apply Qc;first|(refine QD rfl ?_;intro h1 e1 c1;have d7:=b7.ext e1;have d5:=b5.ext e1;have r1:=Qw e1 hr)|refine XG rfl d7.at rfl ?_|refine XG rfl d5.at rfl ?_|(refine Jj rfl rfl (by omega) ?_)|refine Qy (esz:=2) rfl rfl (by omega) ?_|refine XH rfl r1 ?_|refine QU rfl c1 ?_|(refine Qj rfl (k40 _) ?_;rintro r h2 ⟨e2,rfl⟩;obtain⟨id2,cap2,h3,e3,w3,o3,x3,f3,l3⟩:=hwr h2 (he.trans (e1.trans e2)) (ho.ext (e1.trans e2));cases e3)|refine QlO rfl rfl w3 ?_|refine Ql rfl ?_)
 refine y4 ?_
 exact⟨.inl rfl,x3,fin h2 h3 o3,fun j b hj hn=>f3 j b ((e1.trans e2).get _ _ hj) hn⟩
def smL(f:Int->Int)(lo:Int)(n:Nat):List Int:=(List.range n).map fun k:Nat=>f (lo+(k:Int))
theorem yk(f:Int->Int)(lo:Int)(n:Nat):(smL f lo n).length=n:=by simp[smL]
theorem Qng{f:Int->Int}{lo:Int}{n k:Nat}(hk:k<n):(smL f lo n).getD k 0=f (lo+k):=by simp[smL,List.getD,hk]
theorem y6{f g:Int->Int}{lo:Int}{n:Nat}(h:∀ e,f e=g e):smL f lo n=smL g lo n:=by
 unfold smL
 exact G6 fun k _=>h _
theorem QjS{f:Int->Int}{lo e w:Int}{n:Nat}(h0:lo<=e)(h1:e<lo+n):(smL f lo n).set (e-lo).toNat ((smL f lo n).getD (e-lo).toNat 0+w)=smL (fun x=>f x+w*dl x e) lo n:=by
 rw[Qng (k:=(e-lo).toNat) (by omega)]
 refine List.ext_getElem (by simp[smL]) fun k h2 h3=>?_
 rw[List.getElem_set]
 simp only[smL,List.getElem_map,List.getElem_range]
 rw[yk]at h3
 by_cases hk:(e-lo).toNat=k
 ·rw[if_pos hk,show lo+((e-lo).toNat:Int)=e by omega,show lo+(k:Int)=e by omega,YO];omega
 ·rw[if_neg hk,ZQ (by omega)];omega
structure Sx(h0 hb h:Qa)(S:SV)(q7 q5:Nat)(lo:Int)(vs:List Int):Prop where
 e:Ext h0 h
 o:OwnD h0 h S (vs.map wdP)
 b7:Cel1 h q7 S
 b5:Cel1 h q5 (.int .i64 lo)
 k:∀(j:Nat) (b:Blk),hb[j]?=some b->XW S j->h[j]?=some b
theorem Sx.ext{h0 hb h h':Qa}{S:SV}{q7 q5:Nat}{lo:Int}{vs:List Int}(x:Sx h0 hb h S q7 q5 lo vs)(he:Ext h h'):Sx h0 hb h' S q7 q5 lo vs:=⟨x.e.trans he,x.o.ext he,x.b7.ext he,x.b5.ext he,fun j b hj hn=>he.get _ _ (x.k j b hj hn)⟩
def I56i(h0 hb:Qa)(S:SV)(q7 q5 q4 qt:Nat)(lo:Int)(n:Nat)(bb:Bool)(sp sq:SV)(p q:List Tm)(i:Nat)(t:Tm)(E:Env)(h:Qa):Prop:=∃ j:Nat,j<=q.length/\Sx h0 hb h S q7 q5 lo (smL (fun e=>mc (p.take i) q e+mc [t] (q.take j) e) lo n)/\Cel h q4 (.bool bb) sq/\Cel h qt (.int .i64 t.1) (.int .i64 t.2) ∧
 E.keep [2,4,7,11,12,13,18,19,20]=[(2,some (.sc (.fn 57 [(q7,0),(q5,0)]))),(4,some (.sc (.ptr q4 0))),(7,some (.sc (.ptr qt 0))),(11,some (.sc sp)),(12,some (.sc (.int .i64 (p.length:Nat)))),(13,some (.sc (.int .i64 (i:Nat)))),(18,some (.sc sq)),(19,some (.sc (.int .i64 (q.length:Nat)))),(20,some (.sc (.int .i64 (j:Nat))))]
def R56i(h0 hb:Qa)(S:SV)(q7 q5 q4:Nat)(lo:Int)(n:Nat)(bb:Bool)(sp sq:SV)(p q:List Tm)(i:Nat)(t:Tm)(ex:Ex)(E:Env)(h:Qa):Prop:=ex = .ex 2/\Sx h0 hb h S q7 q5 lo (smL (fun e=>mc (p.take i) q e+mc [t] q e) lo n)/\Cel h q4 (.bool bb) sq/\∃ a b c d e,
 E=[(2,some (.sc (.fn 57 [(q7,0),(q5,0)]))),(4,some (.sc (.ptr q4 0))),(7,a),(11,some (.sc sp)),(12,some (.sc (.int .i64 (p.length:Nat)))),(13,some (.sc (.int .i64 (i:Nat)))),(18,b),(19,c),(20,d),(21,e)]
structure Tfit(ts:List Tm):Prop where
 len:ts.length<=2097153
 cf:∀ t∈ts,t.2.natAbs<=cM
 ex:∀ t∈ts,t.1.natAbs<=4194304
theorem Pok.fit{p:Pol}(k:Pok p):Tfit p.ts:=⟨k.len,k.cf,fun t ht=>by have:=k.ex t ht;simp only[eM]at this;omega⟩
theorem Qek(q:List Tm)(t u:Tm)(e:Int):mc [t] (q++[u]) e=mc [t] q e+t.2*u.2*dl e (t.1+u.1):=by
 rw[Qhg,Qhg,Qdi,Int.mul_add,G5]
 congr 1
 show t.2*(u.2*dl (e-t.1) u.1+0)=_
 congr 1
 by_cases h:u.1=e-t.1
 ·rw[h,YO,show t.1+(e-t.1)=e by omega,YO];omega
 ·rw[ZQ h,ZQ (by omega)];omega
theorem Qgu(h0 hb:Qa)(S:SV)(q7 q5 q4 qt:Nat)(lo:Int)(n:Nat)(hn:n<=10000000)(bb:Bool)(sp sq:SV)(p q:List Tm)(i:Nat)(t:Tm)(hq:IsD h0 sq (tms q))(fq:Tfit q)(ht:t.2.natAbs<=cM/\t.1.natAbs<=4194304)(hrng:∀ u∈q,lo<=t.1+u.1/\t.1+u.1<lo+n)(hlo : -100000000<=lo/\lo<=100000000)(E:Env)(h:Qa)(hI:I56i h0 hb S q7 q5 q4 qt lo n bb sp sq p q i t E h) :
  wA FT HKt Qiu (E.keep [2,4,7,11,12,13,18,19,20]) h (QI (I56i h0 hb S q7 q5 q4 qt lo n bb sp sq p q i t) (cK [2,4,7,11,12,13,18,19,20] q.length 20) (cK [2,4,7,11,12,13,18,19,20] q.length 20 E h) (R56i h0 hb S q7 q5 q4 lo n bb sp sq p q i t)):=by
 obtain⟨j,hj,x,c4,ct,hE⟩:=hI
 have hm:cK [2,4,7,11,12,13,18,19,20] q.length 20 E h=q.length-j:=by unfold cK;rw[hE];rfl
 rw[hm,hE]
 have hql:=fq.len
 by_cases hlt:j<q.length
 ·obtain⟨u,hu⟩:∃ u,q[j]?=some u:=⟨_,Ga hlt⟩
  have hum:=Gg hu
  have hur:=hrng u hum
  have hue:=fq.ex u hum
  have huc:=fq.cf u hum
  obtain⟨id,off,cap,e1,r0⟩:=hq.at (i:=j) (p:=tmP u) (by simp[hu])
  rw[Q6]at e1
  subst e1
  have r1:=Qw x.e r0
  simp only[cM]at ht huc
  have k41:=fun H=>Qif H t.2 u.2 (by omega) (by omega)
  have tk:q.take (j+1)=q.take j++[u]:=by rw[GB,hu];rfl
  have k44:=fun H (x:Sx h0 hb H S q7 q5 lo (smL (fun e=>mc (p.take i) q e+mc [t] (q.take j) e) lo n))=>Qoy h0 H x.e q7 q5 S lo (t.1+u.1) (t.2*u.2) _ x.o x.b7 x.b5 (by rw[yk];omega) (by rw[yk];exact hn)
  rw[QjS hur.1 hur.2]at k44
  repeat' first|apply Qf|apply Qb|apply Qt|apply QL|apply Qn|apply Qe|apply Q7|apply Xm|apply Xn|(apply Qg;refine Qk rfl ?_)|(apply Qd;first|apply Q5|apply Xw|refine XP (by assumption) ?_|refine Q9 rfl rfl rfl rfl rfl rfl rfl rfl rfl ?_|refine XA rfl rfl rfl rfl rfl rfl rfl rfl rfl rfl ?_)|(apply Qc;first|refine Qy (esz:=2) rfl rfl (by omega) ?_|refine XH rfl r1 ?_|(refine X2 rfl ?_;intro h2 e2 c2;have dt:=ct.ext e2;have x2:=x.ext e2)|refine QN rfl dt ?_|refine QN rfl c2 ?_|refine QH rfl dt ?_|refine QH rfl c2 ?_|(refine Qj rfl (k41 _) ?_;rintro r h3 ⟨e3,rfl⟩;have x3:=x2.ext e3)|(refine XV rfl rfl (k44 h3 x3) ?_;rintro r h4 ⟨e4,o4,f4⟩)|refine Ql rfl ?_|refine QM rfl rfl (by omega) ?_|refine Qx rfl rfl (by omega) ?_|refine Xk rfl rfl ?_)
  have n4:XW S q4->Cel h4 q4 (.bool bb) (.slc id off q.length cap):=fun hn=>(c4.ext (e2.trans e3)).fram f4 hn
  refine Xr ⟨j+1,by omega,⟨e4,?_,x3.b7.fram f4 (x3.o.cel x3.b7),x3.b5.fram f4 (x3.o.cel x3.b5),fun j b hj hn=>(f4 j b (x3.k j b hj hn) hn).1⟩,n4 (x.o.cel c4),(dt.ext e3).fram f4 (x.o.cel ct),rfl⟩ (by simp[cK,Env.keep,Env.get];omega)
  rw[tk]
  have:smL (fun e=>mc (p.take i) q e+mc [t] (q.take j++[u]) e) lo n=smL (fun x=>mc (p.take i) q x+mc [t] (q.take j) x+t.2*u.2*dl x (t.1+u.1)) lo n:=y6 fun e=>by rw[Qek];omega
  rw[this];exact o4
 ·have:j=q.length:=by omega
  subst this
  rw[Gx]at x
  repeat' first|apply Qf|apply Qb|apply QS|apply QQ|apply Qe|(apply Qg;refine Qi rfl ?_)|(apply Qd;refine XA rfl rfl rfl rfl rfl rfl rfl rfl rfl rfl ?_)|(apply Qc;refine QF rfl rfl (by omega) ?_)
  exact XI ⟨rfl,x,c4,_,_,_,_,_,rfl⟩
def I56(h0 hb:Qa)(S:SV)(q7 q5 q4:Nat)(lo:Int)(n:Nat)(bb:Bool)(sp sq:SV)(p q:List Tm)(E:Env)(h:Qa):Prop:=∃ i:Nat,i<=p.length/\Sx h0 hb h S q7 q5 lo (smL (fun e=>mc (p.take i) q e) lo n)/\Cel h q4 (.bool bb) sq ∧
 E.keep [2,4,11,12,13]=[(2,some (.sc (.fn 57 [(q7,0),(q5,0)]))),(4,some (.sc (.ptr q4 0))),(11,some (.sc sp)),(12,some (.sc (.int .i64 (p.length:Nat)))),(13,some (.sc (.int .i64 (i:Nat))))]
def R56(h0 hb:Qa)(S:SV)(q7 q5:Nat)(lo:Int)(n:Nat)(p q:List Tm)(ex:Ex)(E:Env)(h:Qa):Prop:=ex = .ex 0/\Sx h0 hb h S q7 q5 lo (smL (fun e=>mc p q e) lo n)
theorem Qj9(h0 hb:Qa)(S:SV)(q7 q5 q4:Nat)(lo:Int)(n:Nat)(hn:n<=10000000)(bb:Bool)(sp sq:SV)(p q:List Tm)(hp:IsD h0 sp (tms p))(hq:IsD h0 sq (tms q))(fp:Tfit p)(fq:Tfit q)(hrng:∀ t∈p,∀ u∈q,lo<=t.1+u.1/\t.1+u.1<lo+n)(hlo : -100000000<=lo/\lo<=100000000)(E:Env)(h:Qa)(hI:I56 h0 hb S q7 q5 q4 lo n bb sp sq p q E h) :
  wA FT HKt Qiv (E.keep [2,4,11,12,13]) h (QI (I56 h0 hb S q7 q5 q4 lo n bb sp sq p q) (cK [2,4,11,12,13] p.length 13) (cK [2,4,11,12,13] p.length 13 E h) (R56 h0 hb S q7 q5 lo n p q)):=by
 obtain⟨i,hi,x,c4,hE⟩:=hI
 have hm:cK [2,4,11,12,13] p.length 13 E h=p.length-i:=by unfold cK;rw[hE];rfl
 rw[hm,hE]
 have hpl:=fp.len
 have lq:=hq.len
 rw[Q6]at lq
 by_cases hlt:i<p.length
 ·obtain⟨t,ht⟩:∃ t,p[i]?=some t:=⟨_,Ga hlt⟩
  have htm:=Gg ht
  obtain⟨id,off,cap,e1,r0⟩:=hp.at (i:=i) (p:=tmP t) (by simp[ht])
  rw[Q6]at e1
  subst e1
  have r1:=Qw x.e r0
  repeat' first|apply Qf|apply Qb|apply Qt|apply Qn|apply Qe|(apply Qg;refine Qk rfl ?_)|(apply Qd;first|refine QE rfl rfl rfl rfl rfl rfl ?_|refine Q9 rfl rfl rfl rfl rfl rfl rfl rfl rfl ?_)|(apply Qc;first|refine Qy (esz:=2) rfl rfl (by omega) ?_|refine XH rfl r1 ?_|(refine X2 rfl ?_;intro h2 e2 c2;have d4:=c4.ext e2;have x2:=x.ext e2)|refine QH rfl d4 ?_|refine Qr rfl lq ?_|refine Ql rfl ?_|refine Qx rfl rfl (by omega) ?_|refine Xk rfl rfl ?_)
  have x2':Sx h0 hb h2 S q7 q5 lo (smL (fun e=>mc (p.take i) q e+mc [t] (q.take 0) e) lo n):=by
   have:smL (fun e=>mc (p.take i) q e+mc [t] (q.take 0) e) lo n=smL (fun e=>mc (p.take i) q e) lo n:=y6 fun e=>by rw[List.take_zero,Qel];omega
   rw[this];exact x2
  refine YQ (I56i h0 hb S q7 q5 q4 h.length lo n bb (.slc id off p.length cap) sq p q i t) (cK [2,4,7,11,12,13,18,19,20] q.length 20) (R56i h0 hb S q7 q5 q4 lo n bb (.slc id off p.length cap) sq p q i t) ⟨0,Gm _,x2',d4,c2,rfl⟩ (Qgu h0 hb S q7 q5 q4 h.length lo n hn bb (.slc id off p.length cap) sq p q i t hq fq ⟨fp.cf t htm,fp.ex t htm⟩ (hrng t htm) hlo) ?_
  rintro ex E' h3 ⟨rfl,x3,c3,a,b,c,d,e,rfl⟩
  repeat' first|apply Qb|apply QL|apply QK|apply Qe|(apply Qd;refine QO rfl rfl rfl rfl rfl ?_)|(apply Qc;first|refine Ql rfl ?_|refine QM rfl rfl (by omega) ?_)
  refine Xr ⟨i+1,by omega,?_,c3,rfl⟩ (by simp[cK,Env.keep,Env.get];omega)
  have tk:p.take (i+1)=p.take i++[t]:=by rw[GB,ht];rfl
  have:smL (fun e=>mc (p.take (i+1)) q e) lo n=smL (fun e=>mc (p.take i) q e+mc [t] q e) lo n:=y6 fun e=>by rw[tk,Qhi]
  rw[this];exact x3
 ·have:i=p.length:=by omega
  subst this
  rw[Gx]at x
  repeat' first|apply Qf|apply Qb|apply QS|apply QQ|apply Qe|(apply Qg;refine Qi rfl ?_)|(apply Qd;refine QE rfl rfl rfl rfl rfl rfl ?_)|(apply Qc;refine QF rfl rfl (by omega) ?_)
  exact XI ⟨rfl,x⟩
theorem Qoz(h0 h:Qa)(S:SV)(q7 q5:Nat)(lo:Int)(n:Nat)(hn:n<=10000000)(ba bb:Bool)(sp sq:SV)(p q:List Tm)(hp:IsD h0 sp (tms p))(hq:IsD h0 sq (tms q))(fp:Tfit p)(fq:Tfit q)(hrng:∀ t∈p,∀ u∈q,lo<=t.1+u.1/\t.1+u.1<lo+n)(hlo : -100000000<=lo/\lo<=100000000)(x:Sx h0 h h S q7 q5 lo (List.replicate n 0)) :
  ∃ r h',Cal FT HKt 56 [.agg [.bool ba,sp],.agg [.bool bb,sq],.sc (.fn 57 [(q7,0),(q5,0)])] h r h'/\Sx h0 h h' S q7 q5 lo (smL (fun e=>mc p q e) lo n):=by
 refine Cal.of (F:=a56) rfl rfl rfl ?_
 have lp:=hp.len
 rw[Q6]at lp
 have e0:List.replicate n 0=smL (fun e=>mc (p.take 0) q e) lo n:=by
  refine List.ext_getElem (by simp[smL]) fun k h1 h2=>?_
  simp[smL,Qhh]
 rw[e0]at x
 repeat' first|apply Qf|apply Qb|apply Qt|apply Qe|(apply Qd;first|refine Qu rfl rfl rfl ?_|refine QO rfl rfl rfl rfl rfl ?_)|(apply Qc;first|(have z:=e1;refine QD rfl ?_;intro h2 e2 c2;have x2:=x1.ext e2;have d1:=c1.ext e2)|(refine QD rfl ?_;intro h1 e1 c1;have x1:=x.ext e1)|refine QH rfl d1 ?_|refine Qr rfl lp ?_|refine Ql rfl ?_|refine Xk rfl rfl ?_)
 refine YQ (I56 h0 h S q7 q5 h1.length lo n bb sp sq p q) (cK [2,4,11,12,13] p.length 13) (R56 h0 h S q7 q5 lo n p q) ⟨0,Gm _,x2,c2,rfl⟩ (Qj9 h0 h S q7 q5 h1.length lo n hn bb sp sq p q hp hq fp fq hrng hlo) ?_
 rintro ex E' h3 ⟨rfl,x3⟩
 repeat' (refine QK ?_)
 exact⟨.inl rfl,x3⟩
theorem Qlb(h0:Qa)(hi lo y:Nat)(hhi:hi<18446744073709551616)(hlo:lo<18446744073709551616)(hy:0<y/\y<18446744073709551616) :
  ∃ r h',Cal FT HKt 124 [.sc (.int .u64 (hi:Nat)),.sc (.int .u64 (lo:Nat)),.sc (.int .u64 (y:Nat))] h0 r h'/\h'=h0/\r = .sc (.int .u64 (((hi*18446744073709551616+lo)%y:Nat):Int)):=by
 refine Cal.of (F:=a124) rfl rfl rfl ?_
 have k71:=fun H=>Qlf H (hi%y) lo y (GY _ hy.1) hlo hy.2
 have e:(hi%y*18446744073709551616+lo)%y=(hi*18446744073709551616+lo)%y:=by
  rw[Nat.add_mod,Nat.mul_mod,Nat.mod_mod,← Nat.mul_mod,← Nat.add_mod]
 rw[e]at k71
 have e2:(hi:Int)%(y:Int)=((hi%y:Nat):Int):=rfl
 repeat' first|apply Qf|apply Qb|apply Qs|apply Qe|(apply Qd;first|refine Qq rfl ?_|refine Qu rfl rfl rfl ?_)|(apply Qc;first|(refine Qhu rfl rfl (by omega) ?_;rw[e2])|(refine Qj rfl (k71 _) ?_;rintro r _ ⟨rfl,rfl⟩)|refine Ql rfl ?_|refine Xk rfl rfl ?_)
 exact⟨.inr rfl,rfl,rfl⟩
section
variable {FT:zzA} {HK:zzH} {E:Env} {h:Qa} {K:Env->Qa->Prop} {d:Option Nat} {r:List AOp} {x:AO}
theorem Qc8{v:SV}(hx:ev E x=some (.sc v))(hw:∀ h1,Ext h h1->Cel1 h1 h.length v->Qm FT HK r (Qv d (some (.sc (.ptr h.length 0))) E) h1 K) :
  Qm FT HK (⟨d,.box x,none⟩::r) E h K :=
 Q2 (v:=some (.sc (.ptr h.length 0))) (h':=h++[.cells [v] true 0]) rfl rfl (by simp[Qo,hx,AV.cells]) (hw _ ⟨_,rfl⟩ (by simp[Cel1]))
theorem Vj{q:Nat}{a v:SV}{p:AO}(ha:evS E p=some (.ptr q 0))(hx:ev E x=some (.sc v))(hc:Cel1 h q a)(hw:∀ h1:Qa,h1=h.set q (.cells [v] true 0)->Cel1 h1 q v->Qm FT HK r (Qv d none E) h1 K) :
 Qm FT HK (⟨d,.st 1 p x,none⟩::r) E h K:=qH ha hx hc hw
end
theorem Cel1.lt{h:Qa}{q:Nat}{a:SV}(c:Cel1 h q a):q<h.length:=(Gb.1 c).1
theorem Cel1.set{h:Qa}{q p:Nat}{a:SV}(c:Cel1 h q a)(hn:p≠q)(b:Blk):Cel1 (h.set p b) q a:=by
 unfold Cel1 at *
 rw[Gk hn];exact c
theorem YJ{ts:List Tm}{i:Nat}{t:Tm}(h:ts[i]?=some t):ts.drop i=t::ts.drop (i+1):=by
 obtain⟨hi,rfl⟩:=Gb.1 h
 exact G2 hi
def qG(p q:List Tm):Int:=lo0 p+lo0 q
def ZG(p q:List Tm):Nat:=(hi0 p+hi0 q-(lo0 p+lo0 q)+1).toNat
def Yg(p q:Pol):Pol:=open Classical in
 if p.big=true∨q.big=true then Zi
 else if p.ts=[]∨q.ts=[] then Qbv
 else if qG p.ts q.ts < -1048576∨1048576<hi0 p.ts+hi0 q.ts then Zi
 else if ∀ t∈VO p.ts q.ts (qG p.ts q.ts) (ZG p.ts q.ts),t.2.natAbs<=cM then ⟨false,VO p.ts q.ts (qG p.ts q.ts) (ZG p.ts q.ts)⟩ else Zi
theorem QaT{p q:List Tm}(hp:Can p)(hq:Can q):∀ t∈p,∀ u∈q,qG p q<=t.1+u.1/\t.1+u.1<qG p q+ZG p q:=fun t ht u hu=>by
 have a:=Vh hp t ht
 have b:=Vh hq u hu
 have c:=zq hp t ht
 have d:=zq hq u hu
 unfold qG ZG
 omega
theorem yH{p:List Tm}(h0:p≠[]):∃ t∈p,t.1=lo0 p:=by
 cases p with
 | nil=>exact absurd rfl h0
 | cons t r=>exact⟨t,.head _,rfl⟩
theorem Pok.lo{p:Pol}(k:Pok p) : -1048576<=lo0 p.ts/\lo0 p.ts<=1048576 ∧ -1048576<=hi0 p.ts/\hi0 p.ts<=1048576/\lo0 p.ts<=hi0 p.ts:=by
 by_cases h:p.ts=[]
 ·rw[h];simp[lo0,hi0]
 ·obtain⟨t,t1,t2⟩:=yH h
  obtain⟨u,u1,u2⟩:=yM h
  have a:=k.ex t t1
  have b:=k.ex u u1
  have c:=Vh k.can u u1
  simp only[eM]at a b
  omega
theorem Qca{p q:Pol}(kp:Pok p)(kq:Pok q)(e:Int) : -170141183460469231731687303715884105728<mc p.ts q.ts e/\mc p.ts q.ts e<170141183460469231731687303715884105728:=by
 have h1:=Qhj (p:=p.ts) kq.can kq.cf e kp.cf
 have h2:=GF (cM*cM) kp.len
 simp only[cM]at *
 omega
structure St22(h0 h:Qa)(q4 q5 q8:Nat)(lo:Int)(a:Bool)(S s:SV)(vs:List Int)(r:List Tm):Prop where
 e:Ext h0 h
 c4:Cel h q4 (.bool a) .nilS
 c5:Cel1 h q5 (.int .i64 lo)
 c8:Cel h q8 (.bool false) s
 o:OwnD h0 h s (tms r)
 sm:IsD h S (vs.map wdP)
 ap:Go.Ab.Apart s S
theorem St22.ext{h0 h h':Qa}{q4 q5 q8:Nat}{lo:Int}{a:Bool}{S s:SV}{vs:List Int}{r:List Tm}(st:St22 h0 h q4 q5 q8 lo a S s vs r)(he:Ext h h'):St22 h0 h' q4 q5 q8 lo a S s vs r :=
 ⟨st.e.trans he,st.c4.ext he,st.c5.ext he,st.c8.ext he,st.o.ext he,st.sm.ext he,st.ap⟩
theorem St22.wr{h0 h h1:Qa}{q4 q5 q8 q:Nat}{lo:Int}{a:Bool}{S s:SV}{vs:List Int}{r:List Tm}{x y:SV}(st:St22 h0 h q4 q5 q8 lo a S s vs r)(w:Wr h h1 q x y)(hq:h0.length<=q/\q4≠q/\q5≠q/\q8≠q):St22 h0 h1 q4 q5 q8 lo a S s vs r:=by
 refine⟨w.ext st.e hq.1,w.keep st.c4 hq.2.1,?_,w.keep st.c8 hq.2.2.2,st.o.wrC w,st.sm.wrC w,st.ap⟩
 have:=st.c5
 unfold Cel1 at this ⊢
 rw[w.eq,Gk (Ne.symm hq.2.2.1)];exact this
def I22(h0:Qa)(q4 q5 q8:Nat)(lo:Int)(S:SV)(f:Int->Int)(n:Nat)(E:Env)(h:Qa):Prop:=∃(i:Nat) (s:SV),i<=n/\(∀ k:Nat,k<i->(f (lo+k)).natAbs<=cM)/\St22 h0 h q4 q5 q8 lo false S s (smL f lo n) (Zc f lo i) ∧
 E.keep [4,5,8,73,74,75]=[(4,some (.sc (.ptr q4 0))),(5,some (.sc (.ptr q5 0))),(8,some (.sc (.ptr q8 0))),(73,some (.sc S)),(74,some (.sc (.int .i64 (n:Nat)))),(75,some (.sc (.int .i64 (i:Nat))))]
def R22(h0:Qa)(q4 q5 q8:Nat)(lo:Int)(S:SV)(f:Int->Int)(n:Nat)(ex:Ex)(E:Env)(h:Qa):Prop :=
 (ex = .ex 0/\∃ s a b c d,(∀ k:Nat,k<n->(f (lo+k)).natAbs<=cM)/\St22 h0 h q4 q5 q8 lo false S s (smL f lo n) (Zc f lo n)/\E=[(4,some (.sc (.ptr q4 0))),(5,a),(8,some (.sc (.ptr q8 0))),(73,b),(74,c),(75,d),(76,some (.sc (.bool false)))]) ∨
 (ex = .rt/\¬(∀ k:Nat,k<n->(f (lo+k)).natAbs<=cM)/\Ext h0 h/\Cel h q4 (.bool true) .nilS/\E=[(4,some (.sc (.ptr q4 0)))])
theorem QfM(g:Int->Int)(lo:Int)(n:Nat):(Zc g lo n).length<=n:=Z5 (qr g lo n) fun t ht=>⟨(fromC_mem.1 ht).1,(fromC_mem.1 ht).2.1⟩
theorem Qkf(h0:Qa)(q4 q5 q8:Nat)(lo:Int)(S:SV)(f:Int->Int)(n:Nat)(hn:n<=5000000)(hlo : -2097152<=lo/\lo<=2097152)(hf:∀ e,-170141183460469231731687303715884105728<f e/\f e<170141183460469231731687303715884105728)(l4:h0.length<=q4)(l8:h0.length<=q8)(n48:q4≠q8)(E:Env)(h:Qa)(hI:I22 h0 q4 q5 q8 lo S f n E h) :
  wA FT HKt Qmu (E.keep [4,5,8,73,74,75]) h (QI (I22 h0 q4 q5 q8 lo S f n) (cK [4,5,8,73,74,75] n 75) (cK [4,5,8,73,74,75] n 75 E h) (R22 h0 q4 q5 q8 lo S f n)):=by
 obtain⟨i,s,hi,hsm,st,hE⟩:=hI
 have hm:cK [4,5,8,73,74,75] n 75 E h=n-i:=by unfold cK;rw[hE];rfl
 rw[hm,hE]
 by_cases hlt:i<n
 ·have hv:(smL f lo n)[i]?=some (f (lo+i)):=by simp[smL,hlt]
  obtain⟨id,off,cap,e1,r0⟩:=st.sm.at (i:=i) (p:=wdP (f (lo+i))) (by simp[hv])
  rw[Gj,yk]at e1
  subst e1
  have k45:=fun H=>Qig H (f (lo+i)) (hf _)
  have fl:=QfM f lo i
  have fs:=qV f lo i
  by_cases hb:(f (lo+i)).natAbs<=cM
  ·have hsm2:∀ k:Nat,k<i+1->(f (lo+k)).natAbs<=cM:=fun k hk=>by
    by_cases e:k=i
    ·subst e;exact hb
    ·exact hsm k (by omega)
   have e45:smV (f (lo+i))=f (lo+i):=by unfold smV;rw[if_pos hb]
   rw[e45,decide_eq_true hb]at k45
   generalize hv2:f (lo+i)=v at *
   simp only[Qe1]at k45
   have n4:=st.c4.lt
   have n5:=(Gb.1 st.c5).1
   have n8:=st.c8.lt
   have n0:=st.e.len
   by_cases hz:v=0
   ·have fs2:Zc f lo (i+1)=Zc f lo i:=by rw[fs];unfold put;rw[if_pos hz,Hk]
    subst hz
    repeat' first|apply Qf|apply Qb|apply Qt|apply QL|apply Qn|apply Qe|(apply Qg;first|refine Qk rfl ?_|refine Qi rfl ?_)|(apply Qd;first|refine QE rfl rfl rfl rfl rfl rfl ?_|refine Q4 rfl rfl rfl rfl rfl rfl rfl ?_|refine Xh rfl rfl rfl rfl rfl rfl rfl rfl ?_|refine Q9 rfl rfl rfl rfl rfl rfl rfl rfl rfl ?_)|(apply Qc;first|refine Qy (esz:=2) rfl rfl (by omega) ?_|refine XH rfl r0 ?_|(apply Xa;intro h2 e2 c2;have s2:=st.ext e2;have n2:=e2.len)|(refine Xg rfl rfl c2 ?_;intro h3 w3;have c3:=w3.cel;have s3:=s2.wr w3 (by omega))|refine QU rfl c3 ?_|(refine Qj rfl (k45 _) ?_;rintro r h4 ⟨e4,rfl⟩;have s4:=s3.ext e4)|refine Ql rfl ?_|refine XC rfl ?_|refine QM rfl rfl (by omega) ?_|refine Qx rfl rfl (by omega) ?_|refine XJ rfl rfl (by omega) ?_|refine Xk rfl rfl ?_)
    exact Xr ⟨i+1,s,by omega,hsm2,by rw[fs2];exact s4,rfl⟩ (by simp[cK,Env.keep,Env.get];omega)
   ·have fs2:Zc f lo (i+1)=Zc f lo i++[(lo+i,v)]:=by rw[fs];unfold put;rw[if_neg hz]
    repeat' first|apply Qf|apply Qb|apply Qt|apply QL|apply Qn|apply Qe|(apply Qg;first|refine Qk rfl ?_|refine Qi rfl ?_)|(apply Qd;first|refine QE rfl rfl rfl rfl rfl rfl ?_|refine Q4 rfl rfl rfl rfl rfl rfl rfl ?_|refine Xh rfl rfl rfl rfl rfl rfl rfl rfl ?_|refine Q9 rfl rfl rfl rfl rfl rfl rfl rfl rfl ?_)|(apply Qc;first|refine Qy (esz:=2) rfl rfl (by omega) ?_|refine XH rfl r0 ?_|(apply Xa;intro h2 e2 c2;have s2:=st.ext e2;have n2:=e2.len)|(refine Xg rfl rfl c2 ?_;intro h3 w3;have c3:=w3.cel;have s3:=s2.wr w3 (by omega))|refine QU rfl c3 ?_|(refine Qj rfl (k45 _) ?_;rintro r h4 ⟨e4,rfl⟩;have s4:=s3.ext e4)|refine QW rfl ?_|refine QH rfl s4.c8 ?_|refine XG rfl s4.c5.at rfl ?_|(refine Xz rfl rfl ?_)|(refine yL s4.e s4.o rfl rfl (by rw[Q6];simp only[XS];omega) ?_;intro s' h5 o5 e5 f5 l5;have d8:=s4.c8.fram f5 (s4.o.cel s4.c8))|(refine JD rfl rfl d8 ?_;intro h6 w6)|refine Ql rfl ?_|refine XC rfl ?_|refine QM rfl rfl (by omega) ?_|refine Qx rfl rfl (by omega) ?_|refine Ya rfl rfl (by omega) ?_|refine Xk rfl rfl ?_)
    have d4:=s4.c4.fram f5 (s4.o.cel s4.c4)
    have d5:=s4.c5.fram f5 (s4.o.cel s4.c5)
    have dS:IsD h5 (.slc id off n cap) ((smL f lo n).map wdP):=IsSl.away s4.sm f5 s4.ap
    have dA:=Fram.apart f5 s4.sm s4.ap
    have c5':Cel1 h6 q5 (.int .i64 lo):=by
     unfold Cel1 at d5 ⊢
     rw[w6.eq,Gk (fun e=>by
      subst e
      have:=s4.c5
      have c8':=s4.c8
      unfold Cel1 at this
      unfold Cel at c8'
      rw[c8']at this
      simp at this)]
     exact d5
    refine Xr ⟨i+1,s',by omega,hsm2,⟨w6.ext e5 l8,w6.keep d4 n48,c5',w6.cel,?_,dS.wrC w6,dA⟩,rfl⟩ (by simp[cK,Env.keep,Env.get];omega)
    rw[fs2]
    have:=o5.wrC w6
    simpa [tms,tmP]using this
  ·have e45:smV (f (lo+i))=0:=by unfold smV;rw[if_neg hb]
   rw[e45,decide_eq_false hb]at k45
   generalize hv2:f (lo+i)=v at *
   simp only[Qe1]at k45
   have n4:=st.c4.lt
   have n5:=(Gb.1 st.c5).1
   have n8:=st.c8.lt
   have n0:=st.e.len
   repeat' first|apply Qf|apply Qb|apply QC|apply Qt|apply Xi|apply Qn|apply Qs|apply Qe|(apply Qg;refine Qk rfl ?_)|(apply Qd;first|refine Qq rfl ?_|refine Q4 rfl rfl rfl rfl rfl rfl rfl ?_|refine Xh rfl rfl rfl rfl rfl rfl rfl rfl ?_|refine Q9 rfl rfl rfl rfl rfl rfl rfl rfl rfl ?_)|(apply Qc;first|refine Qy (esz:=2) rfl rfl (by omega) ?_|refine XH rfl r0 ?_|(apply Xa;intro h2 e2 c2;have s2:=st.ext e2;have n2:=e2.len)|(refine Xg rfl rfl c2 ?_;intro h3 w3;have c3:=w3.cel;have s3:=s2.wr w3 (by omega))|refine QU rfl c3 ?_|(refine Qj rfl (k45 _) ?_;rintro r h4 ⟨e4,rfl⟩;have s4:=s3.ext e4)|(refine Xz rfl rfl ?_)|(have c4:=s4.c4;refine Xg rfl rfl c4 ?_;intro h6 w6)|refine Ql rfl ?_|refine X1 rfl ?_|refine Qx rfl rfl (by omega) ?_|refine Xk rfl rfl ?_)
   exact Zo (.inr ⟨rfl,fun h=>hb (by have:=h i hlt;rwa [hv2]at this),w6.ext s4.e l4,w6.cel,rfl⟩)
 ·have:i=n:=by omega
  subst this
  repeat' first|apply Qf|apply Qb|apply QS|apply QQ|apply Qe|(apply Qg;refine Qi rfl ?_)|(apply Qd;refine Q4 rfl rfl rfl rfl rfl rfl rfl ?_)|(apply Qc;refine QF rfl rfl (by omega) ?_)
  exact XI (.inl ⟨rfl,s,_,_,_,_,hsm,st,rfl⟩)
def Qpd(h0 h:Qa)(v:AV)(p:Pol):Prop:=∃ s,v = .agg [.bool p.big,s]/\OwnD h0 h s (tms p.ts)
theorem Qk5(h0:Qa)(sp sq:SV)(p q:Pol)(hp:IsD h0 sp (tms p.ts))(hq:IsD h0 sq (tms q.ts))(kp:Pok p)(kq:Pok q)(hd:p.ts≠[]->q.ts≠[]->hi0 p.ts+hi0 q.ts-(lo0 p.ts+lo0 q.ts)<=64+4*(p.ts.length:Int)*q.ts.length) :
  ∃ r h',Cal FT HKt 22 [.agg [.bool p.big,sp],.agg [.bool q.big,sq]] h0 r h'/\Ext h0 h'/\Qpd h0 h' r (Yg p q):=by
 refine Cal.of (F:=a22) rfl rfl rfl ?_
 have lp:=hp.len
 have lq:=hq.len
 rw[Q6]at lp lq
 by_cases hbp:p.big=true
 ·have e:Yg p q=Zi:=by unfold Yg;rw[if_pos (.inl hbp)]
  rw[e,hbp]
  repeat' first|apply Qf|apply Qb|apply QC|apply Qs|apply Qe|(apply Qg;refine Qk rfl ?_)|(apply Qd;first|refine Qq rfl ?_|refine Qu rfl rfl rfl ?_|refine QG rfl rfl rfl rfl ?_)|(apply Qc;first|(have z:=e2;apply Xa;intro h3 e3 c3;have d1:=(c1.ext e2).ext e3;have d2:=c2.ext e3)|(have z:=e1;refine QD rfl ?_;intro h2 e2 c2)|(refine QD rfl ?_;intro h1 e1 c1)|refine QN rfl d1 ?_|(refine Xz rfl rfl ?_)|(refine Xg rfl rfl c3 ?_;intro h4 w4)|refine Xd rfl ?_|refine Ql rfl ?_|refine QR rfl rfl ?_|refine Xk rfl rfl ?_)
  exact⟨.inr rfl,Xc rfl w4.cel.read ⟨w4.ext (e1.trans (e2.trans e3)) (Gq e1.len e2.len),.nilS,rfl,.inl ⟨rfl,rfl⟩⟩⟩
 have hbp':p.big=false:=by simpa using hbp
 rw[hbp']
 by_cases hbq:q.big=true
 ·have e:Yg p q=Zi:=by unfold Yg;rw[if_pos (.inr hbq)]
  rw[e,hbq]
  repeat' first|apply Qf|apply Qb|apply QC|apply Qs|apply Qe|(apply Qg;refine Qk rfl ?_)|(apply Qd;first|refine Qq rfl ?_|refine Qu rfl rfl rfl ?_|refine QG rfl rfl rfl rfl ?_)|(apply Qc;first|(have z:=e2;apply Xa;intro h3 e3 c3;have d1:=(c1.ext e2).ext e3;have d2:=c2.ext e3)|(have z:=e1;refine QD rfl ?_;intro h2 e2 c2)|(refine QD rfl ?_;intro h1 e1 c1)|refine QN rfl d1 ?_|refine QN rfl d2 ?_|(refine Xz rfl rfl ?_)|(refine Xg rfl rfl c3 ?_;intro h4 w4)|refine QP rfl ?_|refine Ql rfl ?_|refine QJ rfl rfl ?_|refine Xk rfl rfl ?_)
  exact⟨.inr rfl,Xc rfl w4.cel.read ⟨w4.ext (e1.trans (e2.trans e3)) (Gq e1.len e2.len),.nilS,rfl,.inl ⟨rfl,rfl⟩⟩⟩
 have hbq':q.big=false:=by simpa using hbq
 rw[hbq']
 have nb:¬(p.big=true∨q.big=true):=fun h=>h.elim hbp hbq
 by_cases hpe:p.ts=[]
 ·have e:Yg p q=Qbv:=by unfold Yg;rw[if_neg nb,if_pos (.inl hpe)]
  have lp0:Yh false sp=some 0:=by rw[lp,hpe];rfl
  rw[e]
  repeat' first|apply Qf|apply Qb|apply QC|apply Qn|apply Qs|apply Qe|(apply Qg;first|refine Qk rfl ?_|refine Qi rfl ?_)|(apply Qd;first|refine Qq rfl ?_|refine Qu rfl rfl rfl ?_|refine QG rfl rfl rfl rfl ?_)|(apply Qc;first|(have z:=e2;apply Xa;intro h3 e3 c3;have d1:=(c1.ext e2).ext e3;have d2:=c2.ext e3)|(have z:=e1;refine QD rfl ?_;intro h2 e2 c2)|(refine QD rfl ?_;intro h1 e1 c1)|refine QN rfl d1 ?_|refine QN rfl d2 ?_|refine QH rfl d1 ?_|refine Qr rfl lp0 ?_|(refine Xz rfl rfl ?_)|(refine Xg rfl rfl c3 ?_;intro h4 w4)|refine Xd rfl ?_|refine QP rfl ?_|refine Ql rfl ?_|refine QR rfl rfl ?_|refine QJ rfl rfl ?_|refine Xu rfl rfl (by omega) ?_|refine Xk rfl rfl ?_)
  exact⟨.inr rfl,Xc rfl w4.cel.read ⟨w4.ext (e1.trans (e2.trans e3)) (Gq e1.len e2.len),.nilS,rfl,.inl ⟨rfl,rfl⟩⟩⟩
 have lpp:0<p.ts.length:=GU.2 hpe
 by_cases hqe:q.ts=[]
 ·have e:Yg p q=Qbv:=by unfold Yg;rw[if_neg nb,if_pos (.inr hqe)]
  have lq0:Yh false sq=some 0:=by rw[lq,hqe];rfl
  rw[e]
  repeat' first|apply Qf|apply Qb|apply QC|apply Qn|apply Qs|apply Qe|(apply Qg;first|refine Qk rfl ?_|refine Qi rfl ?_)|(apply Qd;first|refine Qq rfl ?_|refine Qu rfl rfl rfl ?_|refine QG rfl rfl rfl rfl ?_)|(apply Qc;first|(have z:=e2;apply Xa;intro h3 e3 c3;have d1:=(c1.ext e2).ext e3;have d2:=c2.ext e3)|(have z:=e1;refine QD rfl ?_;intro h2 e2 c2)|(refine QD rfl ?_;intro h1 e1 c1)|refine QN rfl d1 ?_|refine QN rfl d2 ?_|refine QH rfl d1 ?_|refine QH rfl d2 ?_|refine Qr rfl lp ?_|refine Qr rfl lq0 ?_|(refine Xz rfl rfl ?_)|(refine Xg rfl rfl c3 ?_;intro h4 w4)|refine QP rfl ?_|refine Ql rfl ?_|refine QJ rfl rfl ?_|refine Xu rfl rfl (by omega) ?_|refine Xl rfl rfl (by omega) ?_|refine Xk rfl rfl ?_)
  exact⟨.inr rfl,Xc rfl w4.cel.read ⟨w4.ext (e1.trans (e2.trans e3)) (Gq e1.len e2.len),.nilS,rfl,.inl ⟨rfl,rfl⟩⟩⟩
 have lqp:0<q.ts.length:=GU.2 hqe
 have ne2:¬(p.ts=[]∨q.ts=[]):=fun h=>h.elim hpe hqe
 have hd:=hd hpe hqe
 have kl:=kp.lo
 have kl2:=kq.lo
 have plen:=kp.len
 have qlen:=kq.len
 have k27p:=fun H (e:Ext h0 H)=>zH H false sp p.ts (hp.ext e)
 have k27q:=fun H (e:Ext h0 H)=>zH H false sq q.ts (hq.ext e)
 have k28p:=fun H (e:Ext h0 H)=>zG H false sp p.ts (hp.ext e) plen
 have k28q:=fun H (e:Ext h0 H)=>zG H false sq q.ts (hq.ext e) qlen
 have hmul:4*(p.ts.length:Int)*(q.ts.length:Int)<=8388612*2097153:=by
  have h1:4*(p.ts.length:Int)*(q.ts.length:Int)<=8388612*(q.ts.length:Int):=G0 (by omega) (by omega)
  omega
 have hmul0:0<=4*(p.ts.length:Int)*(q.ts.length:Int):=Ht (by omega) (by omega)
 have hrng:=QaT kp.can kq.can
 have hmlo:qG p.ts q.ts=lo0 p.ts+lo0 q.ts:=rfl
 have hmn:((ZG p.ts q.ts:Nat):Int)=hi0 p.ts+hi0 q.ts-(lo0 p.ts+lo0 q.ts)+1:=by unfold ZG;omega
 generalize hLo:lo0 p.ts+lo0 q.ts=lo at *
 generalize hHi:hi0 p.ts+hi0 q.ts=hi at *
 by_cases hout:lo < -1048576∨1048576<hi
 ·have e:Yg p q=Zi:=by unfold Yg;rw[if_neg nb,if_neg ne2,hmlo,hHi,if_pos hout]
  rw[e]
  by_cases ho1:lo < -1048576
  ·repeat' first|apply Qf|apply Qb|apply QC|apply Qn|apply Qs|apply Qe|apply Q7|apply Xm|apply Xn|(apply Qg;first|refine Qk rfl ?_|refine Qi rfl ?_)|(apply Qd;first|apply Q5|apply Xw|refine XP (by assumption) ?_|refine Qq rfl ?_|refine Qu rfl rfl rfl ?_|refine QG rfl rfl rfl rfl ?_|refine QO rfl rfl rfl rfl rfl ?_|refine QE rfl rfl rfl rfl rfl rfl ?_)|(apply Qc;first|(have z:=e2;apply Xa;intro h3 e3 c3;have x3:=e1.trans (e2.trans e3);have n1:=e1.len;have n2:=e2.len;have n3:=c3.lt;have d1:=(c1.ext e2).ext e3;have d2:=c2.ext e3;have m1:=c1.lt;have m2:=c2.lt)|(have z:=e1;refine QD rfl ?_;intro h2 e2 c2)|(refine QD rfl ?_;intro h1 e1 c1)|refine QN rfl d1 ?_|refine QN rfl d2 ?_|refine QH rfl d1 ?_|refine QH rfl d2 ?_|refine Qr rfl lp ?_|refine Qr rfl lq ?_|refine QU rfl d1 ?_|refine QU rfl d2_4 ?_|refine QU rfl d1_5 ?_|refine QU rfl d2_6 ?_|(refine Qj rfl (k27p h3 x3) ?_;rintro r h4 ⟨e4,rfl⟩;have d1_4:=d1.ext e4;have d2_4:=d2.ext e4;have c3_4:=c3.ext e4)|(refine Qj rfl (k27q h4 (x3.trans e4)) ?_;rintro r h5 ⟨e5,rfl⟩;have d1_5:=d1_4.ext e5;have d2_5:=d2_4.ext e5;have c3_5:=c3_4.ext e5)|(refine Qj rfl (k28p h5 (x3.trans (e4.trans e5))) ?_;rintro r h6 ⟨e6,rfl⟩;have d1_6:=d1_5.ext e6;have d2_6:=d2_5.ext e6;have c3_6:=c3_5.ext e6)|(refine Qj rfl (k28q h6 (x3.trans (e4.trans (e5.trans e6)))) ?_;rintro r h7 ⟨e7,rfl⟩;have d1_7:=d1_6.ext e7;have d2_7:=d2_6.ext e7;have c3_7:=c3_6.ext e7)|(have z:=e7;refine QM rfl rfl (by omega) ?_;rw[hHi])|(have z:=e5;refine QM rfl rfl (by omega) ?_;rw[hLo])|(have z:=e7;apply JE;intro h8 e8 n8;have m7:=(e4.trans (e5.trans (e6.trans e7))).len;have d1_8:=d1_7.ext e8;have d2_8:=d2_7.ext e8;have c3_8:=c3_7.ext e8)|(refine qH rfl rfl n8 ?_;intro h9 w9 c9;have c3_9:Cel h9 h2.length (.bool false) .nilS:=(by unfold Cel;rw[w9,Gk (by omega)];exact c3_8))|refine XG rfl (Cel1.at c9) rfl ?_|(refine Xz rfl rfl ?_)|(refine Xg rfl rfl c3_9 ?_;intro hA wA)|refine Xd rfl ?_|refine QP rfl ?_|refine Ql rfl ?_|refine QR rfl rfl ?_|refine QJ rfl rfl ?_|refine Qx rfl rfl (by omega) ?_|refine Xl rfl rfl (by omega) ?_|refine Xk rfl rfl ?_)
   exact⟨.inr rfl,Xc rfl wA.cel.read ⟨wA.ext (by rw[w9];exact(x3.trans (e4.trans (e5.trans (e6.trans (e7.trans e8))))).set (by omega) _) (Gq e1.len e2.len),.nilS,rfl,.inl ⟨rfl,rfl⟩⟩⟩
  ·have ho2:1048576<hi:=by omega
   repeat' first|apply Qf|apply Qb|apply QC|apply Qn|apply Qs|apply Qe|apply Q7|apply Xm|apply Xn|(apply Qg;first|refine Qk rfl ?_|refine Qi rfl ?_)|(apply Qd;first|apply Q5|apply Xw|refine XP (by assumption) ?_|refine Qq rfl ?_|refine Qu rfl rfl rfl ?_|refine QG rfl rfl rfl rfl ?_|refine QO rfl rfl rfl rfl rfl ?_|refine QE rfl rfl rfl rfl rfl rfl ?_)|(apply Qc;first|(have z:=e2;apply Xa;intro h3 e3 c3;have x3:=e1.trans (e2.trans e3);have n1:=e1.len;have n2:=e2.len;have n3:=c3.lt;have d1:=(c1.ext e2).ext e3;have d2:=c2.ext e3;have m1:=c1.lt;have m2:=c2.lt)|(have z:=e1;refine QD rfl ?_;intro h2 e2 c2)|(refine QD rfl ?_;intro h1 e1 c1)|refine QN rfl d1 ?_|refine QN rfl d2 ?_|refine QH rfl d1 ?_|refine QH rfl d2 ?_|refine Qr rfl lp ?_|refine Qr rfl lq ?_|refine QU rfl d1 ?_|refine QU rfl d2_4 ?_|refine QU rfl d1_5 ?_|refine QU rfl d2_6 ?_|(refine Qj rfl (k27p h3 x3) ?_;rintro r h4 ⟨e4,rfl⟩;have d1_4:=d1.ext e4;have d2_4:=d2.ext e4;have c3_4:=c3.ext e4)|(refine Qj rfl (k27q h4 (x3.trans e4)) ?_;rintro r h5 ⟨e5,rfl⟩;have d1_5:=d1_4.ext e5;have d2_5:=d2_4.ext e5;have c3_5:=c3_4.ext e5)|(refine Qj rfl (k28p h5 (x3.trans (e4.trans e5))) ?_;rintro r h6 ⟨e6,rfl⟩;have d1_6:=d1_5.ext e6;have d2_6:=d2_5.ext e6;have c3_6:=c3_5.ext e6)|(refine Qj rfl (k28q h6 (x3.trans (e4.trans (e5.trans e6)))) ?_;rintro r h7 ⟨e7,rfl⟩;have d1_7:=d1_6.ext e7;have d2_7:=d2_6.ext e7;have c3_7:=c3_6.ext e7)|(have z:=e7;refine QM rfl rfl (by omega) ?_;rw[hHi])|(have z:=e5;refine QM rfl rfl (by omega) ?_;rw[hLo])|(have z:=e7;apply JE;intro h8 e8 n8;have m7:=(e4.trans (e5.trans (e6.trans e7))).len;have d1_8:=d1_7.ext e8;have d2_8:=d2_7.ext e8;have c3_8:=c3_7.ext e8)|(refine qH rfl rfl n8 ?_;intro h9 w9 c9;have c3_9:Cel h9 h2.length (.bool false) .nilS:=(by unfold Cel;rw[w9,Gk (by omega)];exact c3_8))|refine XG rfl (Cel1.at c9) rfl ?_|(refine Xz rfl rfl ?_)|(refine Xg rfl rfl c3_9 ?_;intro hA wA)|refine QP rfl ?_|refine Ql rfl ?_|refine QJ rfl rfl ?_|refine QF rfl rfl (by omega) ?_|refine XK rfl rfl (by omega) ?_|refine Xl rfl rfl (by omega) ?_|refine Xk rfl rfl ?_)
   exact⟨.inr rfl,Xc rfl wA.cel.read ⟨wA.ext (by rw[w9];exact(x3.trans (e4.trans (e5.trans (e6.trans (e7.trans e8))))).set (by omega) _) (Gq e1.len e2.len),.nilS,rfl,.inl ⟨rfl,rfl⟩⟩⟩
 repeat' first|apply Qf|apply Qb|apply Qn|apply Qe|apply Q7|apply Xm|apply Xn|(apply Qg;refine Qi rfl ?_)|(apply Qd;first|apply Q5|apply Xw|refine XP (by assumption) ?_|refine Qu rfl rfl rfl ?_|refine QG rfl rfl rfl rfl ?_|refine QO rfl rfl rfl rfl rfl ?_|refine QE rfl rfl rfl rfl rfl rfl ?_)|(apply Qc;first|(have z:=eB;apply JE;intro hC eC cC;have oC:=oB.ext eC;have c9C:=Cel1.ext c9B eC;have d1_C:=d1_B.ext eC;have d2_C:=d2_B.ext eC;have c3_C:=c3_B.ext eC)|(have z:=e2;apply Xa;intro h3 e3 c3;have x3:=e1.trans (e2.trans e3);have n1:=e1.len;have n2:=e2.len;have n3:=c3.lt;have d1:=(c1.ext e2).ext e3;have d2:=c2.ext e3;have m1:=c1.lt;have m2:=c2.lt)|(have z:=e1;refine QD rfl ?_;intro h2 e2 c2)|(refine QD rfl ?_;intro h1 e1 c1)|refine QN rfl d1 ?_|refine QN rfl d2 ?_|refine QH rfl d1 ?_|refine QH rfl d2 ?_|refine Qr rfl lp ?_|refine Qr rfl lq ?_|refine QU rfl d1 ?_|refine QU rfl d2_4 ?_|refine QU rfl d1_5 ?_|refine QU rfl d2_6 ?_|(refine Qj rfl (k27p h3 x3) ?_;rintro r h4 ⟨e4,rfl⟩;have d1_4:=d1.ext e4;have d2_4:=d2.ext e4;have c3_4:=c3.ext e4)|(refine Qj rfl (k27q h4 (x3.trans e4)) ?_;rintro r h5 ⟨e5,rfl⟩;have d1_5:=d1_4.ext e5;have d2_5:=d2_4.ext e5;have c3_5:=c3_4.ext e5)|(refine Qj rfl (k28p h5 (x3.trans (e4.trans e5))) ?_;rintro r h6 ⟨e6,rfl⟩;have d1_6:=d1_5.ext e6;have d2_6:=d2_5.ext e6;have c3_6:=c3_5.ext e6)|(refine Qj rfl (k28q h6 (x3.trans (e4.trans (e5.trans e6)))) ?_;rintro r h7 ⟨e7,rfl⟩;have d1_7:=d1_6.ext e7;have d2_7:=d2_6.ext e7;have c3_7:=c3_6.ext e7)|(have z:=e7;refine QM rfl rfl (by omega) ?_;rw[hHi])|(have z:=e5;refine QM rfl rfl (by omega) ?_;rw[hLo])|(have z:=e7;apply JE;intro h8 e8 n8;have m7:=(e4.trans (e5.trans (e6.trans e7))).len;have d1_8:=d1_7.ext e8;have d2_8:=d2_7.ext e8;have c3_8:=c3_7.ext e8)|(refine qH rfl rfl n8 ?_;intro h9 w9 c9;have x9:Ext h0 h9:=(by rw[w9];exact(x3.trans (e4.trans (e5.trans (e6.trans (e7.trans e8))))).set (by omega) _);have c3_9:Cel h9 h2.length (.bool false) .nilS:=(by unfold Cel;rw[w9,Gk (by omega)];exact c3_8);have d1_9:Cel h9 h0.length (.bool false) sp:=(by unfold Cel;rw[w9,Gk (by omega)];exact d1_8);have d2_9:Cel h9 h1.length (.bool false) sq:=(by unfold Cel;rw[w9,Gk (by omega)];exact d2_8))|refine XG rfl (Cel1.at c9) rfl ?_|refine QH rfl d1_9 ?_|refine QH rfl d2_9 ?_|(refine Qhz x9 rfl rfl (by simp only[XS];omega) ?_;intro S hB oB eB xB lB;have c9B:=Cel1.ext c9 eB;have d1_B:=d1_9.ext eB;have d2_B:=d2_9.ext eB;have c3_B:=c3_9.ext eB)|refine QP rfl ?_|refine Ql rfl ?_|refine QJ rfl rfl ?_|refine QM rfl rfl (by omega) ?_|refine Jj rfl rfl (by omega) ?_|refine JR rfl rfl (by omega) ?_|refine QF rfl rfl (by omega) ?_|refine XD rfl rfl (by omega) ?_|refine Xl rfl rfl (by omega) ?_|refine Xk rfl rfl ?_)
 refine qH rfl rfl cC ?_
 intro hD wD cD
 have lC:hB.length<hC.length:=(Gb.1 cC).1
 have l79:h7.length<h9.length:=(Gb.1 c9).1
 have l19:=d1_9.lt
 have l29:=d2_9.lt
 have l39:=c3_9.lt
 have nD:XW S hB.length:=oC.cel cC
 have xD:Ext h0 hD:=by rw[wD];exact(xB.trans eC).set xB.len _
 have hrep:List.replicate (hi-lo+1).toNat (SV.int IntKind.u64 0,SV.int IntKind.u64 0)=(List.replicate (ZG p.ts q.ts) (0:Int)).map wdP:=by
  rw[List.map_replicate,show (hi-lo+1).toNat=ZG p.ts q.ts from by omega]
  rfl
 rw[hrep]at oC
 have oD:OwnD h0 hD S ((List.replicate (ZG p.ts q.ts) (0:Int)).map wdP):=by rw[wD];exact(oC.set nD _).weaken x9.len
 have c9D:Cel1 hD h7.length (.int .i64 lo):=by unfold Cel1;rw[wD,Gk (by omega)];exact c9C
 have d1_D:Cel hD h0.length (.bool false) sp:=by unfold Cel;rw[wD,Gk (by omega)];exact d1_C
 have d2_D:Cel hD h1.length (.bool false) sq:=by unfold Cel;rw[wD,Gk (by omega)];exact d2_C
 have c3_D:Cel hD h2.length (.bool false) .nilS:=by unfold Cel;rw[wD,Gk (by omega)];exact c3_C
 have xS:Sx h0 hD hD S hB.length h7.length lo (List.replicate (ZG p.ts q.ts) 0):=⟨xD,oD,cD,c9D,fun _ _ h _=>h⟩
 rw[hmlo]at hrng
 have k43:=Qoz h0 hD S hB.length h7.length lo (ZG p.ts q.ts) (by omega) false false sp sq p.ts q.ts hp hq kp.fit kq.fit hrng (by omega) xS
 have n3:=oD.cel c3_D
 clear wD c9C d1_C d2_C c3_C oC oB
 refine y4 ?_
 repeat' first|apply Qf|apply Qb|apply Qt|apply Qe|(apply Qd;first|refine Qu rfl rfl rfl ?_|refine QG rfl rfl rfl rfl ?_|refine QE rfl rfl rfl rfl rfl rfl ?_)|(apply Qc;first|refine QU rfl d1_D ?_|refine QU rfl d2_D ?_|(refine Qj rfl k43 ?_;rintro r hE xE;have c3_E:=xE.k _ _ c3_D n3)|(have z:=xE;apply Xa;intro hF eF c8;have xF:=xE.ext eF;have c3_F:=Cel.ext c3_E eF;have lS:Yh false S=some ((ZG p.ts q.ts:Nat):Int):=(by have:=xF.o.len;rwa [Gj,yk]at this))|refine XG rfl (Cel1.at xF.b7) rfl ?_|refine Qr rfl lS ?_|refine Ql rfl ?_|refine Xk rfl rfl ?_)
 have hst:St22 h0 hF h2.length h7.length hE.length lo false S .nilS (smL (fun e=>mc p.ts q.ts e) lo (ZG p.ts q.ts)) (Zc (fun e=>mc p.ts q.ts e) lo 0):=⟨xF.e,c3_F,xF.b5,c8,.inl ⟨rfl,rfl⟩,xF.o.is,fun j => .inl (fun o n c e=>by cases e)⟩
 have nE:=c3_E
 have lE:h2.length<hE.length:=(Gb.1 c3_E).1
 have l02:h0.length<=h2.length:=Gq e1.len e2.len
 have hmul:Yg p q=if ∀ t∈VO p.ts q.ts lo (ZG p.ts q.ts),t.2.natAbs<=cM then ⟨false,VO p.ts q.ts lo (ZG p.ts q.ts)⟩ else Zi:=by unfold Yg;rw[if_neg nb,if_neg ne2,hmlo,hHi,if_neg hout]
 refine YQ (I22 h0 h2.length h7.length hE.length lo S (fun e=>mc p.ts q.ts e) (ZG p.ts q.ts)) (cK [4,5,8,73,74,75] (ZG p.ts q.ts) 75) (R22 h0 h2.length h7.length hE.length lo S (fun e=>mc p.ts q.ts e) (ZG p.ts q.ts)) ⟨0,.nilS,Gm _,fun k hk=>absurd hk (by omega),hst,rfl⟩ (Qkf h0 h2.length h7.length hE.length lo S (fun e=>mc p.ts q.ts e) (ZG p.ts q.ts) (by omega) (by omega) (Qca kp kq) l02 (by have:=xF.e.len;have:=xS.e.len;have:=xE.e.len;omega) (by omega)) ?_
 rintro ex E' h3 (⟨rfl,s,_,_,_,_,hsm,st,rfl⟩|⟨rfl,hns,e3,c4,rfl⟩)
 ·have c4:=st.c4
  repeat' first|apply Qf|apply Qb|apply QK|apply Qs|apply Qe|(apply Qd;refine Qq rfl ?_)|(apply Qc;first|refine QU rfl st.c8 ?_|(refine Xg rfl rfl c4 ?_;intro h4 w4))
  refine⟨.inr rfl,Xc rfl w4.cel.read ⟨w4.ext st.e l02,?_⟩⟩
  rw[hmul,if_pos]
  ·exact⟨s,rfl,st.o.wrC w4⟩
  ·intro t ht
   obtain⟨a,b,c,d⟩:=fromC_mem.1 ht
   have:=hsm (t.1-lo).toNat (by omega)
   rw[show lo+((t.1-lo).toNat:Int)=t.1 from by omega]at this
   rw[c];exact this
 ·repeat' first|apply QC|apply Xi
  refine⟨.inr rfl,Xc rfl c4.read ⟨e3,?_⟩⟩
  rw[hmul,if_neg]
  ·exact⟨.nilS,rfl,.inl ⟨rfl,rfl⟩⟩
  ·intro hall
   refine hns fun k hk=>?_
   by_cases hz:mc p.ts q.ts (lo+k)=0
   ·show (mc p.ts q.ts (lo+k)).natAbs<=cM
    rw[hz];simp[cM]
   ·exact hall (lo+k,mc p.ts q.ts (lo+k)) (fromC_mem.2 ⟨by omega,by omega,rfl,hz⟩)
theorem QoM(h0:Qa)(sp sq:SV)(p q:Pol)(hp:IsD h0 sp (tms p.ts))(hq:IsD h0 sq (tms q.ts))(kp:Pok p)(kq:Pok q)(hd:p.ts≠[]->q.ts≠[]->hi0 p.ts+hi0 q.ts-(lo0 p.ts+lo0 q.ts)<=64+4*(p.ts.length:Int)*q.ts.length) :
  ∃ r h',Cal FT HKt 22 [.agg [.bool p.big,sp],.agg [.bool q.big,sq]] h0 r h'/\Ext h0 h'/\VM h' r (Yg p q):=by
 obtain⟨r,h',a,b,s,c,d⟩:=Qk5 h0 sp sq p q hp hq kp kq hd
 exact⟨r,h',a,b,s,c,d.is⟩
end Go.Proofs.YtofknpknogfijaaGreatDoor
namespace Go.Proofs.YtofknpknogfijaaGreatDoor
open Go.Ab
set_option linter.all false
variable [HB]
section
variable {FT:zzA} {HK:zzH} {E:Env} {h h0:Qa} {K:Env->Qa->Prop} {d:Option Nat} {r:List AOp} {x y xo so:AO} {m n:Int}
theorem qU{a b z0 z1:SV}(hx:ev E xo=some (.agg [a,b]))(hw:∀ h1,Ext h h1->Xs h1 2 (.slc h.length 0 1 (some 1))=some (1,[a,b])->Qm FT HK r (Qv d (some (.sc (.slc h.length 0 1 (some 1)))) E) h1 K) :
  Qm FT HK (⟨d,.bsl 2 [z0,z1] 1 [(0,xo)],none⟩::r) E h K:=by
 refine Q2 (v:=some (.sc (.slc h.length 0 1 (some 1)))) (h':=h++[.cells [a,b] true 2]) rfl rfl ?_ (hw _ ⟨_,rfl⟩ (by simp[Xs,Q3,cut]))
 simp[Qo,XR,hx,AV.cells,YX,rep,Q8,ez2]
theorem JG{bytes:Nat}{s t a b:SV}{ps:List P2}{z2:List SV}(he:Ext h0 h)(ho:OwnD h0 h s ps)(hs:evS E so=some s)(hx:evS E x=some t)(ht:Xs h 2 t=some (1,[a,b]))(hb:(ps.length+1)*(bytes+1)<=XS)
  (hw:∀ s' h',OwnD h0 h' s' (ps++[(a,b)])->Ext h0 h'->Fram h h' s s'->h.length<=h'.length->Qm FT HK r (Qv d (some (.sc s')) E) h' K) :
  Qm FT HK (⟨d,.app 2 bytes z2 so x,none⟩::r) E h K:=by
 obtain⟨s',h',h1,h2,h3,h4,h5⟩:=appD (bytes:=bytes) he ho hb a b
 refine Q2 (v:=some (.sc s')) (h':=h') rfl rfl ?_ (hw s' h' h2 h3 h5 h4)
 simp only[Qo,hs,hx,Gl,ez2,ht,h1,Gp]
theorem QnT(hx:evS E x=some (.int .i64 m))(hy:evS E y=some (.int .i64 n))(hr:n≠0 ∧ -9223372036854775808<=m.tdiv n/\m.tdiv n<=9223372036854775807)(hw:Qm FT HK r (Qv d (some (.sc (.int .i64 (m.tdiv n)))) E) h K):Qm FT HK (⟨d,.bin .quo x y,none⟩::r) E h K:=by
 refine JA (n:=m.tdiv n) rfl rfl ?_ hr.2 hw
 simp only[Qo,hx,hy,Gl,ZI,X3,qZ]
 rw[if_neg (by decide),if_pos trivial,if_neg hr.1];rfl
end
set_option maxHeartbeats 16000000
set_option maxRecDepth 20000
attribute [local irreducible] Qm wA Xp Xo QI Qp QZ QY
def smC(x:Int):Prop := -4611686018427387904<=x/\x<=4611686018427387904
def smallP(low:Int)(xs:List Int):Prop:=xs.length<=20 ∧ -100<=low/\low<=100/\∀ x∈xs,smC x
def QcP(low:Int)(xs:List Int):Prop:=xs.length<=20 ∧ -1000<=low/\low<=1000/\∀ x∈xs,smC x
theorem smallP.q{low:Int}{xs:List Int}(h:smallP low xs):QcP low xs:=⟨h.1,by have:=h.2.1;omega,by have:=h.2.2.1;omega,h.2.2.2⟩
section
variable {FT:zzA} {HK:zzH} {E:Env} {h:Qa} {K:Env->Qa->Prop} {d:Option Nat} {r:List AOp} {x:AO}
theorem Vi{q:Nat}{a b v:SV}{p:AO}(ha:evS E p=some (.ptr q (0+0)))(hx:ev E x=some (.sc v))(hc:Cel h q a b)(hw:∀ h1,Wr h h1 q v b->Qm FT HK r (Qv d none E) h1 K) :
  Qm FT HK (⟨d,.st 1 p x,none⟩::r) E h K :=
 Q2 (v:=none) (h':=h.set q (.cells [v,b] true 0)) rfl rfl (by
  have hc':h[q]?=some (.cells [a,b] true 0):=hc
  simp[Qo,ha,hx,AV.cells,Xx,hc',Q8]) (hw _ ⟨rfl,_,_,hc⟩)
end
def IsRf(h:Qa)(v:AV)(p:Pol):Prop:=∃ s,v = .agg [s,.bool p.big]/\IsD h s (tms p.ts)
structure St27(h0 h:Qa)(q4 q5:Nat)(b:Bool)(s:SV)(r:List Tm):Prop where
 e:Ext h0 h
 c4:Cel h q4 .nilS (.bool b)
 c5:Cel h q5 s (.bool false)
 o:OwnD h0 h s (tms r)
 l:h0.length<=q4/\q4<q5
theorem St27.ext{h0 h h':Qa}{q4 q5:Nat}{b:Bool}{s:SV}{r:List Tm}(u:St27 h0 h q4 q5 b s r)(e:Ext h h'):St27 h0 h' q4 q5 b s r:=⟨u.e.trans e,u.c4.ext e,u.c5.ext e,u.o.ext e,u.l⟩
def I27(h0:Qa)(q4 q5:Nat)(low:Int)(c:SV)(xs:List Int)(E:Env)(h:Qa):Prop:=∃(i:Nat) (r:List Tm) (s:SV),i<=xs.length/\ofN low xs i=some r/\St27 h0 h q4 q5 false s r ∧
 E.keep [0,1,4,5,6]=[(0,some (.sc (.int .i64 low))),(1,some (.sc c)),(4,some (.sc (.ptr q4 0))),(5,some (.sc (.ptr q5 0))),(6,some (.sc (.int .i64 (i:Nat))))]
def R27(h0:Qa)(q4 q5:Nat)(low:Int)(xs:List Int)(ex:Ex)(E:Env)(h:Qa):Prop :=
 (ex = .ex 0/\∃ r s a b c d,ofN low xs xs.length=some r/\St27 h0 h q4 q5 false s r/\E=[(0,a),(1,b),(4,some (.sc (.ptr q4 0))),(5,some (.sc (.ptr q5 0))),(6,c),(10,d)]) ∨
 (ex = .rt/\ofN low xs xs.length=none/\Ext h0 h/\Cel h q4 .nilS (.bool true)/\E=[(4,some (.sc (.ptr q4 0)))])
theorem Qke(h0:Qa)(q4 q5:Nat)(low:Int)(c:SV)(xs:List Int)(hs:QcP low xs)(hc:IsInts h0 c xs)(E:Env)(h:Qa)(hI:I27 h0 q4 q5 low c xs E h) :
  wA FT HKt Qmt (E.keep [0,1,4,5,6]) h (QI (I27 h0 q4 q5 low c xs) (cK [0,1,4,5,6] xs.length 6) (cK [0,1,4,5,6] xs.length 6 E h) (R27 h0 q4 q5 low xs)):=by
 obtain⟨i,r,s,hi,hr,st,hE⟩:=hI
 have hm:cK [0,1,4,5,6] xs.length 6 E h=xs.length-i:=by unfold cK;rw[hE];rfl
 rw[hm,hE]
 have ls:=IsSl.len hc
 obtain⟨n20,hl1,hl2,hxs⟩:=hs
 by_cases hlt:i<xs.length
 ·obtain⟨x,hx⟩:∃ x,xs[i]?=some x:=⟨_,Ga hlt⟩
  have hx2:xs.getD i 0=x:=by rw[Ge,hx];rfl
  obtain⟨id,off,cap,rfl,rd0⟩:=IsInts.at hc hx
  have rd:=Qw st.e rd0
  have c4:=st.c4
  have c5:=st.c5
  have l:=st.l
  by_cases hz:x=0
  ·have en:ofN low xs (i+1)=some r:=by rw[ofN,hr,Gl,hx2,if_pos hz]
   subst hz
   repeat' first|apply Qf|apply Qb|apply QS|apply Qt|apply QK|apply Qn|apply QQ|apply Qe|(apply Qg;refine Qk rfl ?_)|(apply Qd;first|refine QO rfl rfl rfl rfl rfl ?_|refine QE rfl rfl rfl rfl rfl rfl ?_)|(apply Qc;first|refine Qr rfl ls ?_|refine Qy (esz:=1) rfl rfl (by omega) ?_|refine Q1 rfl rd ?_|refine Ql rfl ?_|refine QM rfl rfl (by omega) ?_|refine Qx rfl rfl (by omega) ?_|refine Xu rfl rfl (by omega) ?_)
   exact Xr ⟨i+1,r,s,by omega,en,st,rfl⟩ (by simp[cK,Env.keep,Env.get];omega)
  by_cases a1:x.natAbs<=1125899906842624
  ·have en:ofN low xs (i+1)=some (r++[(low+i,x)]):=by rw[ofN,hr,Gl,hx2,if_neg hz,if_pos ⟨a1,by simp only[eM];omega,by simp only[eM];omega⟩]
   have hrl:=Qea hr
   repeat' first|apply Qf|apply Qb|apply Qt|apply QL|apply Qn|apply Qe|apply Q7|apply Xm|apply Xn|(apply Qg;first|refine Qk rfl ?_|refine Qi rfl ?_)|(apply Qd;first|apply Q5|apply Xw|refine XP (by assumption) ?_|refine QO rfl rfl rfl rfl rfl ?_|refine QE rfl rfl rfl rfl rfl rfl ?_)|(apply Qc;first|refine Qr rfl ls ?_|refine Qy (esz:=1) rfl rfl (by omega) ?_|refine Q1 rfl rd ?_|refine QW rfl ?_|refine QN rfl c5 ?_|(refine Xz rfl rfl ?_)|(refine qU rfl ?_;intro h8 e8 src8;have st8:=st.ext e8)|(refine JG st8.e st8.o rfl rfl src8 (by rw[Q6];simp only[XS];omega) ?_;intro s' h2 o2 e2 f2 l2;have d5:=st8.c5.fram f2 (st8.o.cel st8.c5);have d4:=st8.c4.fram f2 (st8.o.cel st8.c4))|(refine Vi rfl rfl d5 ?_;intro h3 w3)|refine QP rfl ?_|refine Ql rfl ?_|refine QJ rfl rfl ?_|refine QM rfl rfl (by omega) ?_|refine Qx rfl rfl (by omega) ?_|refine QF rfl rfl (by omega) ?_|refine XD rfl rfl (by omega) ?_|refine Xl rfl rfl (by omega) ?_)
   refine Xr ⟨i+1,_,s',by omega,en,⟨w3.ext e2 (by omega),w3.keep d4 (by omega),w3.cel,?_,l⟩,rfl⟩ (by simp[cK,Env.keep,Env.get];omega)
   have:=o2.wrC w3
   simpa [tms,tmP]using this
  ·have en:ofN low xs (i+1)=none:=by rw[ofN,hr,Gl,hx2,if_neg hz,if_neg (fun h=>a1 h.1)]
   by_cases a2:x < -1125899906842624
   ·repeat' first|apply Qf|apply Qb|apply QC|apply Qt|apply Xi|apply Qn|apply Qs|apply Qe|(apply Qg;first|refine Qk rfl ?_|refine Qi rfl ?_)|(apply Qd;first|refine Qq rfl ?_|refine QE rfl rfl rfl rfl rfl rfl ?_)|(apply Qc;first|refine Qr rfl ls ?_|refine Qy (esz:=1) rfl rfl (by omega) ?_|refine Q1 rfl rd ?_|(refine Xz rfl rfl ?_)|(refine Xg rfl rfl c4 ?_;intro h3 w3)|refine Xd rfl ?_|refine Ql rfl ?_|refine QR rfl rfl ?_|refine Qx rfl rfl (by omega) ?_|refine Xl rfl rfl (by omega) ?_)
    exact Zo (.inr ⟨rfl,yC (by omega) en,w3.ext st.e l.1,w3.cel,rfl⟩)
   ·repeat' first|apply Qf|apply Qb|apply QC|apply Qt|apply Xi|apply Qn|apply Qs|apply Qe|(apply Qg;first|refine Qk rfl ?_|refine Qi rfl ?_)|(apply Qd;first|refine Qq rfl ?_|refine QE rfl rfl rfl rfl rfl rfl ?_)|(apply Qc;first|refine Qr rfl ls ?_|refine Qy (esz:=1) rfl rfl (by omega) ?_|refine Q1 rfl rd ?_|(refine Xz rfl rfl ?_)|(refine Xg rfl rfl c4 ?_;intro h3 w3)|refine Xd rfl ?_|refine QP rfl ?_|refine Ql rfl ?_|refine QR rfl rfl ?_|refine QJ rfl rfl ?_|refine Qx rfl rfl (by omega) ?_|refine QF rfl rfl (by omega) ?_|refine XK rfl rfl (by omega) ?_|refine Xl rfl rfl (by omega) ?_)
    exact Zo (.inr ⟨rfl,yC (by omega) en,w3.ext st.e l.1,w3.cel,rfl⟩)
 ·have:i=xs.length:=by omega
  subst this
  repeat' first|apply Qf|apply Qb|apply QS|apply QQ|apply Qe|(apply Qg;refine Qi rfl ?_)|(apply Qd;refine QE rfl rfl rfl rfl rfl rfl ?_)|(apply Qc;first|refine Qr rfl ls ?_|refine Ql rfl ?_|refine QF rfl rfl (by omega) ?_)
  exact XI (.inl ⟨rfl,r,s,_,_,_,_,hr,st,rfl⟩)
end Go.Proofs.YtofknpknogfijaaGreatDoor
namespace Go.Proofs.YtofknpknogfijaaGreatDoor
open Go.Ab
set_option linter.all false
variable [HB]
theorem Qh8{cs vs:List SV}{off N l m:Nat}(h:cut cs off N=some vs)(hm:l+m<=N):cut cs (off+l) m=some ((vs.drop l).take m):=by
 unfold cut at h ⊢
 split at h
 ·simp only[Option.some.injEq]at h
  rw[if_pos (by omega),← h,List.drop_take,HD,List.take_take,GV (by omega)]
 ·cases h
theorem QaE{h:Qa}{s:SV}{e:ESz}{n l u:Nat}{vs:List SV}(hs:IsSl h s e n vs)(hl:l<=u)(hu:u<=n) :
  ∃ s',(∀(_:e.n=1),Y7 l u s=some s')/\YR h e l u s=some s'/\IsSl h s' e (u-l) ((vs.drop (l*e.n)).take ((u-l)*e.n)):=by
 rcases hs with ⟨rfl,rfl,rfl⟩|⟨id,off,cap,b,rfl,h1,h2,h3,h4⟩
 ·have:l=0/\u=0:=by omega
  obtain⟨rfl,rfl⟩:=this
  exact⟨.nilS,fun _=>by simp[Y7],by simp[YR],.inl ⟨rfl,rfl,by simp⟩⟩
 ·refine⟨.slc id (off+l*e.n) (u-l) (cap.map (· - l)),fun h1e=>?_,?_,.inr ⟨id,_,_,b,rfl,h1,h2,fun h0=>by simp[h0],fun h0=>?_⟩⟩
  ·simp[Y7,hl,hu,h1e]
  ·simp[YR,h1,h2,hl,hu]
  ·obtain⟨cs,rw',rfl,hc⟩:=h4 (by omega)
   refine⟨cs,rw',rfl,Qh8 hc ?_⟩
   rw[← GS]
   exact GF _ (by omega)
theorem Qob{h:Qa}{s:SV}{xs:List Int}{u:Nat}(hs:IsInts h s xs)(hu:u<=xs.length):∃ s',Y7 0 u s=some s'/\IsInts h s' (xs.take u):=by
 obtain⟨s',h1,-,h3⟩:=QaE (l:=0) (u:=u) hs (Gm _) hu
 refine⟨s',h1 rfl,?_⟩
 unfold IsInts
 rw[GJ,GV hu,List.map_take]
 have e1:((1:ESz)).n=1:=rfl
 rw[e1]at h3
 simpa using h3
theorem QhG{h:Qa}{s:SV}{xs:List Int}{l:Nat}(hs:IsInts h s xs)(hl:l<=xs.length):∃ s',Y7 l xs.length s=some s'/\IsInts h s' (xs.drop l):=by
 obtain⟨s',h1,-,h3⟩:=QaE (l:=l) (u:=xs.length) hs hl (Gd _)
 refine⟨s',h1 rfl,?_⟩
 unfold IsInts
 rw[Hf,List.map_drop]
 have e1:((1:ESz)).n=1:=rfl
 rw[e1,GG (by simp)]at h3
 simpa using h3
theorem prsTo{h:Qa}{s:SV}{ps:List P2}{u:Nat}(hs:IsD h s ps)(hu:u<=ps.length):∃ s',YR h 2 0 u s=some s'/\IsD h s' (ps.take u):=by
 obtain⟨s',-,h2,h3⟩:=QaE (l:=0) (u:=u) hs (Gm _) hu
 refine⟨s',h2,?_⟩
 unfold IsD
 rw[GJ,GV hu,yq]
 have e1:((2:ESz)).n=2:=rfl
 rw[e1]at h3
 simpa using h3
theorem Qks{h:Qa}{s:SV}{ps:List P2}{l:Nat}(hs:IsD h s ps)(hl:l<=ps.length):∃ s',YR h 2 l ps.length s=some s'/\IsD h s' (ps.drop l):=by
 obtain⟨s',-,h2,h3⟩:=QaE (l:=l) (u:=ps.length) hs hl (Gd _)
 refine⟨s',h2,?_⟩
 unfold IsD
 rw[Hf,U2]
 have e1:((2:ESz)).n=2:=rfl
 rw[e1,GG (by rw[Hf,Zl];omega)]at h3
 exact h3
theorem srcD{h:Qa}{t:SV}{ps:List P2}(ht:IsD h t ps):Xs h 2 t=some (ps.length,prs ps):=by
 rcases ht with ⟨rfl,h1,h2⟩|⟨id,off,cap,b,rfl,h1,h2,h3,h4⟩
 ·rw[h1,h2];rfl
 ·simp only[Xs]
  by_cases h0:ps.length=0
  ·rw[if_pos h0,h0,h3 h0]
  ·obtain⟨cs,rw',rfl,hc⟩:=h4 (by omega)
   have e1:((2:ESz)).n=2:=rfl
   rw[e1]at hc
   rw[if_neg h0]
   simp[Q3,h1,hc]
theorem appDs{h0 h:Qa}{s:SV}{ps ws:List P2}{bytes:Nat}(he:Ext h0 h)(ho:OwnD h0 h s ps)(hb:(ps.length+ws.length)*(bytes+1)<=XS) :
  ∃ s' h',Y0 h 2 bytes s ws.length (prs ws)=some (s',h')/\OwnD h0 h' s' (ps++ws)/\Ext h0 h'/\h.length<=h'.length/\Fram h h' s s':=by
 by_cases hw:ws.length=0
 ·have:ws=[]:=Gw hw
  subst this
  refine⟨s,h,?_,by rw[Hk];exact ho,he,Gd _,fun j b hj hn=>⟨hj,hn⟩⟩
  rcases ho with ⟨rfl,rfl⟩|⟨id,cap,bl,rfl,h1,h2,h3,h4⟩ <;> simp[Y0]
 have hl:=he.len
 have hp:prs (ps++ws)=prs ps++prs ws:=yr _ _
 have hpl:(ps++ws).length=ps.length+ws.length:=by simp
 have hpr:=Zl ps
 have hwr:=Zl ws
 rcases ho with ⟨rfl,rfl⟩|⟨id,cap,bl,rfl,h1,h2,h3,h4⟩
 ·refine⟨.slc h.length 0 ws.length none,h++[.cells (prs ws) true 2],?_,.inr ⟨h.length,none,prs ws,rfl,hl,by simp,by rw[List.nil_append,GG (by rw[hwr];exact Gd _)],by simp[RoomD,hwr]⟩,he.app _,by simp,fun j b' hj hn=>?_⟩
  ·simp only[Y0]
   rw[if_neg hw,if_pos (by simpa using hb)]
  ·have hjl:=(Gb.1 hj).1
   exact⟨X5 j b' hj,fun o n c hc=>by cases hc;omega⟩
 ·have hid:id<h.length:=(Gb.1 h2).1
  have hle:=h4.le
  have hcut:cut bl 0 (ps.length*2)=some (prs ps):=by
   unfold cut
   rw[if_pos (by omega),Hi,h3]
  have fresh:∀(j:Nat) (b:Blk),h[j]?=some b->∀ k,XW (SV.slc h.length 0 k none) j:=by
   intro j b hj k o n c hc
   have:=(Gb.1 hj).1
   cases hc;omega
  cases cap with
  | none =>
   refine⟨.slc h.length 0 (ps.length+ws.length) none,h.set id (.dead 2)++[.cells (prs ps++prs ws) true 2],?_,?_,(he.set h1 _).app _,by simp,?_⟩
   ·simp only[Y0]
    rw[if_neg hw,if_pos hb,h2]
    simp only[if_true,ez2,hcut]
    rw[if_pos ⟨trivial,.inl rfl⟩]
   ·refine .inr ⟨h.length,none,prs ps++prs ws,by rw[hpl],hl,?_,?_,by simp[RoomD,hpr,hwr];omega⟩
    ·rw[Gi (by simp)];simp
    ·rw[hp,GG (by simp[hpr,hwr];omega)]
   ·intro j b' hj hn
    have hne:id≠j:=fun e=>by subst e;exact hn _ _ _ rfl
    refine⟨X5 j b' ?_,fresh j b' hj _⟩
    rw[Gk hne];exact hj
  | some c =>
   obtain⟨h5,h6⟩:=h4
   by_cases hc:c<ps.length+ws.length
   ·refine⟨.slc h.length 0 (ps.length+ws.length) none,h++[.cells (prs ps++prs ws) true 2],?_,?_,he.app _,by simp,?_⟩
    ·simp only[Y0]
     rw[if_neg hw,if_pos hb,h2]
     simp only[if_true,ez2,hcut]
     rw[if_pos hc]
    ·refine .inr ⟨h.length,none,prs ps++prs ws,by rw[hpl],hl,?_,?_,by simp[RoomD,hpr,hwr];omega⟩
     ·rw[Gi (Gd _)];simp
     ·rw[hp,GG (by simp[hpr,hwr];omega)]
    ·exact fun j b' hj hn=>⟨X5 j b' hj,fresh j b' hj _⟩
   ·have hsl:(Q8 bl (0+ps.length*2) (prs ws)).length=c*2:=by simp[Q8];omega
    refine⟨.slc id 0 (ps.length+ws.length) (some c),h.set id (.cells (Q8 bl (0+ps.length*2) (prs ws)) true 2),?_,?_,he.set h1 _,by simp,?_⟩
    ·simp only[Y0]
     rw[if_neg hw,if_pos hb,h2]
     simp only[if_true,ez2,hcut]
     rw[if_neg hc]
     simp only[Xx,h2]
     rw[if_pos (by simp;omega)];rfl
    ·refine .inr ⟨id,some c,Q8 bl (0+ps.length*2) (prs ws),by rw[hpl],h1,GA hid,?_,?_⟩
     ·rw[hp,hpl]
      simp only[Q8,Hd]
      rw[h3,Hz (by simp[hpr,hwr];omega),GG (by simp[hpr,hwr];omega)]
     ·rw[hpl];exact⟨hsl,by omega⟩
    ·intro j b' hj hn
     have hne:id≠j:=fun e=>by subst e;exact hn _ _ _ rfl
     refine⟨?_,fun o n c' e=>hn _ _ _ (by cases e;rfl)⟩
     rw[Gk hne];exact hj
section
variable {FT:zzA} {HK:zzH} {E:Env} {h h0:Qa} {K:Env->Qa->Prop} {d:Option Nat} {r:List AOp} {x y lo hi:AO}
theorem QkH{z0 z1:SV}(hw:∀ h1,Ext h h1->OwnD h h1 (.slc h.length 0 0 (some 0)) []->Qm FT HK r (Qv d (some (.sc (.slc h.length 0 0 (some 0)))) E) h1 K):Qm FT HK (⟨d,.bsl 2 [z0,z1] 0 [],none⟩::r) E h K :=
 Q2 (v:=some (.sc (.slc h.length 0 0 (some 0)))) (h':=h++[.cells [] true 2]) rfl rfl (by simp[Qo,XR,YX,rep]) (hw _ ⟨_,rfl⟩ (.inr ⟨h.length,some 0,[],rfl,Gd _,by simp,by simp[prs],by simp[RoomD]⟩))
theorem UE{bytes:Nat}{s t:SV}{ps ws:List P2}{z2:List SV}(he:Ext h0 h)(ho:OwnD h0 h s ps)(hs:evS E x=some s)(hy:evS E y=some t)(ht:IsD h t ws)(hb:(ps.length+ws.length)*(bytes+1)<=XS)
  (hw:∀ s' h',OwnD h0 h' s' (ps++ws)->Ext h0 h'->Fram h h' s s'->h.length<=h'.length->Qm FT HK r (Qv d (some (.sc s')) E) h' K) :
  Qm FT HK (⟨d,.app 2 bytes z2 x y,none⟩::r) E h K:=by
 obtain⟨s',h',h1,h2,h3,h4,h5⟩:=appDs (bytes:=bytes) he ho hb
 refine Q2 (v:=some (.sc s')) (h':=h') rfl rfl ?_ (hw s' h' h2 h3 h5 h4)
 simp only[Qo,hs,hy,Gl,ez2,srcD ht,h1,Gp]
end
set_option maxHeartbeats 16000000
set_option maxRecDepth 20000
attribute [local irreducible] Qm wA Xp Xo QI Qp QZ QY
def VB(nm:List UInt8)(c e:Int):List UInt8:=(if c≠1∨e=0 then Lib.itoa c else [])++((if e≠0 then nm else [])++(if e≠0/\e≠1 then [94]++Lib.itoa e else []))
def tTx(nm:List UInt8)(i:Nat)(t:Tm):List UInt8:=if t.2<0 then [45]++VB nm (-t.2) t.1 else if 0<i then [43]++VB nm t.2 t.1 else VB nm t.2 t.1
def yi(nm:List UInt8)(ts:List Tm):Nat->List UInt8
 | 0=>[]
 | i+1=>yi nm ts i++tTx nm i (ts.getD i (0,0))
def qx(nm:List UInt8)(p:Pol):List UInt8:=if p.big then [98,105,103] else if p.ts=[] then [48] else yi nm p.ts p.ts.length
theorem y5{nm:List UInt8}{ts:List Tm}{i:Nat}{t:Tm}(h:ts[i]?=some t):yi nm ts (i+1)=yi nm ts i++tTx nm i t:=by
 rw[yi,Ge,h];rfl
theorem JH{x:Int}(h:x.natAbs<=1125899906842624):(Lib.itoa x).length<=22:=by
 have:=Lib.itoa_length_le x (by omega) (by omega)
 omega
theorem Qan{nm:List UInt8}(hn:nm.length<=40){c e:Int}(hc:c.natAbs<=1125899906842624)(he:e.natAbs<=1048576):(VB nm c e).length<=85:=by
 have h1:=JH hc
 have h2:=JH (x:=e) (by omega)
 unfold VB
 rw[Gz,Gz]
 have a:(if c≠1∨e=0 then Lib.itoa c else []).length<=22:=by split;exact h1;exact Gm _
 have b:(if e≠0 then nm else []).length<=40:=by split;exact hn;exact Gm _
 have d:(if e≠0/\e≠1 then [94]++Lib.itoa e else []).length<=23:=by
  split
  ·rw[Gz,Hl];omega
  ·exact Gm _
 omega
theorem QjM{nm:List UInt8}(hn:nm.length<=40){t:Tm}(hc:t.2.natAbs<=1125899906842624)(he:t.1.natAbs<=1048576)(i:Nat):(tTx nm i t).length<=86:=by
 have h1:=Qan hn hc he
 have h2:=Qan hn (c := -t.2) (by omega) he
 unfold tTx
 split
 ·rw[Gz,Hl];omega
 ·split
  ·rw[Gz,Hl];omega
  ·omega
theorem yh{nm:List UInt8}(hn:nm.length<=40){ts:List Tm}(hc:∀ t∈ts,t.2.natAbs<=cM)(he:∀ t∈ts,t.1.natAbs<=eM):∀ i,i<=ts.length->(yi nm ts i).length<=86*i
 | 0,_=>Gd _
 | i+1,h=>by
  obtain⟨t,ht⟩:∃ t,ts[i]?=some t:=⟨_,Ga (by omega)⟩
  have h1:=yh hn hc he i (by omega)
  have h2:=QjM hn (hc t (Gg ht)) (he t (Gg ht)) i
  rw[y5 ht,Gz];omega
theorem QoE(h0:Qa):∀(k n:Nat),n<=k->n<=1125899906842624->∃ v h',Cal FT HKt 45 [.sc (.int .i64 (n:Int))] h0 v h'/\h'=h0/\v = .sc (tb (Lib.decDigits n)):=by
 intro k
 induction k with
 | zero =>
  intro n hn _
  have hn0:n=0:=by omega
  subst hn0
  refine Cal.of (F:=a45) rfl rfl rfl ?_
  rw[Lib.decDigits_one (by decide)]
  repeat' first|apply Qf|apply Qb|apply QC|apply Qn|apply Qs|apply Qe|(apply Qg;first|refine Qk rfl ?_|refine Qi rfl ?_)|(apply Qd;first|refine Qq rfl ?_|refine QA rfl rfl ?_|refine Qu rfl rfl rfl ?_)|(apply Qc;first|refine QhB rfl rfl rfl (by omega) ?_|refine Ql rfl ?_|refine QM rfl rfl (by omega) ?_|refine yK rfl rfl (by omega) ?_|refine Qx rfl rfl (by omega) ?_|refine QF rfl rfl (by omega) ?_)
  exact⟨.inr rfl,rfl,rfl⟩
 | succ k ih =>
  intro n hn hb
  refine Cal.of (F:=a45) rfl rfl rfl ?_
  by_cases h:n<10
  ·rw[Lib.decDigits_one h]
   have e1:((n:Int)%10).toNat=n:=by omega
   repeat' first|apply Qf|apply Qb|apply QC|apply Qn|apply Qs|apply Qe|(apply Qg;first|refine Qk rfl ?_|refine Qi rfl ?_)|(apply Qd;first|refine Qq rfl ?_|refine QA rfl rfl ?_|refine Qu rfl rfl rfl ?_)|(apply Qc;first|refine QhB rfl rfl rfl (by omega) ?_|refine Ql rfl ?_|refine QM rfl rfl (by omega) ?_|refine yK rfl rfl (by omega) ?_|refine Qx rfl rfl (by omega) ?_|refine QF rfl rfl (by omega) ?_)
   exact⟨.inr rfl,rfl,by rw[e1];rfl⟩
  ·rw[Lib.decDigits,dif_neg h]
   have e1:((n:Int)%10).toNat=n%10:=by omega
   have e2:((n/10:Nat):Int)=(n:Int)/10:=by omega
   have k1:=ih (n/10) (by omega) (by omega)
   rw[e2]at k1
   have hl:(Lib.decDigits (n/10)).length<=21:=by
    have:=Lib.itoa_length_le ((n/10:Nat):Int) (by omega) (by omega)
    rwa [Lib.itoa_nonneg]at this
   repeat' first|apply Qf|apply Qb|apply Qn|apply Qs|apply Qe|(apply Qg;refine Qi rfl ?_)|(apply Qd;first|refine Qq rfl ?_|refine QA rfl rfl ?_|refine Qu rfl rfl rfl ?_)|(apply Qc;first|refine QhB rfl rfl rfl (by omega) ?_|(refine Qj rfl k1 ?_;rintro v h1 ⟨rfl,rfl⟩)|refine Vp rfl rfl (by simp only[Hl];omega) ?_|refine Ql rfl ?_|refine QM rfl rfl (by omega) ?_|refine z8 rfl rfl (by omega) ?_|refine yK rfl rfl (by omega) ?_|refine QF rfl rfl (by omega) ?_)
   exact⟨.inr rfl,rfl,by rw[e1];rfl⟩
theorem Qh5(h0:Qa)(x:Int)(hx:0<=x/\x<=1125899906842624):∃ v h',Cal FT HKt 45 [.sc (.int .i64 x)] h0 v h'/\h'=h0/\v = .sc (tb (Lib.itoa x)):=by
 obtain⟨n,rfl⟩:∃ n:Nat,x=n:=⟨x.toNat,by omega⟩
 rw[Lib.itoa_nonneg]
 exact QoE h0 n n (Gd _) (by omega)
theorem Qh6(h0:Qa)(x:Int)(hx:x.natAbs<=1125899906842624):∃ v h',Cal FT HKt 45 [.sc (.int .i64 x)] h0 v h'/\h'=h0/\v = .sc (tb (Lib.itoa x)):=by
 by_cases h:0<=x
 ·exact Qh5 h0 x (by omega)
 ·have k1:=Qh5 h0 (-x) (by omega)
  have hl:=JH (x := -x) (by omega)
  have e:Lib.itoa x=[45]++Lib.itoa (-x):=by
   obtain⟨n,rfl⟩:∃ n:Nat,x = -(n:Int):=⟨x.natAbs,by omega⟩
   rw[Lib.itoa_neg n (by omega),Int.neg_neg,Lib.itoa_nonneg];rfl
  refine Cal.of (F:=a45) rfl rfl rfl ?_
  repeat' first|apply Qf|apply Qb|apply QC|apply Qs|apply Qe|(apply Qg;refine Qk rfl ?_)|(apply Qd;first|refine Qq rfl ?_|refine QA rfl rfl ?_)|(apply Qc;first|(refine Qj rfl k1 ?_;rintro v h1 ⟨rfl,rfl⟩)|refine Vp (show _=some (tb [45]) from rfl) rfl (by simp only[Hl];omega) ?_|refine Ql rfl ?_|refine Z1 rfl (by omega) ?_|refine Qx rfl rfl (by omega) ?_)
  exact⟨.inr rfl,rfl,by rw[e];rfl⟩
def I16(h0:Qa)(q2:Nat)(nm:List UInt8)(ts:List Tm)(E:Env)(h:Qa):Prop:=∃ i:Nat,i<=ts.length/\Ext h0 h ∧
 E.keep [1,2,5,6]=[(1,some (.sc (tb nm))),(2,some (.sc (.ptr q2 0))),(5,some (.sc (tb (yi nm ts i)))),(6,some (.sc (.int .i64 (i:Nat))))]
def R16(h0:Qa)(nm:List UInt8)(ts:List Tm)(ex:Ex)(E:Env)(h:Qa):Prop:=Ext h0 h ∧
 ex = .ex 0/\∃ a b c d,E=[(1,a),(2,b),(5,some (.sc (tb (yi nm ts ts.length)))),(6,c),(19,d)]
theorem Qki(h0:Qa)(q2:Nat)(b:Bool)(s:SV)(nm:List UInt8)(hn:nm.length<=40)(ts:List Tm)(hs:IsD h0 s (tms ts))(c2:Cel h0 q2 s (.bool b))(hl:ts.length<=1000)(hc:∀ t∈ts,t.2.natAbs<=cM)(he:∀ t∈ts,t.1.natAbs<=eM)(E:Env)(h:Qa)(hI:I16 h0 q2 nm ts E h) :
  wA FT HKt Qmz (E.keep [1,2,5,6]) h (QI (I16 h0 q2 nm ts) (cK [1,2,5,6] ts.length 6) (cK [1,2,5,6] ts.length 6 E h) (R16 h0 nm ts)):=by
 obtain⟨i,hi,e0,hE⟩:=hI
 have hm:cK [1,2,5,6] ts.length 6 E h=ts.length-i:=by unfold cK;rw[hE];rfl
 rw[hm,hE]
 have ls:=hs.len
 rw[Q6]at ls
 have d2:=c2.ext e0
 by_cases hlt:i<ts.length
 ·obtain⟨t,ht⟩:∃ t,ts[i]?=some t:=⟨_,Ga hlt⟩
  obtain⟨id,off,cap,e1,r0⟩:=hs.at (i:=i) (p:=tmP t) (by simp[ht])
  rw[Q6]at e1
  subst e1
  have r1:=Qw e0 r0
  have hc1:t.2.natAbs<=1125899906842624:=hc t (Gg ht)
  have he1:t.1.natAbs<=1048576:=he t (Gg ht)
  have l1:=yh hn hc he i hi
  have l2:=JH hc1
  have l3:=JH (x:=t.1) (by omega)
  have l4:=JH (x := -t.2) (by omega)
  have hst:=y5 (nm:=nm) ht
  have fin:∀ h2 L,Ext h0 h2->L=yi nm ts (i+1)->I16 h0 q2 nm ts [(1,some (.sc (tb nm))),(2,some (.sc (.ptr q2 0))),(5,some (.sc (tb L))),(6,some (.sc (.int .i64 ((i:Nat)+1))))] h2:=fun h2 L e2 eL=>⟨i+1,by omega,e2,by rw[eL];rfl⟩
  repeat' first|apply Qf|apply Qb|apply Qt|apply QL|apply Qn|apply Qe|(apply Qg;first|refine Qk rfl ?_|refine Qi rfl ?_)|(apply Qd;first|refine QG rfl rfl rfl rfl ?_|refine QO rfl rfl rfl rfl rfl ?_|refine QE rfl rfl rfl rfl rfl rfl ?_|refine Q4 rfl rfl rfl rfl rfl rfl rfl ?_)|(apply Qc;first|refine QW rfl ?_|refine QN rfl d2 ?_|refine Qr rfl ls ?_|refine Qy (esz:=2) rfl rfl (by omega) ?_|refine XH rfl r1 ?_|(refine X2 rfl ?_;intro h1 e2 c7)|refine QH rfl c7 ?_|refine QN rfl c7 ?_|refine Vp rfl (show _=some (tb [45]) from rfl) (by simp only[Gz,Gu,GC];omega) ?_|refine Vp rfl (show _=some (tb [43]) from rfl) (by simp only[Gz,Gu,GC];omega) ?_|refine Vp rfl (show _=some (tb [94]) from rfl) (by simp only[Gz,Gu,GC];omega) ?_|refine Vp rfl rfl (by omega) ?_|refine Vp rfl rfl (by simp only[Gz,Gu,GC];omega) ?_|(refine Qj rfl (Qh6 _ t.1 (by omega)) ?_;rintro v _ ⟨rfl,rfl⟩)|(refine Qj rfl (Qh6 _ t.2 (by omega)) ?_;rintro v _ ⟨rfl,rfl⟩)|(refine Qj rfl (Qh6 _ (-t.2) (by omega)) ?_;rintro v _ ⟨rfl,rfl⟩)|refine Xd rfl ?_|refine QP rfl ?_|refine Ql rfl ?_|refine QR rfl rfl ?_|refine QJ rfl rfl ?_|refine QM rfl rfl (by omega) ?_|refine Z1 rfl (by omega) ?_|refine Qx rfl rfl (by omega) ?_|refine Vm rfl rfl (fun hc=>?_) (fun hc=>?_)|refine Vn rfl rfl (fun hc=>?_) (fun hc=>?_)|refine Vo rfl rfl (fun hc=>?_) (fun hc=>?_)|refine Ya rfl rfl (by omega) ?_|refine XJ rfl rfl (by omega) ?_|refine Vl rfl rfl (fun hc=>?_) (fun hc=>?_))
  all_goals refine Xr (fin _ _ (e0.trans e2) ?_) (by simp[cK,Env.keep,Env.get];omega)
  all_goals (rw[hst];unfold tTx VB;repeat first|rw[if_pos (by omega)]|rw[if_neg (by omega)])
  all_goals simp only[GK,Hk,List.nil_append]
 ·have:i=ts.length:=by omega
  subst this
  repeat' first|apply Qf|apply Qb|apply QS|apply QQ|apply Qe|(apply Qg;refine Qi rfl ?_)|(apply Qd;refine QO rfl rfl rfl rfl rfl ?_)|(apply Qc;first|refine QW rfl ?_|refine QN rfl d2 ?_|refine Qr rfl ls ?_|refine Ql rfl ?_|refine QF rfl rfl (by omega) ?_)
  exact XI ⟨e0,rfl,_,_,_,_,rfl⟩
theorem QoQ(h0:Qa)(b:Bool)(s:SV)(nm:List UInt8)(hn:nm.length<=40)(p:Pol)(hb:p.big=b)(hs:IsD h0 s (tms p.ts))(hl:p.ts.length<=1000)(hc:∀ t∈p.ts,t.2.natAbs<=cM)(he:∀ t∈p.ts,t.1.natAbs<=eM) :
  ∃ r h',Cal FT HKt 16 [.agg [s,.bool b],.sc (tb nm)] h0 r h'/\Ext h0 h'/\r = .sc (tb (qx nm p)):=by
 refine Cal.of (F:=a16) rfl rfl rfl ?_
 have ls:=hs.len
 rw[Q6]at ls
 cases b with
 | true =>
  have e:qx nm p=[98,105,103]:=by unfold qx;rw[if_pos hb]
  repeat' first|apply Qf|apply Qb|apply QC|apply Qs|apply Qe|(apply Qg;refine Qk rfl ?_)|(apply Qd;first|refine Qq rfl ?_|refine QA rfl rfl ?_|refine Qu rfl rfl rfl ?_)|(apply Qc;first|(refine QD rfl ?_;intro h1 e1 c1)|refine QW rfl ?_|refine QH rfl c1 ?_|refine Ql rfl ?_)
  exact⟨.inr rfl,e1,by rw[e];rfl⟩
 | false =>
  by_cases hz:p.ts=[]
  ·have e:qx nm p=[48]:=by unfold qx;rw[if_neg (by rw[hb];decide),if_pos hz]
   rw[hz,GC]at ls
   repeat' first|apply Qf|apply Qb|apply QC|apply Qn|apply Qs|apply Qe|(apply Qg;first|refine Qk rfl ?_|refine Qi rfl ?_)|(apply Qd;first|refine Qq rfl ?_|refine QA rfl rfl ?_|refine Qu rfl rfl rfl ?_)|(apply Qc;first|(refine QD rfl ?_;intro h1 e1 c1)|refine QW rfl ?_|refine QH rfl c1 ?_|refine QN rfl c1 ?_|refine Qr rfl ls ?_|refine Ql rfl ?_|refine Xu rfl rfl (by omega) ?_)
   exact⟨.inr rfl,e1,by rw[e];rfl⟩
  ·have e:qx nm p=yi nm p.ts p.ts.length:=by unfold qx;rw[if_neg (by rw[hb];decide),if_neg hz]
   have hp:0<p.ts.length:=GU.2 hz
   repeat' first|apply Qf|apply Qb|apply Qt|apply Qn|apply Qe|(apply Qg;refine Qi rfl ?_)|(apply Qd;first|refine QA rfl rfl ?_|refine Qu rfl rfl rfl ?_|refine QG rfl rfl rfl rfl ?_)|(apply Qc;first|(refine QD rfl ?_;intro h1 e1 c1)|refine QW rfl ?_|refine QH rfl c1 ?_|refine QN rfl c1 ?_|refine Qr rfl ls ?_|refine Ql rfl ?_|refine Xl rfl rfl (by omega) ?_)
   refine YQ (I16 h1 h0.length nm p.ts) (cK [1,2,5,6] p.ts.length 6) (R16 h1 nm p.ts) ⟨0,Gm _,Ext.refl _,rfl⟩ (Qki h1 h0.length false s nm hn p.ts (hs.ext e1) c1 hl hc he) ?_
   rintro ex E' h2 ⟨e2,rfl,_,_,_,_,rfl⟩
   repeat' first|apply Qf|apply Qb|apply QK|apply Qs|apply Qe|(apply Qd;refine Qq rfl ?_)|(apply Qc;refine Ql rfl ?_)
   exact⟨.inr rfl,e1.trans e2,by rw[e];rfl⟩
end Go.Proofs.YtofknpknogfijaaGreatDoor
namespace Go.Proofs.YtofknpknogfijaaGreatDoor
open Go.Ab
set_option linter.all false
set_option maxHeartbeats 16000000
set_option maxRecDepth 20000
attribute [local irreducible] Qm wA Xp Xo QI Qp QZ
variable [HB]
abbrev WV(a b:Int):AV := .agg [.int .i64 a,.int .i64 b]
def I112(h0:Qa)(q1 q2:Nat)(H L:Int)(k:Nat)(E:Env)(h:Qa):Prop:=∃ a b:Int,a*1125899906842624+b=H*1125899906842624+L/\a<=H/\H<=a+1000-k/\b<=1152921504606846976 ∧ -1125899906842624*k<=b/\Ext h0 h/\Cel h q1 (.int .i64 a) (.int .i64 b)/\Cel h q2 (.int .i64 0) (.int .i64 0) ∧
 E.keep [1,2]=[(1,some (.sc (.ptr q1 0))),(2,some (.sc (.ptr q2 0)))]
def R112(h0:Qa)(q1 q2:Nat)(H L:Int)(ex:Ex)(E:Env)(h:Qa):Prop:=ex = .ex 0/\∃ a b:Int,∃ d,a*1125899906842624+b=H*1125899906842624+L/\a<=H/\H<=a+1000/\0<=b/\b<=1152921504606846976/\Ext h0 h/\Cel h q1 (.int .i64 a) (.int .i64 b)/\Cel h q2 (.int .i64 0) (.int .i64 0) ∧
 E=[(1,some (.sc (.ptr q1 0))),(2,some (.sc (.ptr q2 0))),(5,d)]
theorem QgS(h0:Qa)(q1 q2:Nat)(l1:h0.length<=q1)(l2:q1<q2)(H L:Int)(hH : -1152921504606846976<=H/\H<=1152921504606846976)(k:Nat)(E:Env)(h:Qa)(hI:I112 h0 q1 q2 H L k E h) :
  wA FT HKt QiE (E.keep [1,2]) h (Qp (I112 h0 q1 q2 H L) k (R112 h0 q1 q2 H L)):=by
 obtain⟨a,b,he,ha,ha2,hb,hb2,e,c1,c2,hE⟩:=hI
 rw[hE]
 by_cases hlt:b<0
 ·repeat' first|apply Qf|apply Qb|apply Qt|apply QL|apply Qn|apply Qe|(apply Qg;refine Qk rfl ?_)|(apply Qd;first|refine QA rfl rfl ?_|refine Qu rfl rfl rfl ?_)|(apply Qc;first|refine QW rfl ?_|refine QH rfl c1 ?_|refine QN rfl c1 ?_|(refine JD rfl rfl c1 ?_;intro h1 w1;have c1':=w1.cel;have c2':=w1.keep c2 (by omega))|(refine Vi rfl rfl c1' ?_;intro h2 w2)|refine QM rfl rfl (by omega) ?_|refine Jj rfl rfl (by omega) ?_|refine Qx rfl rfl (by omega) ?_)
  exact Qz (j:=k-1) (by omega) ⟨a-1,b+1125899906842624,by omega,by omega,by omega,by omega,by omega,w2.ext (w1.ext e l1) l1,w2.cel,w2.keep c2' (by omega),rfl⟩
 ·repeat' first|apply Qf|apply Qb|apply QS|apply QQ|apply Qe|(apply Qg;refine Qi rfl ?_)|(apply Qd;refine Qu rfl rfl rfl ?_)|(apply Qc;first|refine QW rfl ?_|refine QH rfl c1 ?_|refine QF rfl rfl (by omega) ?_)
  exact QB ⟨rfl,a,b,_,he,ha,by omega,by omega,hb,e,c1,c2,rfl⟩
theorem QeO(h0:Qa)(H L:Int)(hH : -1125899906842624000<=H/\H<=1125899906842624000)(hL : -1125899906842624000<=L/\L<=1125899906842624000) :
  ∃ r h',Cal FT HKt 112 [WV H L] h0 r h'/\Ext h0 h'/\r=WV (H+L/1125899906842624) (L%1125899906842624):=by
 refine Cal.of (F:=a112) rfl rfl rfl ?_
 repeat' first|apply Qf|apply Qb|apply Qt|apply Qe|(apply Qd;refine QA rfl rfl ?_)|(apply Qc;first|(have z:=e1;apply Xa;intro h2 e2 c2;have d1:=c1.ext e2;have m1:=c1.lt)|(refine QD rfl ?_;intro h1 e1 c1))
 refine QV (I112 h0 h0.length h1.length H L) 1000 (R112 h0 h0.length h1.length H L) ⟨H,L,rfl,by omega,by omega,by omega,by omega,e1.trans e2,d1,c2,rfl⟩ (QgS h0 h0.length h1.length (Gd _) m1 H L (by omega)) ?_
 rintro ex E' h3 ⟨rfl,a,b,d,he,ha,ha2,hb,hb2,e3,c3,d3,rfl⟩
 repeat' first|apply Qf|apply Qb|apply QK|apply Qs|apply Qe|(apply Qd;first|refine Qq rfl ?_|refine QA rfl rfl ?_)|(apply Qc;first|refine QW rfl ?_|refine QH rfl c3 ?_|refine QN rfl c3 ?_|refine QU rfl c5 ?_|(refine Vi rfl rfl c3 ?_;intro h4 w4;have c4:=w4.cel;have d4:=w4.keep d3 (by omega))|(refine JD rfl rfl c4 ?_;intro h5 w5;have c5:=w5.cel;have d5:=w5.keep d4 (by omega))|(refine Xg rfl rfl d5 ?_;intro h6 w6)|refine QM rfl rfl (by omega) ?_|refine z8 rfl rfl (by omega) ?_|refine yK rfl rfl (by omega) ?_)
 refine⟨.inr rfl,Xc rfl w6.cel.read ⟨w6.ext (w5.ext (w4.ext e3 (Gd _)) (Gd _)) (by omega),?_⟩⟩
 rw[show H+L/1125899906842624=a+b/1125899906842624 by omega,show L%1125899906842624=b%1125899906842624 by omega]
theorem Qlc(h0:Qa)(a b c d:Int)(ha:a.natAbs<=500000000000000000)(hc:c.natAbs<=500000000000000000)(hb:0<=b/\b<1125899906842624)(hd:0<=d/\d<1125899906842624) :
  ∃ r h',Cal FT HKt 111 [WV a b,WV c d] h0 r h'/\Ext h0 h'/\r=WV (a+c+(b+d)/1125899906842624) ((b+d)%1125899906842624):=by
 refine Cal.of (F:=a111) rfl rfl rfl ?_
 have k95:=fun H=>QeO H (a+c) (b+d) (by omega) (by omega)
 repeat' first|apply Qf|apply Qb|apply Qs|apply Qe|(apply Qd;first|refine Qq rfl ?_|refine Qu rfl rfl rfl ?_)|(apply Qc;first|(have z:=e2;apply Xa;intro h3 e3 c3;have d1:=(c1.ext e2).ext e3;have d2:=c2.ext e3)|(have z:=e1;refine QD rfl ?_;intro h2 e2 c2)|(refine QD rfl ?_;intro h1 e1 c1)|refine QW rfl ?_|refine QN rfl d1 ?_|refine QN rfl d2 ?_|refine QH rfl d1 ?_|refine QH rfl d2 ?_|(refine Xz rfl rfl ?_)|(refine Qj rfl (k95 h3) ?_;rintro r h4 ⟨e4,rfl⟩;have d3:=c3.ext e4)|(refine Xg rfl rfl d3 ?_;intro h5 w5)|refine QM rfl rfl (by omega) ?_)
 exact⟨.inr rfl,Xc rfl w5.cel.read ⟨w5.ext (e1.trans (e2.trans (e3.trans e4))) (Gq e1.len e2.len),rfl⟩⟩
theorem nab{x:Int}:x.natAbs<=cM ↔ -1125899906842624<=x/\x<=1125899906842624:=by simp only[cM];omega
theorem QeN(h0:Qa)(a b:Int)(hb:0<=b/\b<1125899906842624) :
  ∃ r h',Cal FT HKt 113 [WV a b] h0 r h'/\Ext h0 h'/\∃ n:Int,∃ ok:Bool,r = .tup [.sc (.int .i64 n),.sc (.bool ok)]/\(ok=true↔(a*1125899906842624+b).natAbs<=cM)/\(ok=true->n=a*1125899906842624+b):=by
 refine Cal.of (F:=a113) rfl rfl rfl ?_
 by_cases h1:a < -2
 ·repeat' first|apply Qf|apply Qb|apply QC|apply Qs|apply Qe|(apply Qg;refine Qk rfl ?_)|(apply Qd;first|refine Qq rfl ?_|refine QA rfl rfl ?_)|(apply Qc;first|(refine QD rfl ?_;intro h1 e1 c1)|refine QW rfl ?_|refine QN rfl c1 ?_|refine Xd rfl ?_|refine Ql rfl ?_|refine QR rfl rfl ?_|refine Qx rfl rfl (by omega) ?_)
  exact⟨.inr rfl,e1,0,false,rfl,⟨(nomatch ·),fun h=>by have:=nab.1 h;omega⟩,by simp⟩
 by_cases h2:2<a
 ·repeat' first|apply Qf|apply Qb|apply QC|apply Qs|apply Qe|(apply Qg;refine Qk rfl ?_)|(apply Qd;first|refine Qq rfl ?_|refine QA rfl rfl ?_)|(apply Qc;first|(refine QD rfl ?_;intro h1 e1 c1)|refine QW rfl ?_|refine QN rfl c1 ?_|refine QP rfl ?_|refine Ql rfl ?_|refine QJ rfl rfl ?_|refine QF rfl rfl (by omega) ?_|refine XK rfl rfl (by omega) ?_)
  exact⟨.inr rfl,e1,0,false,rfl,⟨(nomatch ·),fun h=>by have:=nab.1 h;omega⟩,by simp⟩
 by_cases h3 : -1125899906842624<=a*1125899906842624+b
 ·by_cases h4:a*1125899906842624+b<=1125899906842624
  ·repeat' first|apply Qf|apply Qb|apply Qn|apply Qs|apply Qe|(apply Qg;refine Qi rfl ?_)|(apply Qd;first|refine Qq rfl ?_|refine QA rfl rfl ?_)|(apply Qc;first|(refine QD rfl ?_;intro h1 e1 c1)|refine QW rfl ?_|refine QN rfl c1 ?_|refine QH rfl c1 ?_|refine QP rfl ?_|refine Ql rfl ?_|refine QR rfl rfl ?_|refine QJ rfl rfl ?_|refine QM rfl rfl (by omega) ?_|refine JR rfl rfl (by omega) ?_|refine QF rfl rfl (by omega) ?_|refine J3 rfl rfl (by omega) ?_|refine XD rfl rfl (by omega) ?_|refine Ye rfl rfl (by omega) ?_)
   exact⟨.inr rfl,e1,_,true,rfl,⟨fun _=>nab.2 (by omega),fun _=>rfl⟩,fun _=>rfl⟩
  ·repeat' first|apply Qf|apply Qb|apply Qn|apply Qs|apply Qe|(apply Qg;refine Qi rfl ?_)|(apply Qd;first|refine Qq rfl ?_|refine QA rfl rfl ?_)|(apply Qc;first|(refine QD rfl ?_;intro h1 e1 c1)|refine QW rfl ?_|refine QN rfl c1 ?_|refine QH rfl c1 ?_|refine QP rfl ?_|refine Ql rfl ?_|refine QR rfl rfl ?_|refine QJ rfl rfl ?_|refine QM rfl rfl (by omega) ?_|refine JR rfl rfl (by omega) ?_|refine QF rfl rfl (by omega) ?_|refine JF rfl rfl (by omega) ?_|refine XD rfl rfl (by omega) ?_|refine Ye rfl rfl (by omega) ?_)
   exact⟨.inr rfl,e1,_,false,rfl,⟨(nomatch ·),fun h=>by have:=nab.1 h;omega⟩,by simp⟩
 ·repeat' first|apply Qf|apply Qb|apply Qn|apply Qs|apply Qe|(apply Qg;refine Qi rfl ?_)|(apply Qd;first|refine Qq rfl ?_|refine QA rfl rfl ?_)|(apply Qc;first|(refine QD rfl ?_;intro h1 e1 c1)|refine QW rfl ?_|refine QN rfl c1 ?_|refine QH rfl c1 ?_|refine Xd rfl ?_|refine QP rfl ?_|refine Ql rfl ?_|refine QJ rfl rfl ?_|refine QM rfl rfl (by omega) ?_|refine JR rfl rfl (by omega) ?_|refine QF rfl rfl (by omega) ?_|refine XD rfl rfl (by omega) ?_|refine X6 rfl rfl (by omega) ?_)
  exact⟨.inr rfl,e1,_,false,rfl,⟨(nomatch ·),fun h=>by have:=nab.1 h;omega⟩,by simp⟩
abbrev nh(x:Int):SV := .int .i64 (x/1125899906842624)
abbrev nl(x:Int):SV := .int .i64 (x%1125899906842624)
abbrev nf(x:Int):AV := .agg [nh x,nl x]
theorem VA(h0:Qa)(x y:Int)(hx:x.natAbs<=2^105)(hy:y.natAbs<=2^105):∃ r h',Cal FT HKt 111 [nf x,nf y] h0 r h'/\Ext h0 h'/\r=nf (x+y):=by
 obtain⟨r,h',a,b,rfl⟩:=Qlc h0 (x/1125899906842624) (x%1125899906842624) (y/1125899906842624) (y%1125899906842624) (by omega) (by omega) (by omega) (by omega)
 refine⟨_,h',a,b,?_⟩
 rw[show x/1125899906842624+y/1125899906842624+(x%1125899906842624+y%1125899906842624)/1125899906842624=(x+y)/1125899906842624 by omega,show (x%1125899906842624+y%1125899906842624)%1125899906842624=(x+y)%1125899906842624 by omega]
def I81b(h0:Qa)(q4 q6 q9:Nat)(A b sg:Int)(s:Nat)(x p:Int)(k:Nat)(E:Env)(h:Qa):Prop:=∃ i:Nat,i<=s/\k=s-i/\Ext h0 h/\Cel h q4 (.int .i64 0) (.int .i64 0)/\Cel h q6 (nh x) (nl x)/\Cel h q9 (nh (p*2^i)) (nl (p*2^i)) ∧
 E.keep [0,1,4,5,6,7,9,10]=[(0,some (.sc (.int .i64 A))),(1,some (.sc (.int .i64 b))),(4,some (.sc (.ptr q4 0))),(5,some (.sc (.int .i64 sg))),(6,some (.sc (.ptr q6 0))),(7,some (.sc (.int .i64 (s:Nat)))),(9,some (.sc (.ptr q9 0))),(10,some (.sc (.int .i64 (i:Nat))))]
def R81b(h0:Qa)(q4 q6 q9:Nat)(A b sg:Int)(s:Nat)(x p:Int)(ex:Ex)(E:Env)(h:Qa):Prop:=ex = .ex 2/\∃ a d,Ext h0 h/\Cel h q4 (.int .i64 0) (.int .i64 0)/\Cel h q6 (nh x) (nl x)/\Cel h q9 (nh (p*2^s)) (nl (p*2^s)) ∧
 E=[(0,some (.sc (.int .i64 A))),(1,some (.sc (.int .i64 b))),(4,some (.sc (.ptr q4 0))),(5,some (.sc (.int .i64 sg))),(6,some (.sc (.ptr q6 0))),(7,some (.sc (.int .i64 (s:Nat)))),(9,some (.sc (.ptr q9 0))),(10,a),(41,d)]
theorem Qgs(h0:Qa)(q4 q6 q9:Nat)(l4:h0.length<=q4)(l6:q4<q6)(l9:q6<q9)(A b sg:Int)(s:Nat)(hs:s<=60)(x p:Int)(hp:p.natAbs*2^s<=2^100)(k:Nat)(E:Env)(h:Qa)(hI:I81b h0 q4 q6 q9 A b sg s x p k E h) :
  wA FT HKt QlZ (E.keep [0,1,4,5,6,7,9,10]) h (Qp (I81b h0 q4 q6 q9 A b sg s x p) k (R81b h0 q4 q6 q9 A b sg s x p)):=by
 obtain⟨i,hi,rfl,e,c4,c6,c9,hE⟩:=hI
 rw[hE]
 by_cases hlt:i<s
 ·have hx:(p*2^i).natAbs<=2^105:=by
   rw[Hu,Int.natAbs_pow]
   have h1:p.natAbs*2^i<=p.natAbs*2^s:=Nat.mul_le_mul_left _ (GN (by omega) hi)
   have h2:(2:Int).natAbs=2:=rfl
   rw[h2];omega
  have k94:=fun H=>VA H (p*2^i) (p*2^i) hx hx
  have hp2:p*2^i+p*2^i=p*2^(i+1):=by rw[Int.pow_succ,← G5];omega
  rw[hp2]at k94
  repeat' first|apply Qf|apply Qb|apply Qt|apply QL|apply Qn|apply Qe|(apply Qg;refine Qk rfl ?_)|(apply Qd;first|refine Xh rfl rfl rfl rfl rfl rfl rfl rfl ?_|refine Q9 rfl rfl rfl rfl rfl rfl rfl rfl rfl ?_)|(apply Qc;first|refine QU rfl c9 ?_|(refine Qj rfl (k94 h) ?_;rintro r h1 ⟨e1,rfl⟩;have d9:=c9.ext e1)|(refine Xg rfl rfl d9 ?_;intro h2 w2)|refine Ql rfl ?_|refine QM rfl rfl (by omega) ?_|refine Qx rfl rfl (by omega) ?_)
  exact Qz (j:=s-(i+1)) (by omega) ⟨i+1,by omega,rfl,w2.ext (e.trans e1) (by omega),w2.keep (c4.ext e1) (by omega),w2.keep (c6.ext e1) (by omega),w2.cel,rfl⟩
 ·have:i=s:=by omega
  subst this
  repeat' first|apply Qf|apply Qb|apply QS|apply QQ|apply Qe|(apply Qg;refine Qi rfl ?_)|(apply Qd;refine Q9 rfl rfl rfl rfl rfl rfl rfl rfl rfl ?_)|(apply Qc;first|refine Ql rfl ?_|refine QF rfl rfl (by omega) ?_)
  exact QB ⟨rfl,_,_,e,c4,c6,c9,rfl⟩
def I81(h0:Qa)(q4 q6:Nat)(A:Nat)(b sg:Int)(k:Nat)(E:Env)(h:Qa):Prop:=∃ s:Nat,s<=60/\k=60-s/\s%10=0/\Ext h0 h/\Cel h q4 (.int .i64 0) (.int .i64 0)/\Cel h q6 (nh (sg*(A%2^s:Nat)*b)) (nl (sg*(A%2^s:Nat)*b)) ∧
 E.keep [0,1,4,5,6,7]=[(0,some (.sc (.int .i64 (A:Nat)))),(1,some (.sc (.int .i64 b))),(4,some (.sc (.ptr q4 0))),(5,some (.sc (.int .i64 sg))),(6,some (.sc (.ptr q6 0))),(7,some (.sc (.int .i64 (s:Nat))))]
def R81(h0:Qa)(q4 q6:Nat)(A:Nat)(b sg:Int)(ex:Ex)(E:Env)(h:Qa):Prop:=ex = .ex 0/\∃ a0 a1 a5 a7 d,Ext h0 h/\Cel h q4 (.int .i64 0) (.int .i64 0)/\Cel h q6 (nh (sg*A*b)) (nl (sg*A*b)) ∧
 E=[(0,a0),(1,a1),(4,some (.sc (.ptr q4 0))),(5,a5),(6,some (.sc (.ptr q6 0))),(7,a7),(17,d)]
theorem pc_tm(p:Int):p.tmod 1125899906842624+1125899906842624*p.tdiv 1125899906842624=p ∧ -1125899906842624<p.tmod 1125899906842624/\p.tmod 1125899906842624<1125899906842624 :=
 ⟨Int.tmod_add_mul_tdiv p _,by have:=Int.lt_tmod_of_pos p (b:=1125899906842624) (by decide);omega,Int.tmod_lt_of_pos p (by decide)⟩
theorem QdS(h0:Qa)(q4 q6:Nat)(l4:h0.length<=q4)(l6:q4<q6)(A:Nat)(hA:A<=1125899906842624)(b sg:Int)(hb:b.natAbs<=1125899906842624)(hsg:sg=1∨sg = -1)(k:Nat)(E:Env)(h:Qa)(hI:I81 h0 q4 q6 A b sg k E h) :
  wA FT HKt Ql0 (E.keep [0,1,4,5,6,7]) h (Qp (I81 h0 q4 q6 A b sg) k (R81 h0 q4 q6 A b sg)):=by
 obtain⟨s,hs,rfl,hs10,e,c4,c6,hE⟩:=hI
 rw[hE]
 by_cases hlt:s<60
 ·have hshr:(A:Int).fdiv (2^(min (s:Int).toNat IntKind.u64.bits))=((A/2^s:Nat):Int):=by
   rw[show min (s:Int).toNat IntKind.u64.bits=s by show min s 64=s;omega,Int.fdiv_eq_ediv_of_nonneg _ (by exact Int.le_of_lt (Int.pow_pos (by decide)))]
   simp
  have hshr2:(A:Int).fdiv (2^(min (s:Int).toNat IntKind.i64.bits))=((A/2^s:Nat):Int):=hshr
  have hd1:A/2^s%1024<=1023:=by omega
  have hd2:A/2^s%1024*2^s<=A:=Gq (GF _ (Nat.mod_le _ _)) (Nat.div_mul_le_self _ _)
  have hmod:A%2^(s+10)=A%2^s+2^s*(A/2^s%1024):=by
   rw[Nat.pow_add];exact Nat.mod_mul
  have hml:A%2^s<=A:=Nat.mod_le _ _
  have hcast:((A/2^s:Nat):Int)%1024=((A/2^s%1024:Nat):Int):=by simp
  generalize hG:A/2^s%1024=g at *
  have hge:0<=((A/2^s:Nat):Int):=Int.natCast_nonneg _
  have hsum:(sg*(A%2^s:Nat)*b).natAbs<=2^100:=by
   rw[Hu,Hu,show sg.natAbs=1 by omega,Nat.one_mul,Int.natAbs_natCast]
   exact Gq (Hj (Gq hml hA) hb) (by decide)
  have hsgd:sg*(g:Nat)<=1023 ∧ -1023<=sg*(g:Nat):=by rcases hsg with rfl|rfl <;> omega
  have hpn:(sg*(g:Nat)*b).natAbs=g*b.natAbs:=by rw[Hu,Hu,show sg.natAbs=1 by omega,Nat.one_mul,Int.natAbs_natCast]
  have hp0:g*b.natAbs<=1023*1125899906842624:=Hj hd1 hb
  have hp1:(sg*(g:Nat)*b).natAbs*2^s<=2^100:=by
   rw[hpn,Nat.mul_right_comm]
   exact Gq (Hj (Gq hd2 hA) hb) (by decide)
  have hnew:sg*(A%2^s:Nat)*b+sg*(g:Nat)*b*2^s=sg*(A%2^(s+10):Nat)*b:=by
   rw[hmod,Int.natCast_add,GZ,Int.mul_add,Hv]
   have:((2^s:Nat):Int)=2^s:=by simp
   rw[this]
   congr 1
   rw[G5,Hr b,← G5,G5 sg,Hr (g:Int)]
  generalize hP:sg*(g:Nat)*b=p at *
  generalize hX:sg*(A%2^s:Nat)*b=x at *
  have hp2:p.natAbs<=1023*1125899906842624:=by omega
  obtain⟨t1,t2,t3⟩:=pc_tm p
  have k95:=fun H=>QeO H 0 (p.tmod 1125899906842624) (by omega) (by omega)
  rw[show (p.tmod 1125899906842624)%1125899906842624=p%1125899906842624 by omega]at k95
  have hhigh:0+p.tmod 1125899906842624/1125899906842624+p.tdiv 1125899906842624=p/1125899906842624:=by omega
  repeat' first|apply Qf|apply Qb|apply Qt|apply Qn|apply Qe|(apply Qg;refine Qk rfl ?_)|(apply Qd;first|refine Q4 rfl rfl rfl rfl rfl rfl rfl ?_|refine Xh rfl rfl rfl rfl rfl rfl rfl rfl ?_)|(apply Qc;first|refine Ua rfl (by omega) ?_|refine QlQ rfl rfl (by omega) hshr2 ?_|(refine yK rfl rfl (by omega) ?_;rw[hcast])|refine QnS rfl rfl (by decide) ?_|(refine JR rfl rfl (by omega) ?_;try rw[hP])|(refine Xz rfl rfl ?_)|(refine Qj rfl (k95 h) ?_;rintro r h1 ⟨e1,rfl⟩;have d4:=c4.ext e1;have d6:=c6.ext e1)|(have z:=e1;refine X2 rfl ?_;intro h2 e2 c9;have f4:=d4.ext e2;have f6:=d6.ext e2;have m6:=d6.lt)|refine QW rfl ?_|refine QN rfl c9 ?_|refine QnT rfl rfl (by omega) ?_|(refine QM rfl rfl (by omega) ?_;rw[hhigh])|(refine Vi rfl rfl c9 ?_;intro h3 w3;have g9:=w3.cel;have g4:=w3.keep f4 (by omega);have g6:=w3.keep f6 (by omega))|refine Ql rfl ?_|refine Qx rfl rfl (by omega) ?_)
  have k94:=fun H=>VA H x (p*2^s) (by omega) (by rw[Hu,Int.natAbs_pow];exact Gq hp1 (by decide))
  rw[hnew]at k94
  have l1:h0.length<=h1.length:=(e.trans e1).len
  refine QV (I81b h0 q4 q6 h1.length A b sg s x p) s (R81b h0 q4 q6 h1.length A b sg s x p) ⟨0,Gm _,rfl,w3.ext (e.trans (e1.trans e2)) l1,g4,g6,by rw[Int.pow_zero,Int.mul_one];exact g9,rfl⟩ (Qgs h0 q4 q6 h1.length l4 l6 m6 A b sg s hs x p hp1) ?_
  rintro ex E' h4 ⟨rfl,a,d,e4,u4,u6,u9,rfl⟩
  repeat' first|apply Qb|apply QL|apply QK|apply Qe|(apply Qd;refine QE rfl rfl rfl rfl rfl rfl ?_)|(apply Qc;first|refine QU rfl u6 ?_|refine QU rfl u9 ?_|(refine Qj rfl (k94 h4) ?_;rintro r h5 ⟨e5,rfl⟩;have v4:=u4.ext e5;have v6:=u6.ext e5)|(refine Xg rfl rfl v6 ?_;intro h6 w6)|refine Ql rfl ?_|refine QM rfl rfl (by omega) ?_)
  exact Qz (j:=60-(s+10)) (by omega) ⟨s+10,by omega,rfl,by omega,w6.ext (e4.trans e5) (by omega),w6.keep v4 (by omega),w6.cel,rfl⟩
 ·have:s=60:=by omega
  subst this
  repeat' first|apply Qf|apply Qb|apply QS|apply QQ|apply Qe|(apply Qg;refine Qi rfl ?_)|(apply Qd;refine Q4 rfl rfl rfl rfl rfl rfl rfl ?_)|(apply Qc;first|refine Ql rfl ?_|refine QF rfl rfl (by omega) ?_)
  rw[show A%2^60=A from HE (by omega)]at c6
  exact QB ⟨rfl,_,_,_,_,_,e,c4,c6,rfl⟩
theorem Qdk(h0:Qa)(a b:Int)(ha:a.natAbs<=cM)(hb:b.natAbs<=cM):∃ r h',Cal FT HKt 81 [.sc (.int .i64 a),.sc (.int .i64 b)] h0 r h'/\Ext h0 h'/\r=nf (a*b):=by
 simp only[cM]at ha hb
 refine Cal.of (F:=a81) rfl rfl rfl ?_
 by_cases hn:a<0
 ·have hneg : -a=((a.natAbs:Nat):Int):=by omega
  have hfin:(-1:Int)*(a.natAbs:Nat)*b=a*b:=by rw[show (-1:Int)*(a.natAbs:Nat)=a by omega]
  repeat' first|apply Qf|apply Qb|apply Qt|apply Qe|(apply Qg;refine Qk rfl ?_)|(apply Qd;first|refine Qu rfl rfl rfl ?_|refine QG rfl rfl rfl rfl ?_|refine QO rfl rfl rfl rfl rfl ?_|refine QE rfl rfl rfl rfl rfl rfl ?_)|(apply Qc;first|(have z:=e1;refine X2 rfl ?_;intro h2 e2 c6;have d4:=c4.ext e2;have m4:=c4.lt)|(apply Xa;intro h1 e1 c4)|(refine Z1 rfl (by omega) ?_;rw[hneg])|(refine Xz rfl rfl ?_)|refine Ql rfl ?_|refine Qx rfl rfl (by omega) ?_)
  refine QV (I81 h0 h0.length h1.length a.natAbs b (-1)) 60 (R81 h0 h0.length h1.length a.natAbs b (-1)) ⟨0,by omega,rfl,rfl,e1.trans e2,d4,by rw[Nat.pow_zero,Nat.mod_one,show (-1:Int)*(0:Nat)*b=0 by simp];exact c6,rfl⟩ (QdS h0 h0.length h1.length (Gd _) m4 a.natAbs ha b (-1) hb (.inr rfl)) ?_
  rintro ex E' h3 ⟨rfl,a0,a1,a5,a7,d,e3,u4,u6,rfl⟩
  rw[hfin]at u6
  repeat' first|apply Qf|apply Qb|apply QK|apply Qs|apply Qe|(apply Qd;refine Qq rfl ?_)|(apply Qc;first|refine QU rfl u6 ?_|(refine Xg rfl rfl u4 ?_;intro h4 w4))
  exact⟨.inr rfl,Xc rfl w4.cel.read ⟨w4.ext e3 (Gd _),rfl⟩⟩
 ·obtain⟨A,rfl⟩:∃ A:Nat,a=(A:Nat):=⟨a.toNat,by omega⟩
  have hfin:(1:Int)*(A:Nat)*b=(A:Nat)*b:=by rw[Int.one_mul]
  repeat' first|apply Qf|apply Qb|apply Qt|apply Qn|apply Qe|(apply Qg;refine Qi rfl ?_)|(apply Qd;first|refine Qu rfl rfl rfl ?_|refine QG rfl rfl rfl rfl ?_|refine QO rfl rfl rfl rfl rfl ?_|refine QE rfl rfl rfl rfl rfl rfl ?_)|(apply Qc;first|(have z:=e1;refine X2 rfl ?_;intro h2 e2 c6;have d4:=c4.ext e2;have m4:=c4.lt)|(apply Xa;intro h1 e1 c4)|(refine Xz rfl rfl ?_)|refine Ql rfl ?_|refine QF rfl rfl (by omega) ?_)
  refine QV (I81 h0 h0.length h1.length A b 1) 60 (R81 h0 h0.length h1.length A b 1) ⟨0,by omega,rfl,rfl,e1.trans e2,d4,by rw[Nat.pow_zero,Nat.mod_one,show (1:Int)*(0:Nat)*b=0 by simp];exact c6,rfl⟩ (QdS h0 h0.length h1.length (Gd _) m4 A (by omega) b 1 hb (.inl rfl)) ?_
  rintro ex E' h3 ⟨rfl,a0,a1,a5,a7,d,e3,u4,u6,rfl⟩
  rw[hfin]at u6
  repeat' first|apply Qf|apply Qb|apply QK|apply Qs|apply Qe|(apply Qd;refine Qq rfl ?_)|(apply Qc;first|refine QU rfl u6 ?_|(refine Xg rfl rfl u4 ?_;intro h4 w4))
  exact⟨.inr rfl,Xc rfl w4.cel.read ⟨w4.ext e3 (Gd _),rfl⟩⟩
end Go.Proofs.YtofknpknogfijaaGreatDoor
namespace Go.Proofs.YtofknpknogfijaaGreatDoor
set_option linter.all false
abbrev Row:=Nat->Int
def alt(f:Nat->List Nat->Int):List Nat->Int
 | []=>0
 | c::cs=>f c cs-alt (fun d ds=>f d (c::ds)) cs
def D:List Row->List Nat->Int
 | [],_=>1
 | r::rs,cs=>alt (fun c ds=>r c*D rs ds) cs
theorem Jn:∀ {cs:List Nat} {f g:Nat->List Nat->Int},(∀ c ds,c∈cs->ds.length+1=cs.length->(∀ d∈ds,d∈cs)->f c ds=g c ds)->alt f cs=alt g cs
 | [],_,_,_=>rfl
 | c::cs,f,g,h=>by
  unfold alt
  rw[h c cs (.head _) rfl (fun d hd => .tail _ hd),Jn fun d ds hd hl hs=>h d (c::ds) (.tail _ hd) (by simp[← hl]) fun e he=>?_]
  rcases List.mem_cons.1 he with rfl|he
  ·exact .head _
  ·exact .tail _ (hs e he)
theorem Yj{cs:List Nat}{f g:Nat->List Nat->Int}(h:∀ c ds,f c ds=g c ds):alt f cs=alt g cs:=Jn fun c ds _ _ _=>h c ds
theorem Jm:∀ {cs:List Nat},alt (fun _ _=>0) cs=0
 | []=>rfl
 | c::cs=>by unfold alt;rw[Jm];rfl
theorem yX:∀ {cs:List Nat} {f g:Nat->List Nat->Int},alt (fun c ds=>f c ds+g c ds) cs=alt f cs+alt g cs
 | [],_,_=>rfl
 | c::cs,f,g=>by unfold alt;rw[yX (f:=fun d ds=>f d (c::ds)) (g:=fun d ds=>g d (c::ds))];omega
theorem ZJ(k:Int):∀ {cs:List Nat} {f:Nat->List Nat->Int},alt (fun c ds=>k*f c ds) cs=k*alt f cs
 | [],_=>by simp[alt]
 | c::cs,f=>by unfold alt;rw[ZJ k (f:=fun d ds=>f d (c::ds)),Int.mul_sub]
theorem Qbp{cs:List Nat}{f:Nat->List Nat->Int}:alt (fun c ds => - f c ds) cs = - alt f cs:=by
 have:=ZJ (-1) (cs:=cs) (f:=f)
 simpa using this
theorem Qll{cs:List Nat}{f g:Nat->List Nat->Int}:alt (fun c ds=>f c ds-g c ds) cs=alt f cs-alt g cs:=by
 rw[show alt f cs-alt g cs=alt f cs + - alt g cs by omega,← Qbp,← yX]
 exact Yj fun c ds=>by omega
def Qi0(a b:Row)(G:List Nat->Int)(cs:List Nat):Int:=alt (fun c ds=>a c*alt (fun d es=>b d*G es) ds) cs
theorem Qaq(a b:Row)(G:List Nat->Int)(c:Nat)(cs:List Nat) :
  Qi0 a b G (c::cs)=a c*alt (fun d es=>b d*G es) cs-b c*alt (fun d es=>a d*G es) cs+Qi0 a b (fun es=>G (c::es)) cs:=by
 unfold Qi0
 conv=>lhs;unfold alt
 have e:alt (fun d ds=>a d*alt (fun e es=>b e*G es) (c::ds)) cs=b c*alt (fun d es=>a d*G es) cs-alt (fun d ds=>a d*alt (fun e es=>b e*G (c::es)) ds) cs:=by
  rw[← ZJ,← Qll]
  refine Yj fun d ds=>?_
  conv=>lhs;unfold alt
  rw[Int.mul_sub]
  congr 1
  rw[← Int.mul_assoc,← Int.mul_assoc,Int.mul_comm (a d)]
 rw[e];show _=_-_+alt (fun d ds=>a d*alt (fun e es=>b e*G (c::es)) ds) cs;omega
theorem Qap(a b:Row):∀(cs:List Nat) (G:List Nat->Int),Qi0 a b G cs = - Qi0 b a G cs
 | [],_=>rfl
 | c::cs,G=>by rw[Qaq,Qaq,Qap a b cs];omega
theorem JP(a b:Row)(rs:List Row)(cs:List Nat):D (a::b::rs) cs = - D (b::a::rs) cs:=Qap a b cs (D rs)
theorem XM(r:Row)(rs:List Row)(cs:List Nat):D (r::rs) cs=alt (fun c ds=>r c*D rs ds) cs:=rfl
theorem Qjs(a b:Row):∀(pre post:List Row) (cs:List Nat),D (pre++a::b::post) cs = - D (pre++b::a::post) cs
 | [],post,cs=>JP a b post cs
 | r::pre,post,cs=>by
  rw[List.cons_append,List.cons_append,XM,XM,← Qbp]
  exact Yj fun c ds=>by rw[Qjs a b pre post ds,Int.mul_neg]
theorem Qjt(a:Row):∀(rs:List Row) (cs:List Nat),a∈rs->D (a::rs) cs=0
 | b::rs,cs,h=>by
  by_cases e:a=b
  ·subst e
   have:=JP a a rs cs
   omega
  ·have h':a∈rs:=by
    rcases List.mem_cons.1 h with h|h
    ·exact absurd h e
    ·exact h
   rw[JP,XM,Yj (g:=fun _ _=>0) fun c ds=>by rw[Qjt a rs ds h',Int.mul_zero],Jm]
   rfl
theorem QjA(a b:Row)(rs:List Row)(cs:List Nat):D ((fun c=>a c+b c)::rs) cs=D (a::rs) cs+D (b::rs) cs:=by
 rw[XM,XM,XM,← yX]
 exact Yj fun c ds=>Int.add_mul _ _ _
theorem Qjv(k:Int)(a:Row)(rs:List Row)(cs:List Nat):D ((fun c=>k*a c)::rs) cs=k*D (a::rs) cs:=by
 rw[XM,XM,← ZJ]
 exact Yj fun c ds=>Int.mul_assoc _ _ _
theorem QjB(a b:Row):∀(pre post:List Row) (cs:List Nat),D (pre++(fun c=>a c+b c)::post) cs=D (pre++a::post) cs+D (pre++b::post) cs
 | [],post,cs=>QjA a b post cs
 | r::pre,post,cs=>by
  simp only[List.cons_append]
  rw[XM,XM,XM,← yX]
  exact Yj fun c ds=>by rw[QjB a b pre post ds,Int.mul_add]
theorem QeX(k:Int)(a:Row):∀(pre post:List Row) (cs:List Nat),D (pre++(fun c=>k*a c)::post) cs=k*D (pre++a::post) cs
 | [],post,cs=>Qjv k a post cs
 | r::pre,post,cs=>by
  simp only[List.cons_append]
  rw[XM,XM,← ZJ]
  exact Yj fun c ds=>by rw[QeX k a pre post ds,Int.mul_left_comm]
theorem Qjw(r:Row):∀(rs:List Row) (k:Row->Int) (cs:List Nat),D (r::rs.map fun s c=>s c+k s*r c) cs=D (r::rs) cs
 | [],_,_=>rfl
 | s::rs,k,cs=>by
  rw[List.map_cons,JP,QjA s (fun c=>k s*r c),Qjv,Qjt r (r::_) cs (.head _),Int.mul_zero,Int.add_zero,JP r s,XM s,XM s]
  congr 1
  exact Yj fun c ds=>by rw[Qjw r rs k ds]
theorem Qdy(c:Nat):∀(rs:List Row) (cs:List Nat),rs≠[]->rs.length=cs.length+1->(∀ s∈rs,s c=0)->D rs (c::cs)=0
 | [],_,h,_,_=>absurd rfl h
 | s::rs,cs,_,hl,hz=>by
  rw[XM];unfold alt
  rw[hz s (.head _),Int.zero_mul]
  have:alt (fun d ds=>s d*D rs (c::ds)) cs=0:=by
   rw[Jn (g:=fun _ _=>0) fun d ds _ hd _=>?_,Jm]
   simp only[List.length_cons]at hl
   rw[Qdy c rs ds (by intro e;rw[e,List.length_nil]at hl;omega) (by omega) fun t ht=>hz t (.tail _ ht),Int.mul_zero]
  rw[this];rfl
theorem D_tri(r:Row)(c:Nat)(rs:List Row)(cs:List Nat)(hl:rs.length=cs.length)(hz:∀ s∈rs,s c=0):D (r::rs) (c::cs)=r c*D rs cs:=by
 rw[XM];unfold alt
 have:alt (fun d ds=>r d*D rs (c::ds)) cs=0:=by
  rw[Jn (g:=fun _ _=>0) fun d ds _ hd _=>?_,Jm]
  rw[Qdy c rs ds (by intro e;rw[e,List.length_nil]at hl;omega) (by omega) hz,Int.mul_zero]
 rw[this];omega
theorem Qbu:∀ {rs ts:List Row} {cs:List Nat},rs.length=ts.length->(∀(i:Nat) (r t:Row),rs[i]?=some r->ts[i]?=some t->∀ c∈cs,r c=t c)->D rs cs=D ts cs
 | [],[],_,_,_=>rfl
 | [],_::_,_,h,_=>by simp at h
 | _::_,[],_,h,_=>by simp at h
 | r::rs,t::ts,cs,hl,h=>by
  rw[XM,XM]
  refine Jn fun c ds hc _ hd=>?_
  rw[h 0 r t rfl rfl c hc,Qbu (rs:=rs) (ts:=ts) (by simpa using hl) fun i a b ha hb e he=>h (i+1) a b (by simpa using ha) (by simpa using hb) e (hd e he)]
theorem QeW(a:Row):∀(pre mid post:List Row) (cs:List Nat),D (pre++a::(mid++a::post)) cs=0
 | [],mid,post,cs=>Qjt a (mid++a::post) cs (by simp)
 | r::pre,mid,post,cs=>by
  simp only[List.cons_append]
  rw[XM,Yj (g:=fun _ _=>0) fun c ds=>by rw[QeW a pre mid post ds,Int.mul_zero],Jm]
def ZW(b:Nat->Row)(a:Row):List Nat->Row
 | []=>fun _=>0
 | j::js=>fun c=>a j*b j c+ZW b a js c
theorem Qjy(b:Nat->Row)(a:Row)(pre post:List Row)(cs:List Nat):∀ js:List Nat,D (pre++ZW b a js::post) cs=(js.map fun j=>a j*D (pre++b j::post) cs).sum
 | []=>by
  have:=QeX 0 (fun _=>0) pre post cs
  simpa [ZW]using this
 | j::js=>by
  rw[List.map_cons,List.sum_cons,← Qjy b a pre post cs js,← QeX (a j) (b j) pre post cs,← QjB]
  rfl
theorem Qjx(b:Nat->Row)(j:Nat)(pre:List Row)(cs:List Nat):∀(us done:List Row) (js ks:List Nat),D (pre++b j::(done++us.map fun a=>ZW b a (js++j::ks))) cs=D (pre++b j::(done++us.map fun a=>ZW b a (js++ks))) cs
 | [],done,js,ks=>rfl
 | a::us,done,js,ks=>by
  have e:∀ js:List Nat,ZW b a (js++j::ks)=fun c=>ZW b a (js++ks) c+a j*b j c:=by
   intro js
   induction js with
   | nil=>funext c;show a j*b j c+ZW b a ks c=ZW b a ks c+a j*b j c;omega
   | cons i js ih=>funext c;show a i*b i c+ZW b a (js++j::ks) c=a i*b i c+ZW b a (js++ks) c+a j*b j c;rw[ih];show a i*b i c+(ZW b a (js++ks) c+a j*b j c)=_;omega
  have h1:=Qjx b j pre cs us (done++[ZW b a (js++ks)]) js ks
  simp only[List.append_assoc,List.singleton_append]at h1
  rw[List.map_cons,List.map_cons,e js]
  have h2:=QjB (ZW b a (js++ks)) (fun c=>a j*b j c) (pre++b j::done) (us.map fun a=>ZW b a (js++j::ks)) cs
  have h3:=QeX (a j) (b j) (pre++b j::done) (us.map fun a=>ZW b a (js++j::ks)) cs
  have h4:=QeW (b j) pre done (us.map fun a=>ZW b a (js++j::ks)) cs
  simp only[List.append_assoc,List.cons_append]at h2 h3 h4
  rw[h2,h3,h4,h1]
  omega
theorem Qat(a:Row)(pre:List Row)(cs:List Nat):∀(mid post:List Row),D (pre++a::(mid++post)) cs=(-1)^mid.length*D (pre++(mid++a::post)) cs
 | [],post=>by simp
 | z::mid,post=>by
  have h1:=Qjs a z pre (mid++post) cs
  have h2:=Qat a (pre++[z]) cs mid post
  simp only[List.append_assoc,List.singleton_append]at h2
  simp only[List.cons_append,List.length_cons]
  rw[h1,h2,Int.pow_succ]
  simp only[Int.mul_neg,Int.neg_mul,Int.mul_one]
theorem VF(g:Nat->Int):∀(js acc:List Nat) (f:Nat->List Nat->Int),(∀(l k:List Nat) (j:Nat),js=l++j::k->g j=(-1)^l.length*f j (acc++(l++k)))->(js.map g).sum=alt (fun j ds=>f j (acc++ds)) js
 | [],acc,f,_=>rfl
 | j::js,acc,f,h=>by
  rw[List.map_cons,List.sum_cons]
  have h0:=h [] js j rfl
  simp only[List.length_nil,Int.pow_zero,Int.one_mul,List.nil_append]at h0
  have ih:=VF g js (acc++[j]) (fun i ds => - f i ds) fun l k i e=>by
   have:=h (j::l) k i (by rw[e];rfl)
   rw[this]
   simp only[List.length_cons,List.append_assoc,List.cons_append,List.nil_append]
   rw[Int.pow_succ]
   simp only[Int.mul_neg,Int.neg_mul,Int.mul_one]
  rw[h0,ih]
  simp only[alt,List.append_assoc,List.singleton_append]
  have e:alt (fun i ds => - f i (acc++j::ds)) js = - alt (fun i ds=>f i (acc++j::ds)) js:=Qbp
  rw[e];omega
theorem Qju(b:Nat->Row)(cs:List Nat):∀(us pre:List Row) (js:List Nat),us.length=js.length->D (pre++us.map fun a=>ZW b a js) cs=D us js*D (pre++js.map b) cs
 | [],pre,js,h=>by
  have:js=[]:=List.eq_nil_of_length_eq_zero h.symm
  subst this
  simp[D]
 | a::us,pre,js,h=>by
  rw[List.map_cons,Qjy,XM,← Int.mul_comm,← ZJ]
  have:=VF (fun j=>a j*D (pre++b j::us.map fun a=>ZW b a js) cs) js [] (fun j ds=>D (pre++js.map b) cs*(a j*D us ds)) fun l k j e=>by
   subst e
   have h1:=Qjx b j pre cs us [] l k
   simp only[List.nil_append]at h1 ⊢
   have h2:=Qju b cs us (pre++[b j]) (l++k) (by simp at h ⊢;omega)
   have h3:=Qat (b j) pre cs (l.map b) (k.map b)
   simp only[List.append_assoc,List.singleton_append,List.map_append]at h2
   rw[List.length_map]at h3
   rw[h1,h2,h3]
   simp only[List.map_append,List.map_cons]
   generalize D (pre++(l.map b++b j::k.map b)) cs=X
   generalize D us (l++k)=Y
   generalize ((-1:Int))^l.length=s
   ac_rfl
  simpa using this
theorem QpL(b:Nat->Row)(cs:List Nat)(us:List Row)(js:List Nat)(h:us.length=js.length):D (us.map fun a=>ZW b a js) cs=D us js*D (js.map b) cs:=Qju b cs us [] js h
def Cg(p:Nat)(a b:Int):Prop:=(p:Int) ∣ a-b
theorem Cg.rfl{p:Nat}{a:Int}:Cg p a a:=by unfold Cg;rw[Int.sub_self];exact Int.dvd_zero _
theorem Cg.of_eq{p:Nat}{a b:Int}(h:a=b):Cg p a b:=h ▸ Cg.rfl
theorem Cg.symm{p:Nat}{a b:Int}(h:Cg p a b):Cg p b a:=by
 obtain⟨k,h⟩:=h;exact⟨-k,by rw[Int.mul_neg];omega⟩
theorem Cg.trans{p:Nat}{a b c:Int}(h:Cg p a b)(h2:Cg p b c):Cg p a c:=by
 obtain⟨k,h⟩:=h;obtain⟨l,h2⟩:=h2;exact⟨k+l,by rw[Int.mul_add];omega⟩
theorem Cg.add{p:Nat}{a b c d:Int}(h:Cg p a b)(h2:Cg p c d):Cg p (a+c) (b+d):=by
 obtain⟨k,h⟩:=h;obtain⟨l,h2⟩:=h2;exact⟨k+l,by rw[Int.mul_add];omega⟩
theorem Cg.neg{p:Nat}{a b:Int}(h:Cg p a b):Cg p (-a) (-b):=by
 obtain⟨k,h⟩:=h;exact⟨-k,by rw[Int.mul_neg];omega⟩
theorem Cg.sub{p:Nat}{a b c d:Int}(h:Cg p a b)(h2:Cg p c d):Cg p (a-c) (b-d):=by
 obtain⟨k,h⟩:=h;obtain⟨l,h2⟩:=h2;exact⟨k-l,by rw[Int.mul_sub];omega⟩
theorem Cg.mul{p:Nat}{a b c d:Int}(h:Cg p a b)(h2:Cg p c d):Cg p (a*c) (b*d):=by
 obtain⟨k,h⟩:=h;obtain⟨l,h2⟩:=h2
 refine⟨k*c+b*l,?_⟩
 have e1:a*c-b*d=(a-b)*c+b*(c-d):=by rw[Int.sub_mul,Int.mul_sub];omega
 rw[e1,h,h2,Int.mul_add,Int.mul_assoc,Int.mul_left_comm b]
theorem Cg.mod{p:Nat}{a:Int}:Cg p (a%(p:Int)) a:=⟨-(a/p),by have:=Int.emod_add_mul_ediv a p;rw[Int.mul_neg];omega⟩
theorem Cg.modN{p a:Nat}:Cg p ((a%p:Nat):Int) (a:Nat):=by rw[Int.natCast_emod];exact Cg.mod
theorem Cg.eq{p:Nat}{a b:Int}(h:Cg p a b)(hs:(a-b).natAbs<p):a=b:=by
 obtain⟨k,h⟩:=h
 by_cases hk:k=0
 ·subst hk;omega
 ·exfalso
  have:(a-b).natAbs=p*k.natAbs:=by rw[h,Int.natAbs_mul];simp
  have h1:1<=k.natAbs:=by omega
  have:=Nat.mul_le_mul_left p h1
  omega
theorem Cg.eqN{p a b:Nat}(h:Cg p (a:Int) (b:Int))(ha:a<p)(hb:b<p):a=b:=by
 have:=h.eq (by omega);omega
theorem QiY{p:Nat}:∀ {cs:List Nat} {f g:Nat->List Nat->Int},(∀ c ds,c∈cs->ds.length+1=cs.length->(∀ d∈ds,d∈cs)->Cg p (f c ds) (g c ds))->Cg p (alt f cs) (alt g cs)
 | [],_,_,_=>Cg.rfl
 | c::cs,f,g,h=>by
  unfold alt
  refine(h c cs (.head _) rfl fun d hd => .tail _ hd).sub (QiY fun d ds hd hl hs=>h d (c::ds) (.tail _ hd) (by simp[← hl]) fun e he=>?_)
  rcases List.mem_cons.1 he with rfl|he
  ·exact .head _
  ·exact .tail _ (hs e he)
def RCg(p:Nat)(cs:List Nat)(a b:Row):Prop:=∀ c∈cs,Cg p (a c) (b c)
inductive RsCg (p:Nat) (cs:List Nat):List Row->List Row->Prop
 | nil:RsCg p cs [] []
 | cons {a b:Row} {az bz:List Row}:RCg p cs a b->RsCg p cs az bz->RsCg p cs (a::az) (b::bz)
theorem RsCg.sub{p:Nat}{cs ds:List Nat}(h:∀ d∈ds,d∈cs):∀ {az bz:List Row},RsCg p cs az bz->RsCg p ds az bz
 | _,_,.nil => .nil
 | _,_,.cons h1 h2 => .cons (fun c hc=>h1 c (h c hc)) (h2.sub h)
theorem Qjz{p:Nat}:∀ {az bz:List Row} {cs:List Nat},RsCg p cs az bz->Cg p (D az cs) (D bz cs)
 | _,_,_,.nil=>Cg.rfl
 | _,_,cs,.cons h1 h2=>by
  rw[XM,XM]
  exact QiY fun c ds hc hl hs=>(h1 c hc).mul (Qjz (h2.sub hs))
theorem QeY(post:List Row):∀(pre:List Row),∃ s:Int,∀(b:Row) cs,D (pre++b::post) cs=s*D (b::(pre++post)) cs
 | []=>⟨1,fun b cs=>by simp⟩
 | r::pre=>by
  obtain⟨s,h⟩:=QeY post pre
  refine⟨-s,fun b cs=>?_⟩
  rw[List.cons_append,XM,Yj (g:=fun c ds=>s*(r c*D (b::(pre++post)) ds)) fun c ds=>by rw[h,Int.mul_left_comm],ZJ,← XM r,JP]
  rw[Int.neg_mul,Int.mul_neg];rfl
theorem QpK(a b:Row)(pre post:List Row)(cs:List Nat):D (a::(pre++b::post)) cs = - D (b::(pre++a::post)) cs:=by
 obtain⟨s,h⟩:=QeY post pre
 have f:∀ a b:Row,D (a::(pre++b::post)) cs=s*D (a::b::(pre++post)) cs:=fun a b=>by
  rw[XM,XM,← ZJ]
  exact Yj fun c ds=>by rw[h,Int.mul_left_comm]
 rw[f a b,f b a,JP,Int.mul_neg]
def sbM(p a b:Nat):Nat:=if a<b then a+p-b else a-b
def adM(p a b:Nat):Nat:=if p<=a+b then a+b-p else a+b
theorem QcQ{p a b:Nat}(hb:b<=p):Cg p (sbM p a b:Nat) ((a:Int)-b):=by
 unfold sbM
 split
 ·exact⟨1,by omega⟩
 ·exact⟨0,by omega⟩
theorem y7{p a b:Nat}(ha:a<p):sbM p a b<p:=by unfold sbM;split <;> omega
theorem adM_cg{p a b:Nat}:Cg p (adM p a b:Nat) ((a:Int)+b):=by
 unfold adM
 split
 ·exact⟨-1,by omega⟩
 ·exact⟨0,by omega⟩
theorem Qdv{p a b:Nat}(ha:a<p)(hb:b<p):adM p a b<p:=by unfold adM;split <;> omega
def rw_(r:List Nat):Row:=fun c=>((r.getD c 0:Nat):Int)
def elR(p k f:Nat)(piv r:List Nat):List Nat:=r.mapIdx fun c x=>if k<c then sbM p x (f*piv.getD c 0%p) else x
def pick(k:Nat):List (List Nat)->Option (List (List Nat)×List Nat×List (List Nat))
 | []=>none
 | r::rs=>if r.getD k 0≠0 then some ([],r,rs) else (pick k rs).map fun x=>(r::x.1,x.2)
theorem VZ{k:Nat}:∀ {rs:List (List Nat)},pick k rs=none->∀ r∈rs,r.getD k 0=0
 | r::rs,h,s,hs=>by
  unfold pick at h
  split at h
  ·cases h
  ·rename_i h0
   rcases List.mem_cons.1 hs with rfl|hs
   ·exact Decidable.not_not.1 h0
   ·exact VZ (Option.map_eq_none_iff.1 h) s hs
theorem VY{k:Nat}:∀ {rs:List (List Nat)} {a b c},pick k rs=some (a,b,c)->rs=a++b::c/\b.getD k 0≠0/\∀ r∈a,r.getD k 0=0
 | r::rs,a,b,c,h=>by
  unfold pick at h
  split at h
  ·rename_i h0
   simp only[Option.some.injEq,Prod.mk.injEq]at h
   obtain⟨rfl,rfl,rfl⟩:=h
   exact⟨rfl,h0,by simp⟩
  ·rename_i h0
   obtain⟨⟨x,y,z⟩,h1,h2⟩:=Option.map_eq_some_iff.1 h
   simp only[Prod.mk.injEq]at h2
   obtain⟨rfl,rfl,rfl⟩:=h2
   obtain⟨e,h3,h4⟩:=VY h1
   refine⟨by rw[e];rfl,h3,fun s hs=>?_⟩
   rcases List.mem_cons.1 hs with rfl|hs
   ·exact Decidable.not_not.1 h0
   ·exact h4 s hs
def Yd(a:List (List Nat))(c:List (List Nat)):List (List Nat):=match a with
 | []=>c
 | x::a=>a++x::c
def qY(p:Nat)(inv:Nat->Nat):Nat->Nat->List (List Nat)->Nat->Nat
 | 0,_,_,d=>d
 | m + 1, k, rs, d => match pick k rs with
   | none=>0
   | some (a,b,c) =>
    qY p inv m (k+1) ((Yd a c).map fun r=>elR p k (r.getD k 0*inv (b.getD k 0)%p) b r) ((if a=[] then d else sbM p 0 d)*b.getD k 0%p)
def FOK(p:Nat)(inv:Nat->Nat):Prop:=∀ a,0<a->a<p->a*inv a%p=1
theorem QkT{p k f:Nat}{piv r:List Nat}{c:Nat}(hk:k<c)(hc:c<r.length):(elR p k f piv r).getD c 0=sbM p (r.getD c 0) (f*piv.getD c 0%p):=by
 unfold elR
 simp only[List.getD_eq_getElem?_getD,List.getElem?_mapIdx]
 rw[List.getElem?_eq_getElem hc]
 simp[hk]
theorem Qal{p:Nat}{inv:Nat->Nat}(hF:FOK p inv)(hp:1<p)(n:Nat):∀(m k:Nat) (rs:List (List Nat)) (d:Nat),m+k=n->rs.length=m->(∀ r∈rs,r.length=n/\∀ x∈r,x<p)->d<p ->
  qY p inv m k rs d<p/\Cg p (qY p inv m k rs d:Nat) ((d:Int)*D (rs.map rw_) (List.range' k m))
 | 0,k,rs,d,hn,hl,hr,hd=>by
  have:rs=[]:=List.length_eq_zero_iff.1 hl
  subst this
  exact⟨hd,Cg.of_eq (by simp[qY,D])⟩
 | m+1,k,rs,d,hn,hl,hr,hd=>by
  unfold qY
  split
  ·rename_i hpk
   refine⟨by omega,Cg.of_eq ?_⟩
   have hz:=VZ hpk
   rw[List.range'_succ,Qdy k (rs.map rw_) _ (by intro e;rw[List.map_eq_nil_iff]at e;rw[e]at hl;simp at hl) (by simp[hl]) fun s hs=>by
    obtain⟨r,hr,rfl⟩:=List.mem_map.1 hs
    show ((r.getD k 0:Nat):Int)=0
    rw[hz r hr];rfl]
   simp
  ·rename_i a b c hpk
   obtain⟨rfl,hb0,-⟩:=VY hpk
   have hb:=hr b (by simp)
   have hbk:k<b.length:=by omega
   have hbp:b.getD k 0<p:=by
    rw[List.getD_eq_getElem?_getD,List.getElem?_eq_getElem hbk]
    exact hb.2 _ (List.getElem_mem _)
   have hinv:=hF (b.getD k 0) (by omega) hbp
   have hos:∀ r∈Yd a c,r∈a++b::c:=by
    intro r hr
    cases a with
    | nil=>exact .tail _ hr
    | cons x a =>
     have:r∈a++x::c:=hr
     simp only[List.mem_append,List.mem_cons]at this ⊢
     rcases this with h|h|h <;> simp[h]
   have hol:(Yd a c).length=m:=by
    cases a with
    | nil=>simpa [Yd]using hl
    | cons x a=>simp[Yd]at hl ⊢;omega
   have hd':(if a=[] then d else sbM p 0 d)<p:=by
    split
    ·exact hd
    ·exact y7 (by omega)
   obtain⟨h1,h2⟩:=Qal hF hp n m (k+1) ((Yd a c).map fun r=>elR p k (r.getD k 0*inv (b.getD k 0)%p) b r) ((if a=[] then d else sbM p 0 d)*b.getD k 0%p) (by omega) (by simp[hol]) (fun r hr'=>by
    obtain⟨s,hs,rfl⟩:=List.mem_map.1 hr'
    have:=hr s (hos s hs)
    refine⟨by simp[elR,this.1],fun x hx=>?_⟩
    unfold elR at hx
    rw[List.mem_mapIdx]at hx
    obtain⟨i,hi,rfl⟩:=hx
    have:=this.2 _ (List.getElem_mem hi)
    split
    ·exact y7 this
    ·exact this) (Nat.mod_lt _ (by omega))
   refine⟨h1,h2.trans ?_⟩
   have e1:Cg p ((((if a=[] then d else sbM p 0 d)*b.getD k 0%p:Nat)):Int) (((if a=[] then d else sbM p 0 d:Nat):Int)*rw_ b k):=Cg.modN.trans (Cg.of_eq (by rw[Int.natCast_mul];rfl))
   have e2:Cg p (D (((Yd a c).map fun r=>elR p k (r.getD k 0*inv (b.getD k 0)%p) b r).map rw_) (List.range' (k+1) m))
     (D (((Yd a c).map rw_).map fun s c=>s c + -(s k*(inv (b.getD k 0):Nat))*rw_ b c) (List.range' (k+1) m)):=by
    refine Qjz ?_
    have:∀ os:List (List Nat),(∀ r∈os,r∈a++b::c)->RsCg p (List.range' (k+1) m) ((os.map fun r=>elR p k (r.getD k 0*inv (b.getD k 0)%p) b r).map rw_) ((os.map rw_).map fun s c=>s c + -(s k*(inv (b.getD k 0):Nat))*rw_ b c):=by
     intro os
     induction os with
     | nil=>intro _;exact .nil
     | cons r os ih =>
      intro h
      refine .cons (fun x hx=>?_) (ih fun r hr=>h r (.tail _ hr))
      have hr1:=hr r (h r (.head _))
      rw[List.mem_range'_1]at hx
      unfold rw_
      rw[QkT (by omega) (by omega)]
      refine(QcQ (Nat.le_of_lt (Nat.mod_lt _ (by omega)))).trans ?_
      show Cg p _ (((r.getD x 0:Nat):Int) + -(((r.getD k 0:Nat):Int)*(inv (b.getD k 0):Nat))*((b.getD x 0:Nat):Int))
      rw[Int.neg_mul,← Int.sub_eq_add_neg]
      refine Cg.rfl.sub (Cg.modN.trans ?_)
      rw[Int.natCast_mul]
      refine Cg.mul (Cg.modN.trans (Cg.of_eq (by rw[Int.natCast_mul]))) Cg.rfl
    exact this _ hos
   have e3:Cg p (rw_ b k*D (((Yd a c).map rw_).map fun s c=>s c + -(s k*(inv (b.getD k 0):Nat))*rw_ b c) (List.range' (k+1) m)) (D (rw_ b::(Yd a c).map rw_) (List.range' k (m+1))):=by
    rw[← Qjw (rw_ b) ((Yd a c).map rw_) (fun s => -(s k*(inv (b.getD k 0):Nat))) (List.range' k (m+1)),List.range'_succ]
    have hz:Cg p (rw_ b k*(inv (b.getD k 0):Nat)) 1:=by
     have:Cg p ((b.getD k 0*inv (b.getD k 0):Nat):Int) ((1:Nat):Int):=by rw[← hinv];exact Cg.modN.symm
     rw[Int.natCast_mul]at this
     exact this
    refine Cg.symm ((Qjz (bz:=rw_ b::(((Yd a c).map rw_).map fun s c=>if c=k then 0 else s c + -(s k*(inv (b.getD k 0):Nat))*rw_ b c)) (.cons (fun _ _=>Cg.rfl) ?_)).trans ?_)
    ·generalize (Yd a c).map rw_=os
     induction os with
     | nil=>exact .nil
     | cons s os ih =>
      refine .cons (fun x hx=>?_) ih
      by_cases hxk:x=k
      ·subst hxk
       simp only[if_pos]
       have:Cg p (s x*(1 + -(rw_ b x*(inv (b.getD x 0):Nat)))) (s x*(1 + -1)):=Cg.rfl.mul (Cg.rfl.add hz.neg)
       refine(Cg.of_eq ?_).trans (this.trans (Cg.of_eq (by simp)))
       rw[Int.mul_add,Int.mul_one,Int.mul_neg,Int.neg_mul,Int.mul_assoc,Int.mul_comm (rw_ b x)]
      ·simp only[if_neg hxk];exact Cg.rfl
    ·rw[D_tri _ _ _ _ (by simp[hol]) (fun s hs=>by
      obtain⟨t,ht,rfl⟩:=List.mem_map.1 hs
      simp)]
     refine Cg.rfl.mul (Qjz ?_)
     generalize (Yd a c).map rw_=os
     induction os with
     | nil=>exact .nil
     | cons s os ih =>
      refine .cons (fun x hx=>?_) ih
      rw[List.mem_range'_1]at hx
      simp only[if_neg (show ¬ x=k by omega)];exact Cg.rfl
   have e4:Cg p (((if a=[] then d else sbM p 0 d:Nat):Int)*D (rw_ b::(Yd a c).map rw_) (List.range' k (m+1))) ((d:Int)*D ((a++b::c).map rw_) (List.range' k (m+1))):=by
    cases a with
    | nil=>rw[if_pos rfl];exact Cg.rfl
    | cons x a =>
     rw[if_neg (by simp)]
     have:D (((x::a)++b::c).map rw_) (List.range' k (m+1)) = - D (rw_ b::(Yd (x::a) c).map rw_) (List.range' k (m+1)):=by
      show D ((x::(a++b::c)).map rw_) _ = - D (rw_ b::(a++x::c).map rw_) _
      rw[List.map_cons,List.map_append,List.map_cons,List.map_append,List.map_cons]
      exact QpK _ _ _ _ _
     rw[this,Int.mul_neg,← Int.neg_mul]
     refine Cg.mul ((QcQ (Nat.le_of_lt hd)).trans (Cg.of_eq (by omega))) Cg.rfl
   refine(e1.mul e2).trans (Cg.trans ?_ e4)
   rw[Int.mul_assoc]
   exact Cg.rfl.mul e3
def Pr(q:Nat):Prop:=1<q/\∀ d,d ∣ q->d=1∨d=q
theorem Qfx:∀(m:Nat),1<m->∃ q,Pr q/\q ∣ m:=by
 intro m
 induction m using Nat.strongRecOn with
 | _ m ih =>
  intro h
  by_cases hp:∀ d,d ∣ m->d=1∨d=m
  ·exact⟨m,⟨h,hp⟩,Nat.dvd_refl _⟩
  ·obtain⟨d,hd⟩:=Classical.not_forall.1 hp
   have h1:d ∣ m:=Classical.byContradiction fun h=>hd fun h'=>absurd h' h
   have h2:d≠1/\d≠m:=⟨fun e=>hd fun _ => .inl e,fun e=>hd fun _ => .inr e⟩
   have h3:=Nat.le_of_dvd (by omega) h1
   have h4:d≠0:=fun e=>by rw[e]at h1;have:=Nat.eq_zero_of_zero_dvd h1;omega
   obtain⟨q,hq,hqd⟩:=ih d (by omega) (by omega)
   exact⟨q,hq,Nat.dvd_trans hqd h1⟩
theorem Pr.euclid{q a b:Nat}(h:Pr q)(hd:q ∣ a*b):q ∣ a∨q ∣ b:=by
 rcases h.2 (Nat.gcd q a) (Nat.gcd_dvd_left _ _) with e|e
 ·exact .inr (Nat.Coprime.dvd_of_dvd_mul_left e hd)
 ·exact .inl (e ▸ Nat.gcd_dvd_right q a)
theorem Pr.mem{q:Nat}(h:Pr q):∀ {l:List Nat},(∀ x∈l,Pr x)->q ∣ l.foldr (·*·) 1->q∈l
 | [],_,hd=>by
  have:=Nat.le_of_dvd (by decide) (show q ∣ 1 from hd)
  have:=h.1
  omega
 | x::l,hl,hd=>by
  rcases h.euclid (show q ∣ x*l.foldr (·*·) 1 from hd) with e|e
  ·rcases(hl x (.head _)).2 q e with e|e
   ·have:=h.1;omega
   ·rw[e];exact .head _
  ·exact .tail _ (h.mem (fun y hy=>hl y (.tail _ hy)) e)
def prS(q:Nat):Bool:=decide (1<q)&&(List.range 70).all fun i=>decide (q<=i+2) || decide (q%(i+2)≠0)
theorem Qny{q:Nat}(h:prS q=true)(hs:q<4900):Pr q:=by
 unfold prS at h
 rw[Bool.and_eq_true,decide_eq_true_iff,List.all_eq_true]at h
 obtain⟨h1,h2⟩:=h
 refine⟨h1,fun d hd=>?_⟩
 apply Classical.byContradiction
 intro hc
 have hd0:d≠0:=fun e=>by rw[e]at hd;have:=Nat.eq_zero_of_zero_dvd hd;omega
 obtain⟨e,he⟩:=hd
 have hdl:=Nat.le_of_dvd (by omega) (show d ∣ q from ⟨e,he⟩)
 have key:∀ i,1<i->i<70->i ∣ q->i=q:=fun i h3 h4 h5=>by
  have:=h2 (i-2) (List.mem_range.2 (by omega))
  rw[show i-2+2=i by omega,Bool.or_eq_true,decide_eq_true_iff,decide_eq_true_iff]at this
  rcases this with h|h
  ·have:=Nat.le_of_dvd (by omega) h5;omega
  ·exact absurd (Nat.mod_eq_zero_of_dvd h5) h
 have hd1:1<d:=by omega
 have he1:1<e:=by
  rcases Nat.lt_or_ge 1 e with h|h
  ·exact h
  ·exfalso
   have:e=0∨e=1:=by omega
   rcases this with rfl|rfl <;> simp at he <;> omega
 have hde:d<70∨e<70:=by
  apply Classical.byContradiction
  intro h
  have:=Nat.mul_le_mul (show 70<=d by omega) (show 70<=e by omega)
  omega
 rcases hde with h|h
 ·exact hc (.inr (key d hd1 h ⟨e,he⟩))
 ·have:=key e he1 h ⟨d,by rw[Nat.mul_comm];exact he⟩
  rw[this]at he
  have:=Nat.mul_le_mul_right q (show 2<=d by omega)
  omega
theorem fitP:∀ {ys T:List Nat},ys.Nodup->(∀ y∈ys,y∈T)->ys.length<=T.length
 | [],_,_,_=>Nat.zero_le _
 | y::ys,T,hn,hs=>by
  have hy:=hs y (.head _)
  have h1:∀ z∈ys,z∈T.erase y:=fun z hz=>by
   have hne:z≠y:=fun e=>(List.nodup_cons.1 hn).1 (e ▸ hz)
   exact(List.mem_erase_of_ne hne).2 (hs z (.tail _ hz))
  have h2:=fitP (List.nodup_cons.1 hn).2 h1
  have h3:=List.length_erase_of_mem hy
  have:=List.length_pos_of_mem hy
  simp only[List.length_cons]
  omega
theorem fills{ys T:List Nat}(hn:ys.Nodup)(hs:∀ y∈ys,y∈T)(hl:T.length<=ys.length):∀ t∈T,t∈ys:=fun t ht=>by
 apply Classical.byContradiction
 intro h
 have:=fitP (ys:=t::ys) (T:=T) (List.nodup_cons.2 ⟨h,hn⟩) fun y hy=>by
  rcases List.mem_cons.1 hy with rfl|hy
  ·exact ht
  ·exact hs y hy
 simp only[List.length_cons]at this
 omega
theorem QbW{p g a b:Nat}(ha:g^a%p=1%p)(hb:g^b%p=1%p):g^(a%b)%p=1%p:=by
 have hq:g^(b*(a/b))%p=1%p:=by rw[Nat.pow_mul,Nat.pow_mod,hb,← Nat.pow_mod,Nat.one_pow]
 have:g^a%p=g^(a%b)%p:=by
  conv=>lhs;rw[← Nat.mod_add_div a b,Nat.pow_add,Nat.mul_mod,hq,← Nat.mul_mod,Nat.mul_one]
 rw[← this,ha]
theorem QbX{p g:Nat}:∀(a b:Nat),g^a%p=1%p->g^b%p=1%p->g^Nat.gcd a b%p=1%p:=by
 intro a b
 induction a,b using Nat.gcd.induction with
 | H0 b=>intro _ h;rw[Nat.gcd_zero_left];exact h
 | H1 a b ha ih =>
  intro h1 h2
  rw[Nat.gcd_rec]
  exact ih (QbW h2 h1) h1
theorem lucas{p g:Nat}(l:List Nat)(hp:1<p)(hl:∀ q∈l,Pr q)(hm:l.foldr (·*·) 1=p-1)(h1:g^(p-1)%p=1)(hq:∀ q∈l,g^((p-1)/q)%p≠1):∀ a,0<a->a<p->a^(p-1)%p=1:=by
 have one:1%p=1:=Nat.mod_eq_of_lt hp
 have ord:∀ d,0<d->d<p-1->g^d%p≠1:=fun d h2 h3 h4=>by
  have h5:=QbX (p:=p) (g:=g) d (p-1) (by rw[h4,one]) (by rw[h1,one])
  have h6:Nat.gcd d (p-1) ∣ p-1:=Nat.gcd_dvd_right _ _
  have h7:Nat.gcd d (p-1)<=d:=Nat.le_of_dvd h2 (Nat.gcd_dvd_left _ _)
  have h8:0<Nat.gcd d (p-1):=Nat.gcd_pos_of_pos_left _ h2
  generalize Nat.gcd d (p-1)=e at *
  obtain⟨m,hm2⟩:=h6
  have h9:1<m:=by
   rcases Nat.lt_or_ge 1 m with h|h
   ·exact h
   ·exfalso
    have:m=0∨m=1:=by omega
    rcases this with rfl|rfl <;> simp at hm2 <;> omega
  obtain⟨q,hqp,hqm⟩:=Qfx m h9
  have hin:q∈l:=hqp.mem hl (by rw[hm,hm2];exact Nat.dvd_trans hqm ⟨e,Nat.mul_comm _ _⟩)
  refine hq q hin ?_
  obtain⟨k,rfl⟩:=hqm
  have:(p-1)/q=e*k:=by
   rw[hm2,Nat.mul_left_comm,Nat.mul_div_cancel_left _ (by have:=hqp.1;omega)]
  rw[this,Nat.pow_mul,Nat.pow_mod,h5,← Nat.pow_mod,Nat.one_pow,one]
 have unit:∀ i,i<=p-1->g^i%p*(g^(p-1-i)%p)%p=1:=fun i hi=>by
  rw[← Nat.mul_mod,← Nat.pow_add,show i+(p-1-i)=p-1 by omega,h1]
 have inj:∀ i j,i<j->j<p-1->g^i%p≠g^j%p:=fun i j h2 h3 h4=>by
  refine ord (j-i) (by omega) (by omega) ?_
  have u:=unit i (by omega)
  have:g^j%p=g^(j-i)%p*(g^i%p)%p:=by rw[← Nat.mul_mod,← Nat.pow_add,show j-i+i=j by omega]
  rw[h4]at u
  have e2:g^(j-i)%p*(g^i%p)%p*(g^(p-1-i)%p)%p=g^(j-i)%p:=by
   rw[Nat.mod_mul_mod,Nat.mul_assoc,Nat.mul_mod,h4,u,Nat.mul_one,Nat.mod_mod,Nat.mod_mod]
  rw[← this,u]at e2
  exact e2.symm
 intro a ha hap
 have hall:=fills (ys:=(List.range (p-1)).map fun i=>g^i%p) (T:=(List.range (p-1)).map (·+1)) (by
  rw[List.nodup_iff_pairwise_ne,List.pairwise_map]
  exact List.pairwise_lt_range.imp_of_mem fun {i j} hi hj hij=>inj i j hij (List.mem_range.1 hj)) (fun y hy=>by
  obtain⟨i,hi,rfl⟩:=List.mem_map.1 hy
  have u:=unit i (by have:=List.mem_range.1 hi;omega)
  have:g^i%p≠0:=fun e=>by rw[e]at u;simp at u
  have:=Nat.mod_lt (g^i) (show 0<p by omega)
  exact List.mem_map.2 ⟨g^i%p-1,List.mem_range.2 (by omega),by omega⟩) (by simp) a (List.mem_map.2 ⟨a-1,List.mem_range.2 (by omega),by omega⟩)
 obtain⟨i,hi,rfl⟩:=List.mem_map.1 hall
 rw[← Nat.pow_mod,← Nat.pow_mul,Nat.mul_comm,Nat.pow_mul,Nat.pow_mod,h1,Nat.one_pow,one]
theorem Qce{p:Nat}(hp:1<p)(h:∀ a,0<a->a<p->a^(p-1)%p=1):Pr p:=by
 refine⟨hp,fun d hd=>?_⟩
 apply Classical.byContradiction
 intro hc
 have hle:=Nat.le_of_dvd (by omega) hd
 have hd0:d≠0:=fun e=>by rw[e]at hd;have:=Nat.eq_zero_of_zero_dvd hd;omega
 have h1:=h d (by omega) (by omega)
 have h2:d ∣ d^(p-1):=by
  obtain⟨k,hk⟩:∃ k,p-1=k+1:=⟨p-2,by omega⟩
  rw[hk,Nat.pow_succ];exact⟨_,Nat.mul_comm _ _⟩
 have h3:d ∣ d^(p-1)%p:=(Nat.dvd_mod_iff hd).2 h2
 rw[h1]at h3
 have:=Nat.le_of_dvd (by decide) h3
 omega
def sm:Nat->(Nat->Int)->Int
 | 0,_=>0
 | n+1,f=>sm n f+f n
theorem XT:∀ {n:Nat} {f g:Nat->Int},(∀ i,i<n->f i=g i)->sm n f=sm n g
 | 0,_,_,_=>rfl
 | n+1,f,g,h=>by unfold sm;rw[XT fun i hi=>h i (by omega),h n (by omega)]
theorem yj{p:Nat}:∀ {n:Nat} {f g:Nat->Int},(∀ i,i<n->Cg p (f i) (g i))->Cg p (sm n f) (sm n g)
 | 0,_,_,_=>Cg.rfl
 | n+1,f,g,h=>by unfold sm;exact(yj fun i hi=>h i (by omega)).add (h n (by omega))
theorem sm_zero:∀ {n:Nat},sm n (fun _=>0)=0
 | 0=>rfl
 | n+1=>by unfold sm;rw[sm_zero];rfl
theorem Qgl:∀ {n:Nat},sm n (fun _=>1)=n
 | 0=>rfl
 | n+1=>by unfold sm;rw[Qgl];rfl
theorem UT:∀ {n:Nat} {f g:Nat->Int},sm n (fun i=>f i+g i)=sm n f+sm n g
 | 0,_,_=>rfl
 | n+1,f,g=>by simp only[sm];rw[UT];omega
theorem Z7(k:Int):∀ {n:Nat} {f:Nat->Int},sm n (fun i=>k*f i)=k*sm n f
 | 0,_=>by simp[sm]
 | n+1,f=>by unfold sm;rw[Z7 k,Int.mul_add]
theorem QjR(k:Int){n:Nat}{f:Nat->Int}:sm n (fun i=>f i*k)=sm n f*k:=by
 rw[Int.mul_comm,← Z7];exact XT fun i _=>Int.mul_comm _ _
theorem QdL:∀ {n m:Nat} {f:Nat->Nat->Int},sm n (fun i=>sm m fun j=>f i j)=sm m fun j=>sm n fun i=>f i j
 | 0,m,f=>by simp only[sm];exact sm_zero.symm
 | n+1,m,f=>by
  simp only[sm]
  rw[QdL (n:=n),← UT]
theorem QdN:∀ {n:Nat} {f:Nat->Int},sm (2*n) f=sm n (fun i=>f (2*i))+sm n fun i=>f (2*i+1)
 | 0,_=>rfl
 | n+1,f=>by
  rw[show 2*(n+1)=2*n+1+1 by omega]
  simp only[sm]
  rw[QdN (n:=n)]
  omega
theorem QdO(k:Nat)(x:Int):∀ {n:Nat},k<n->sm n (fun i=>if i=k then x else 0)=x
 | n+1,h=>by
  simp only[sm]
  by_cases e:n=k
  ·subst e
   rw[if_pos rfl,XT (g:=fun _=>0) fun i hi=>if_neg (by omega),sm_zero];omega
  ·rw[if_neg e,QdO k x (n:=n) (by omega)];omega
theorem Cg.pow{p:Nat}{a b:Int}(h:Cg p a b):∀ n:Nat,Cg p (a^n) (b^n)
 | 0=>by rw[Int.pow_zero,Int.pow_zero];exact Cg.rfl
 | n+1=>by rw[Int.pow_succ,Int.pow_succ];exact(Cg.pow h n).mul h
theorem Y8:∀ n:Nat,(1:Int)^n=1
 | 0=>rfl
 | n+1=>by rw[Int.pow_succ,Y8];rfl
theorem QaD(w:Int)(n:Nat):(w*w)^n=w^(2*n):=by
 rw[Int.pow_mul,Int.pow_succ,Int.pow_succ,Int.pow_zero,Int.one_mul]
def evs:List Nat->List Nat
 | x::_::l=>x::evs l
 | l=>l
def ods:List Nat->List Nat
 | _::y::l=>y::ods l
 | _=>[]
theorem UG:∀(l:List Nat) (n i:Nat),l.length=2*n->i<n->(evs l).getD i 0=l.getD (2*i) 0
 | [],n,i,h,hi=>by simp at h;omega
 | [x],n,i,h,hi=>by simp at h;omega
 | x::y::l,n,0,h,hi=>rfl
 | x::y::l,n,i+1,h,hi=>by
  have:=UG l (n-1) i (by simp at h;omega) (by omega)
  rw[show 2*(i+1)=2*i+2 by omega]
  exact this
theorem Uz:∀(l:List Nat) (n i:Nat),l.length=2*n->i<n->(ods l).getD i 0=l.getD (2*i+1) 0
 | [],n,i,h,hi=>by simp at h;omega
 | [x],n,i,h,hi=>by simp at h;omega
 | x::y::l,n,0,h,hi=>rfl
 | x::y::l,n,i+1,h,hi=>by
  have:=Uz l (n-1) i (by simp at h;omega) (by omega)
  rw[show 2*(i+1)+1=2*i+1+2 by omega]
  exact this
theorem JK:∀(l:List Nat) (n:Nat),l.length=2*n->(evs l).length=n
 | [],n,h=>by simp at h;simp[evs];omega
 | [x],n,h=>by simp at h;omega
 | x::y::l,n,h=>by have:=JK l (n-1) (by simp at h;omega);simp at h;simp[evs,this];omega
theorem yD:∀(l:List Nat) (n:Nat),l.length=2*n->(ods l).length=n
 | [],n,h=>by simp at h;simp[ods];omega
 | [x],n,h=>by simp at h;omega
 | x::y::l,n,h=>by have:=yD l (n-1) (by simp at h;omega);simp at h;simp[ods,this];omega
theorem UF:∀(l:List Nat),∀ x∈evs l,x∈l
 | [],x,h=>h
 | [y],x,h=>h
 | y::z::l,x,h=>by
  rcases List.mem_cons.1 (show x∈y::evs l from h) with rfl|h
  ·exact .head _
  ·exact .tail _ (.tail _ (UF l x h))
theorem QaS:∀(l:List Nat),∀ x∈ods l,x∈l
 | [],x,h=>by simp[ods]at h
 | [y],x,h=>by simp[ods]at h
 | y::z::l,x,h=>by
  rcases List.mem_cons.1 (show x∈z::ods l from h) with rfl|h
  ·exact .tail _ (.head _)
  ·exact .tail _ (.tail _ (QaS l x h))
def pwM(p w:Nat):Nat->Nat
 | 0=>1
 | n+1=>pwM p w n*w%p
theorem QaH{p w:Nat}:∀ n,Cg p (pwM p w n:Nat) ((w:Int)^n)
 | 0=>Cg.of_eq (by rw[Int.pow_zero];rfl)
 | n+1=>by
  unfold pwM
  rw[Int.pow_succ]
  refine Cg.modN.trans ?_
  rw[Int.natCast_mul]
  exact(QaH n).mul Cg.rfl
theorem QcY{p w:Nat}(hp:1<p):∀ n,pwM p w n<p
 | 0=>hp
 | n+1=>Nat.mod_lt _ (by omega)
def trM(p:Nat):Nat->List Nat->Nat->List Nat
 | 0,cs,_=>cs
 | s+1,cs,w =>
  ((List.range (2^s)).map fun i=>adM p ((trM p s (evs cs) (w*w%p)).getD i 0) (pwM p w i*(trM p s (ods cs) (w*w%p)).getD i 0%p)) ++
  ((List.range (2^s)).map fun i=>sbM p ((trM p s (evs cs) (w*w%p)).getD i 0) (pwM p w i*(trM p s (ods cs) (w*w%p)).getD i 0%p))
theorem ZY(p:Nat):∀(s:Nat) (cs:List Nat) (w:Nat),cs.length=2^s->(trM p s cs w).length=2^s
 | 0,cs,w,h=>h
 | s+1,cs,w,h=>by unfold trM;simp[Nat.pow_succ];omega
def Rt(p s w:Nat):Prop:=s=0∨Cg p ((w:Int)^(2^(s-1))) (-1)
theorem Rt.sq{p s w:Nat}(h:Rt p (s+1) w):Rt p s (w*w%p):=by
 cases s with
 | zero=>exact .inl rfl
 | succ s =>
  refine .inr ?_
  have h:=h.resolve_left (by omega)
  refine((Cg.modN.pow _).trans ?_)
  rw[Int.natCast_mul,QaD]
  have e:2*2^(s+1-1)=2^(s+1+1-1):=by rw[show s+1+1-1=s+1 by omega,show s+1-1=s by omega,Nat.pow_succ];omega
  rw[e];exact h
theorem UN{p:Nat}(hp:1<p):∀(s:Nat) (cs:List Nat) (w:Nat),cs.length=2^s->(∀ x∈cs,x<p)->Rt p s w ->
  (∀ x∈trM p s cs w,x<p)/\∀ k,k<2^s->Cg p ((trM p s cs w).getD k 0:Nat) (sm (2^s) fun i=>((cs.getD i 0:Nat):Int)*(w:Int)^(i*k))
 | 0,cs,w,hl,hc,_=>by
  refine⟨hc,fun k hk=>?_⟩
  have:k=0:=by omega
  subst this
  refine Cg.of_eq ?_
  simp[trM,sm]
 | s+1,cs,w,hl,hc,hr=>by
  have hl2:cs.length=2*2^s:=by rw[hl,Nat.pow_succ];omega
  obtain⟨a1,a2⟩:=UN hp s (evs cs) (w*w%p) (JK cs _ hl2) (fun x hx=>hc x (UF cs x hx)) hr.sq
  obtain⟨b1,b2⟩:=UN hp s (ods cs) (w*w%p) (yD cs _ hl2) (fun x hx=>hc x (QaS cs x hx)) hr.sq
  have la:=ZY p s (evs cs) (w*w%p) (JK cs _ hl2)
  have lb:=ZY p s (ods cs) (w*w%p) (yD cs _ hl2)
  have ga:∀ i,i<2^s->(trM p s (evs cs) (w*w%p)).getD i 0<p:=fun i hi=>by
   rw[List.getD_eq_getElem?_getD,List.getElem?_eq_getElem (by omega)];exact a1 _ (List.getElem_mem _)
  have hw:Cg p ((w:Int)^2^s) (-1):=hr.resolve_left (by omega)
  have sq:∀ n:Nat,Cg p (((w*w%p:Nat):Int)^n) ((w:Int)^(2*n)):=fun n=>by
   rw[← QaD,← Int.natCast_mul];exact Cg.modN.pow n
  refine⟨fun x hx=>?_,fun k hk=>?_⟩
  ·unfold trM at hx
   rcases List.mem_append.1 hx with h|h <;> obtain⟨i,hi,rfl⟩:=List.mem_map.1 h
   ·exact Qdv (ga i (List.mem_range.1 hi)) (Nat.mod_lt _ (by omega))
   ·exact y7 (ga i (List.mem_range.1 hi))
  ·rw[show 2^(s+1)=2*2^s by rw[Nat.pow_succ];omega]at hk ⊢
   rw[QdN]
   by_cases h:k<2^s
   ·have e:(trM p (s+1) cs w).getD k 0=adM p ((trM p s (evs cs) (w*w%p)).getD k 0) (pwM p w k*(trM p s (ods cs) (w*w%p)).getD k 0%p):=by
     show (_++_:List Nat).getD k 0=_
     rw[List.getD_eq_getElem?_getD,List.getElem?_append_left (by simpa using h)]
     simp[h]
    rw[e]
    refine adM_cg.trans (Cg.add ((a2 k h).trans (yj fun i hi=>?_)) (Cg.modN.trans ?_))
    ·rw[UG cs _ i hl2 hi]
     refine Cg.rfl.mul ((sq _).trans (Cg.of_eq ?_))
     rw[Nat.mul_assoc]
    ·rw[Int.natCast_mul]
     refine((QaH k).mul (b2 k h)).trans ?_
     rw[← Z7]
     refine yj fun i hi=>?_
     rw[Uz cs _ i hl2 hi,Int.mul_left_comm]
     refine Cg.rfl.mul ((Cg.rfl.mul (sq _)).trans (Cg.of_eq ?_))
     rw[← Int.pow_add]
     congr 1
     rw[Nat.add_mul,Nat.one_mul,Nat.mul_assoc];omega
   ·obtain⟨m,rfl⟩:∃ m,k=2^s+m:=⟨k-2^s,by omega⟩
    have hm:m<2^s:=by omega
    have e:(trM p (s+1) cs w).getD (2^s+m) 0=sbM p ((trM p s (evs cs) (w*w%p)).getD m 0) (pwM p w m*(trM p s (ods cs) (w*w%p)).getD m 0%p):=by
     show (_++_:List Nat).getD (2^s+m) 0=_
     rw[List.getD_eq_getElem?_getD,List.getElem?_append_right (by simp)]
     simp[hm]
    rw[e]
    have w2:∀ i:Nat,Cg p ((w:Int)^(2*i*(2^s+m))) ((w:Int)^(2*(i*m))):=fun i=>by
     rw[show 2*i*(2^s+m)=2^s*(2*i)+2*(i*m) by rw[Nat.mul_add,Nat.mul_comm (2*i) (2^s),Nat.mul_assoc 2 i m],Int.pow_add,Int.pow_mul]
     refine(Cg.mul ((hw.pow (2*i)).trans (Cg.of_eq ?_)) Cg.rfl).trans (Cg.of_eq (Int.one_mul _))
     rw[Int.pow_mul]
     exact Y8 i
    have fin:Cg p (((trM p s (evs cs) (w*w%p)).getD m 0:Nat)-((pwM p w m*(trM p s (ods cs) (w*w%p)).getD m 0%p:Nat):Int)) ((sm (2^s) fun i=>((cs.getD (2*i) 0:Nat):Int)*(w:Int)^(2*i*(2^s+m))) - -(sm (2^s) fun i=>((cs.getD (2*i+1) 0:Nat):Int)*(w:Int)^((2*i+1)*(2^s+m)))):=?_
    exact(QcQ (Nat.le_of_lt (Nat.mod_lt _ (by omega)))).trans (fin.trans (Cg.of_eq (by omega)))
    refine Cg.sub ((a2 m hm).trans (yj fun i hi=>?_)) (Cg.modN.trans ?_)
    ·rw[UG cs _ i hl2 hi]
     exact Cg.rfl.mul ((sq _).trans (w2 i).symm)
    ·rw[Int.natCast_mul]
     refine((QaH m).mul (b2 m hm)).trans ?_
     rw[← Z7,show -(sm (2^s) fun i=>((cs.getD (2*i+1) 0:Nat):Int)*(w:Int)^((2*i+1)*(2^s+m)))=sm (2^s) fun i => -1*(((cs.getD (2*i+1) 0:Nat):Int)*(w:Int)^((2*i+1)*(2^s+m))) by rw[Z7];omega]
     refine yj fun i hi=>?_
     rw[Uz cs _ i hl2 hi,Int.mul_left_comm,Int.mul_left_comm (-1)]
     refine Cg.rfl.mul ((Cg.rfl.mul (sq _)).trans ?_)
     rw[Nat.add_mul,Nat.one_mul,Int.pow_add,Int.pow_add]
     refine Cg.symm (((Cg.rfl.mul ((w2 i).mul (hw.mul Cg.rfl)))).trans (Cg.of_eq ?_))
     grind
theorem geo{x:Int}:∀ n:Nat,(x-1)*sm n (fun i=>x^i)=x^n-1
 | 0=>by simp[sm]
 | n+1=>by
  simp only[sm]
  rw[Int.mul_add,geo n,Int.pow_succ,Int.sub_mul,Int.mul_comm (x^n)];omega
open Go.Ab
set_option maxHeartbeats 16000000
set_option maxRecDepth 20000
attribute [local irreducible] Qm wA Xp Xo QI Qp QZ QY
variable [HB]
abbrev fld(p g:Nat):AV := .agg [.int .u64 (p:Nat),.int .u64 (g:Nat)]
abbrev u(n:Nat):AV := .sc (.int .u64 (n:Nat))
theorem Za(h0:Qa)(p g a b:Nat)(hp:0<p/\p<18446744073709551616)(ha:a<18446744073709551616)(hb:b<18446744073709551616):∃ r h',Cal FT HKt 98 [fld p g,u a,u b] h0 r h'/\Ext h0 h'/\r=u (a*b%p):=by
 refine Cal.of (F:=a98) rfl rfl rfl ?_
 have k103:=fun H=>QeQ H (a:Int) (b:Int) ⟨by omega,by omega⟩ ⟨by omega,by omega⟩
 rw[← GZ]at k103
 have hlt:a*b<18446744073709551616*18446744073709551616:=Nat.mul_lt_mul'' ha hb
 generalize hm:a*b=m at *
 have k124:=fun H=>Qlb H (m/18446744073709551616) (m%18446744073709551616) p (by omega) (by omega) hp
 rw[show m/18446744073709551616*18446744073709551616+m%18446744073709551616=m by omega]at k124
 rw[show ((m:Nat):Int)/18446744073709551616=((m/18446744073709551616:Nat):Int) by omega,show ((m:Nat):Int)%18446744073709551616=((m%18446744073709551616:Nat):Int) by omega]at k103
 repeat' first|apply Qf|apply Qb|apply Qs|apply Qe|(apply Qd;first|refine Qq rfl ?_|refine Qu rfl rfl rfl ?_)|(apply Qc;first|(refine QD rfl ?_;intro h1 e1 c1)|(refine Qj rfl (k103 _) ?_;rintro v _ ⟨rfl,rfl⟩)|refine QW rfl ?_|refine QN rfl c1 ?_|(refine Qj rfl (k124 _) ?_;rintro v _ ⟨rfl,rfl⟩)|refine Ql rfl ?_|refine Xk rfl rfl ?_)
 exact⟨.inr rfl,e1,rfl⟩
def YM(p:Nat):Nat->Nat->Nat->Nat->Nat
 | 0,r,_,_=>r
 | n+1,r,a,e=>if e=0 then r else frc (if e%2=1 then r*a%p else r) fun r'=>frc (a*a%p) fun a'=>frc (e/2) fun e'=>YM p n r' a' e'
theorem Jg(p n r a e:Nat):YM p (n+1) r a e=if e=0 then r else YM p n (if e%2=1 then r*a%p else r) (a*a%p) (e/2):=by
 simp only[YM,Yu]
theorem Qfy(p n r a:Nat):YM p n r a 0=r:=by
 cases n
 ·rfl
 ·rw[Jg,if_pos rfl]
theorem Qd7(p:Nat)(hp:0<p):∀(n r a e:Nat),r<18446744073709551616->p<18446744073709551616->YM p n r a e<18446744073709551616
 | 0,r,a,e,h,_=>h
 | n+1,r,a,e,h,h2=>by
  rw[Jg]
  split
  ·exact h
  ·refine Qd7 p hp n _ _ _ ?_ h2
   split
   ·have:=GY (r*a) hp;omega
   ·exact h
def I119(h0:Qa)(q3 p g X:Nat)(k:Nat)(E:Env)(h:Qa):Prop:=∃ r a e:Nat,r<18446744073709551616/\a<18446744073709551616/\e<2^k/\k<=64/\YM p k r a e=X/\Ext h0 h/\Cel h q3 (.int .u64 (p:Nat)) (.int .u64 (g:Nat)) ∧
 E.keep [1,2,3,7]=[(1,some (u a)),(2,some (u e)),(3,some (.sc (.ptr q3 0))),(7,some (u r))]
def R119(h0:Qa)(X:Nat)(ex:Ex)(E:Env)(h:Qa):Prop:=ex = .ex 0/\Ext h0 h/\∃ a b c d,E=[(1,a),(2,b),(3,c),(7,some (u X)),(9,d)]
theorem QgQ(h0:Qa)(q3 p g X:Nat)(hp:0<p/\p<18446744073709551616)(k:Nat)(E:Env)(h:Qa)(hI:I119 h0 q3 p g X k E h) :
  wA FT HKt QiB (E.keep [1,2,3,7]) h (Qp (I119 h0 q3 p g X) k (R119 h0 X)):=by
 obtain⟨r,a,e,hr,ha,he,hk,hX,x,c3,hE⟩:=hI
 rw[hE]
 have he64:e<18446744073709551616:=GL he (GN (by decide) hk)
 have c3':Cel h q3 (.int .u64 (p:Nat)) (.int .u64 (g:Nat)):=c3
 by_cases h0':e=0
 ·subst h0'
  rw[Qfy]at hX
  subst hX
  repeat' first|apply Qf|apply Qb|apply QS|apply QQ|apply Qe|(apply Qg;refine Qi rfl ?_)|(apply Qd;refine QO rfl rfl rfl rfl rfl ?_)|(apply Qc;first|refine Ql rfl ?_|refine XD rfl rfl (by omega) ?_)
  exact QB ⟨rfl,x,_,_,_,_,rfl⟩
 cases k with
 | zero=>simp at he;omega
 | succ k =>
 rw[Jg,if_neg h0']at hX
 have k2:=fun H=>Za H p g a a hp ha ha
 have k1:=fun H=>Za H p g r a hp hr ha
 have hsh:(e:Int)/((2^1:Nat):Int)=((e/2:Nat):Int):=by omega
 have hp2:e/2<2^k:=by rw[Nat.pow_succ]at he;omega
 by_cases ho:e%2=1
 ·have h1:(e:Int)%((2^1:Nat):Int)=1:=by omega
  rw[if_pos ho]at hX
  repeat' first|apply Qf|apply Qb|apply Qt|apply QL|apply Qn|apply Qe|(apply Qg;refine Qk rfl ?_)|(apply Qd;first|refine QG rfl rfl rfl rfl ?_|refine QO rfl rfl rfl rfl rfl ?_)|(apply Qc;first|refine Qa5 (q:=1) rfl rfl (by omega) (by omega) rfl ?_|refine XU (q:=1) rfl rfl rfl (by omega) ?_|refine QU rfl c3' ?_|(have z:=e1;refine QU rfl c31 ?_)|(refine Qj rfl (k1 _) ?_;rintro v h1 ⟨e1,rfl⟩;have c31:=c3.ext e1)|(refine Qj rfl (k2 _) ?_;rintro v h2 ⟨e2,rfl⟩)|refine Ql rfl ?_|refine XK rfl rfl (by omega) ?_|refine Xu rfl rfl (by omega) ?_)
  refine Qz (j:=k) (by omega) ⟨r*a%p,a*a%p,e/2,?_,?_,hp2,by omega,hX,(x.trans e1).trans e2,c31.ext e2,?_⟩
  ·have:=GY (r*a) hp.1;omega
  ·have:=GY (a*a) hp.1;omega
  ·show [(1,some (u (a*a%p))),(2,some (.sc (.int .u64 ((e:Int)/((2^1:Nat):Int))))),(3,_),(7,_)]=_
   rw[hsh];rfl
 ·have h1:(e:Int)%((2^1:Nat):Int)=0:=by omega
  rw[if_neg ho]at hX
  repeat' first|apply Qf|apply Qb|apply Qt|apply QL|apply Qn|apply Qe|(apply Qg;first|refine Qk rfl ?_|refine Qi rfl ?_)|(apply Qd;first|refine QG rfl rfl rfl rfl ?_|refine QO rfl rfl rfl rfl rfl ?_)|(apply Qc;first|refine Qa5 (q:=1) rfl rfl (by omega) (by omega) rfl ?_|refine XU (q:=1) rfl rfl rfl (by omega) ?_|refine QU rfl c3' ?_|(refine Qj rfl (k2 _) ?_;rintro v h2 ⟨e2,rfl⟩)|refine Ql rfl ?_|refine XK rfl rfl (by omega) ?_|refine Xl rfl rfl (by omega) ?_)
  refine Qz (j:=k) (by omega) ⟨r,a*a%p,e/2,hr,?_,hp2,by omega,hX,x.trans e2,c3.ext e2,?_⟩
  ·have:=GY (a*a) hp.1;omega
  ·show [(1,some (u (a*a%p))),(2,some (.sc (.int .u64 ((e:Int)/((2^1:Nat):Int))))),(3,_),(7,_)]=_
   rw[hsh];rfl
theorem yU(h0:Qa)(p g a e:Nat)(hp:0<p/\p<18446744073709551616)(ha:a<18446744073709551616)(he:e<18446744073709551616):∃ r h',Cal FT HKt 119 [fld p g,u a,u e] h0 r h'/\Ext h0 h'/\r=u (YM p 64 1 a e):=by
 refine Cal.of (F:=a119) rfl rfl rfl ?_
 repeat' first|apply Qf|apply Qb|apply Qt|apply Qe|(apply Qd;first|refine Qu rfl rfl rfl ?_|refine QG rfl rfl rfl rfl ?_)|(apply Qc;first|(refine QD rfl ?_;intro h1 e1 c1)|refine Ql rfl ?_)
 refine QV (I119 h0 h0.length p g (YM p 64 1 a e)) 64 (R119 h0 (YM p 64 1 a e)) ⟨1,a,e,by omega,ha,he,Gd _,rfl,e1,c1,rfl⟩ (QgQ h0 h0.length p g _ hp) ?_
 rintro ex E' h2 ⟨rfl,x2,_,_,_,_,rfl⟩
 repeat' first|apply Qf|apply Qb|apply QK|apply Qs|apply Qe|(apply Qd;refine Qq rfl ?_)|(apply Qc;refine Ql rfl ?_)
 exact⟨.inr rfl,x2,rfl⟩
def sqM(p m:Nat):Nat->Nat->Bool
 | 0,a=>a==m
 | n+1,a=>if a=m then true else frc (a*a%p) fun a'=>sqM p m n a'
def mrB(n s d b:Nat):Bool:=frc (YM n 64 1 b d) fun a=>if a=1 then true else sqM n (n-1) (s-1) a
def basesL:List Nat:=[2,3,5,7,11,13,17,19,23,29,31,37]
def prM(n:Nat):Bool:=frc (Lib.ctz 64 (n-1)) fun s=>frc ((n-1)/2^s) fun d=>basesL.all fun b=>mrB n s d b
def Qjf(h0:Qa)(q3 n s:Nat)(X:Bool)(b14 b15:AV)(k:Nat)(E:Env)(h:Qa):Prop:=∃ a i:Nat,a<18446744073709551616/\k=s-i/\1<=i/\sqM n (n-1) (s-i) a=X/\Ext h0 h/\Cel h q3 (.int .u64 (n:Nat)) (.int .u64 0) ∧
 E.keep [0,3,4,7,8,14,15]=[(0,some (u n)),(3,some (.sc (.ptr q3 0))),(4,some (.sc (.int .i64 (s:Nat)))),(7,some (u a)),(8,some (.sc (.int .i64 (i:Nat)))),(14,some b14),(15,some b15)]
def QmL(h0:Qa)(q3 n s:Nat)(X:Bool)(b14 b15:AV)(ex:Ex)(E:Env)(h:Qa):Prop:=ex = .ex 2/\Ext h0 h/\Cel h q3 (.int .u64 (n:Nat)) (.int .u64 0)/\∃(a:Nat) (c d:Option AV),a<18446744073709551616/\(a==n-1)=X ∧
 E=[(0,some (u n)),(3,some (.sc (.ptr q3 0))),(4,some (.sc (.int .i64 (s:Nat)))),(7,some (u a)),(8,c),(14,some b14),(15,some b15),(35,d)]
theorem Qff(h0:Qa)(q3 n s:Nat)(X:Bool)(b14 b15:AV)(hn:2<n/\n<18446744073709551616)(hs:s<=64)(k:Nat)(E:Env)(h:Qa)(hI:Qjf h0 q3 n s X b14 b15 k E h) :
  wA FT HKt QiC (E.keep [0,3,4,7,8,14,15]) h (Qp (Qjf h0 q3 n s X b14 b15) k (QmL h0 q3 n s X b14 b15)):=by
 obtain⟨a,i,ha,rfl,hi,hX,x,c3,hE⟩:=hI
 rw[hE]
 have c3':Cel h q3 (.int .u64 (n:Nat)) (.int .u64 (0:Nat)):=c3
 by_cases h1:i<s
 ·obtain⟨k,hk⟩:∃ k,s-i=k+1:=⟨s-i-1,by omega⟩
  rw[hk]at hX ⊢
  by_cases h2:a=n-1
  ·unfold sqM at hX
   rw[if_pos h2]at hX
   repeat' first|apply Qf|apply Qb|apply QS|apply QQ|apply Qe|(apply Qg;refine Qi rfl ?_)|(apply Qd;refine Xh rfl rfl rfl rfl rfl rfl rfl rfl ?_)|(apply Qc;first|refine XN rfl rfl (by omega) ?_|refine QP rfl ?_|refine Ql rfl ?_|refine QR rfl rfl ?_|refine Qx rfl rfl (by omega) ?_|refine XJ rfl rfl (by omega) ?_)
   exact QB ⟨rfl,x,c3,a,_,_,ha,by rw[← hX];simp[h2],rfl⟩
  ·unfold sqM at hX
   rw[if_neg h2,Yu]at hX
   have k98:=fun H=>Za H n 0 a a ⟨by omega,hn.2⟩ ha ha
   repeat' first|apply Qf|apply Qb|apply Qt|apply QL|apply Qn|apply Qe|(apply Qg;refine Qk rfl ?_)|(apply Qd;first|refine Q4 rfl rfl rfl rfl rfl rfl rfl ?_|refine Xh rfl rfl rfl rfl rfl rfl rfl rfl ?_)|(apply Qc;first|refine XN rfl rfl (by omega) ?_|refine QU rfl c3' ?_|(refine Qj rfl (k98 _) ?_;rintro v h2 ⟨e2,rfl⟩)|refine QP rfl ?_|refine Ql rfl ?_|refine QR rfl rfl ?_|refine QM rfl rfl (by omega) ?_|refine Qx rfl rfl (by omega) ?_|refine Ya rfl rfl (by omega) ?_)
   refine Qz (j:=s-(i+1)) (by omega) ⟨a*a%n,i+1,?_,rfl,by omega,?_,x.trans e2,c3.ext e2,rfl⟩
   ·have:=GY (a*a) (show 0<n by omega);omega
   ·rw[← hX,show s-(i+1)=k by omega]
 ·rw[show s-i=0 by omega]at hX ⊢
  have hX':(a==n-1)=X:=hX
  repeat' first|apply Qf|apply Qb|apply QS|apply QQ|apply Qe|(apply Qg;refine Qi rfl ?_)|(apply Qd;refine Xh rfl rfl rfl rfl rfl rfl rfl rfl ?_)|(apply Qc;first|refine Xd rfl ?_|refine Ql rfl ?_|refine QJ rfl rfl ?_|refine QF rfl rfl (by omega) ?_)
  exact QB ⟨rfl,x,c3,a,_,_,ha,hX',rfl⟩
section
variable {FT:zzA} {HK:zzH} {E:Env} {h:Qa} {K:Env->Qa->Prop} {d:Option Nat} {r:List AOp} {x y:AO}
theorem Qer{n j:Nat}{cs:List SV}{v:SV}(hx:ev E x=some (.agg cs))(hi:evS E y=some (.int .i64 (j:Nat)))(hj:j<n)(hc:cut cs (j*1) 1=some [v])(hw:Qm FT HK r (Qv d (some (.sc v))  E) h K):Qm FT HK (⟨d,.idxG n 1 false x y,none⟩::r) E h K:=by
 refine Q2 (v:=some (.sc v)) (h':=h) rfl rfl ?_ hw
 simp only[Qo,hx,hi]
 rw[if_pos ⟨by omega,by omega⟩,Hp,hc];rfl
end
abbrev VE:List SV:=basesL.map fun b => .int .u64 (b:Nat)
def I118(h0:Qa)(q3 n s:Nat)(k:Nat)(E:Env)(h:Qa):Prop:=∃ i:Nat,i<=12/\k=12-i/\(basesL.take i).all (fun b=>mrB n s ((n-1)/2^s) b)=true/\Ext h0 h/\Cel h q3 (.int .u64 (n:Nat)) (.int .u64 0) ∧
 E.keep [0,3,4,14,15]=[(0,some (u n)),(3,some (.sc (.ptr q3 0))),(4,some (.sc (.int .i64 (s:Nat)))),(14,some (.agg VE)),(15,some (.sc (.int .i64 (i:Nat))))]
def R118(h0:Qa)(n s:Nat)(ex:Ex)(E:Env)(h:Qa):Prop:=Ext h0 h/\((ex = .ex 0/\basesL.all (fun b=>mrB n s ((n-1)/2^s) b)=true)∨(ex = .rt/\basesL.all (fun b=>mrB n s ((n-1)/2^s) b)=false/\E=[(2,some (.sc (.bool false)))]))
theorem QgR(h0:Qa)(q3 n s:Nat)(hn:2<n/\n<18446744073709551616)(hs:s<=64)(k:Nat)(E:Env)(h:Qa)(hI:I118 h0 q3 n s k E h) :
  wA FT HKt QiD (E.keep [0,3,4,14,15]) h (Qp (I118 h0 q3 n s) k (R118 h0 n s)):=by
 obtain⟨i,hi,rfl,hall,x,c3,hE⟩:=hI
 rw[hE]
 have c3':Cel h q3 (.int .u64 (n:Nat)) (.int .u64 (0:Nat)):=c3
 by_cases h1:i<12
 ·obtain⟨b,hb⟩:∃ b,basesL[i]?=some b:=⟨_,Ga (show i<basesL.length from h1)⟩
  have hbl:b<18446744073709551616:=by
   have:∀ c∈basesL,c<18446744073709551616:=by decide
   exact this b (Gg hb)
  have hcut:cut VE (i*1) 1=some [.int .u64 (b:Nat)]:=by
   have:∀ j,j<12->cut VE (j*1) 1=some [.int .u64 ((basesL.getD j 0:Nat):Int)]:=by decide
   rw[this i h1,Ge,hb];rfl
  have hd:(n-1)/2^s<18446744073709551616:=Nat.lt_of_le_of_lt (Nat.div_le_self _ _) (by omega)
  have k119:=fun H=>yU H n 0 b ((n-1)/2^s) ⟨by omega,hn.2⟩ hbl hd
  have hsd:((n:Int)-1)/((2^s:Nat):Int)=(((n-1)/2^s:Nat):Int):=by
   rw[show (n:Int)-1=((n-1:Nat):Int) by omega];rfl
  have tk:basesL.take (i+1)=basesL.take i++[b]:=by rw[GB,hb];rfl
  have hmr:mrB n s ((n-1)/2^s) b=if YM n 64 1 b ((n-1)/2^s)=1 then true else sqM n (n-1) (s-1) (YM n 64 1 b ((n-1)/2^s)):=by unfold mrB;rw[Yu]
  have hal:YM n 64 1 b ((n-1)/2^s)<18446744073709551616:=Qd7 n (by omega) 64 1 b _ (by omega) hn.2
  generalize hA:YM n 64 1 b ((n-1)/2^s)=A at *
  have next:mrB n s ((n-1)/2^s) b=true->(basesL.take (i+1)).all (fun b=>mrB n s ((n-1)/2^s) b)=true:=fun e=>by
   rw[tk,List.all_append,hall];simp[e]
  by_cases hA1:A=1
  ·rw[if_pos hA1]at hmr
   repeat' first|apply Qf|apply Qb|apply QS|apply Qt|apply QK|apply Qn|apply QQ|apply Qe|apply Q7|apply Xm|apply Xn|(apply Qg;refine Qk rfl ?_)|(apply Qd;first|apply Q5|apply Xw|refine QO rfl rfl rfl rfl rfl ?_|refine QE rfl rfl rfl rfl rfl rfl ?_|refine Q4 rfl rfl rfl rfl rfl rfl rfl ?_)|(apply Qc;first|refine Qer rfl rfl h1 hcut ?_|refine XN rfl rfl (by omega) ?_|(refine XU (q:=s) rfl rfl rfl hs ?_;rw[hsd])|refine QU rfl c3' ?_|(refine Qj rfl (k119 _) ?_;rintro v h2 ⟨e2,rfl⟩)|refine Ql rfl ?_|refine QM rfl rfl (by omega) ?_|refine Qx rfl rfl (by omega) ?_|refine Xu rfl rfl (by omega) ?_)
   exact Qz (j:=12-(i+1)) (by omega) ⟨i+1,by omega,rfl,next hmr,x.trans e2,c3.ext e2,rfl⟩
  ·rw[if_neg hA1]at hmr
   repeat' first|apply Qf|apply Qb|apply Qt|apply Qn|apply Qe|apply Q7|apply Xm|apply Xn|(apply Qg;first|refine Qk rfl ?_|refine Qi rfl ?_)|(apply Qd;first|apply Q5|apply Xw|refine QE rfl rfl rfl rfl rfl rfl ?_|refine Q4 rfl rfl rfl rfl rfl rfl rfl ?_)|(apply Qc;first|refine Qer rfl rfl h1 hcut ?_|refine XN rfl rfl (by omega) ?_|(refine XU (q:=s) rfl rfl rfl hs ?_;rw[hsd])|refine QU rfl c3' ?_|(refine Qj rfl (k119 _) ?_;rintro v h2 ⟨e2,rfl⟩)|refine Ql rfl ?_|refine Qx rfl rfl (by omega) ?_|refine Xl rfl rfl (by omega) ?_)
   refine QV (Qjf h0 q3 n s (sqM n (n-1) (s-1) A) (.agg VE) (.sc (.int .i64 (i:Nat)))) (s-1) (QmL h0 q3 n s (sqM n (n-1) (s-1) A) (.agg VE) (.sc (.int .i64 (i:Nat)))) ⟨A,1,hal,rfl,Gd _,rfl,x.trans e2,c3.ext e2,rfl⟩ (Qff h0 q3 n s _ _ _ hn hs) ?_
   rintro ex E' h3 ⟨rfl,x3,c33,a,_,_,ha,hX,rfl⟩
   by_cases hf:a=n-1
   ·have:sqM n (n-1) (s-1) A=true:=by rw[← hX];simp[hf]
    rw[this]at hmr
    repeat' first|apply Qf|apply Qb|apply QL|apply QK|apply Qn|apply Qe|(apply Qg;refine Qi rfl ?_)|(apply Qd;first|refine QO rfl rfl rfl rfl rfl ?_|refine QE rfl rfl rfl rfl rfl rfl ?_)|(apply Qc;first|refine XN rfl rfl (by omega) ?_|refine Ql rfl ?_|refine QM rfl rfl (by omega) ?_|refine XJ rfl rfl (by omega) ?_)
    exact Qz (j:=12-(i+1)) (by omega) ⟨i+1,by omega,rfl,next hmr,x3,c33,rfl⟩
   ·have:sqM n (n-1) (s-1) A=false:=by rw[← hX];simp[hf]
    rw[this]at hmr
    repeat' first|apply Qf|apply Qb|apply QC|apply QK|apply Xi|apply Qs|apply Qe|(apply Qg;refine Qk rfl ?_)|(apply Qd;first|refine Qq rfl ?_|refine QE rfl rfl rfl rfl rfl rfl ?_)|(apply Qc;first|refine XN rfl rfl (by omega) ?_|refine Ql rfl ?_|refine Ya rfl rfl (by omega) ?_)
    refine Xt ⟨x3,.inr ⟨rfl,?_,rfl⟩⟩
    exact List.all_eq_false.2 ⟨b,Gg hb,by rw[hmr];simp⟩
 ·have:i=12:=by omega
  subst this
  repeat' first|apply Qf|apply Qb|apply QS|apply QQ|apply Qe|(apply Qg;refine Qi rfl ?_)|(apply Qd;refine QE rfl rfl rfl rfl rfl rfl ?_)|(apply Qc;refine QF rfl rfl (by omega) ?_)
  exact QB ⟨x,.inl ⟨rfl,hall⟩⟩
theorem Qoh(x:Nat):Lib.ctz 64 x<=64:=by
 have key:∀ f x,Lib.ctzFrom f x<=f:=by
  intro f
  induction f with
  | zero=>intro x;exact Gd _
  | succ f ih => intro x; unfold Lib.ctzFrom; split
                 ·omega
                 ·have:=ih (x/2);omega
 unfold Lib.ctz
 split
 ·omega
 ·exact key 64 x
theorem Qnz(n:Nat):prM n=basesL.all fun b=>mrB n (Lib.ctz 64 (n-1)) ((n-1)/2^Lib.ctz 64 (n-1)) b:=by
 unfold prM;rw[Yu,Yu]
theorem QeL(h0:Qa)(n:Nat)(hn:2<n/\n<18446744073709551616):∃ r h',Cal FT HKt 118 [u n] h0 r h'/\Ext h0 h'/\r = .sc (.bool (prM n)):=by
 refine Cal.of (F:=a118) rfl rfl rfl ?_
 have k138:=fun H=>QjJ (h:=H) (n-1) (by omega)
 have hs:=Qoh (n-1)
 rw[Qnz]
 generalize hs':Lib.ctz 64 (n-1)=s at *
 have e1':((n:Int)-1)=((n-1:Nat):Int):=by omega
 repeat' first|apply Qf|apply Qb|apply Qt|apply Qe|(apply Qd;first|refine Qq rfl ?_|refine QA rfl rfl ?_|refine Qu rfl rfl rfl ?_|refine QO rfl rfl rfl rfl rfl ?_)|(apply Qc;first|(refine X2 rfl ?_;intro h1 e1 c1)|refine Xz rfl rfl ?_|(refine XN rfl rfl (by omega) ?_;rw[e1'])|(refine Qj rfl (k138 _) ?_;rintro v _ ⟨rfl,rfl⟩)|refine Ql rfl ?_)
 refine QV (I118 h0 h0.length n s) 12 (R118 h0 n s) ⟨0,Gm _,rfl,by simp,e1,c1,rfl⟩ (QgR h0 h0.length n s hn hs) ?_
 rintro ex E' h2 ⟨x2,⟨rfl,hall⟩|⟨rfl,hall,rfl⟩⟩
 ·rw[hall]
  repeat' first|apply Qf|apply Qb|apply QK|apply Qs|apply Qe|(apply Qd;refine Qq rfl ?_)|(apply Qc;refine Ql rfl ?_)
  exact⟨.inr rfl,x2,rfl⟩
 ·rw[hall]
  repeat' first|apply QC|apply Xi
  exact⟨.inr rfl,x2,rfl⟩
theorem Qbn(h0:Qa)(p g a b:Nat)(hp:p<9223372036854775808)(ha:a<p)(hb:b<p):∃ r h',Cal FT HKt 129 [fld p g,u a,u b] h0 r h'/\Ext h0 h'/\r=u (adM p a b):=by
 refine Cal.of (F:=a129) rfl rfl rfl ?_
 unfold adM
 by_cases hc:p<=a+b
 ·rw[if_pos hc]
  have e:((a:Int)+b-p)=((a+b-p:Nat):Int):=by omega
  repeat' first|apply Qf|apply Qb|apply Qs|apply Qe|(apply Qg;refine Qk rfl ?_)|(apply Qd;first|refine Qq rfl ?_|refine QA rfl rfl ?_|refine Qu rfl rfl rfl ?_)|(apply Qc;first|(refine QD rfl ?_;intro h1 e1 c1)|refine QW rfl ?_|refine QN rfl c1 ?_|refine YT rfl rfl (by omega) ?_|(refine XN rfl rfl (by omega) ?_;rw[e])|refine Ql rfl ?_|refine Ye rfl rfl (by omega) ?_)
  exact⟨.inr rfl,e1,rfl⟩
 ·rw[if_neg hc]
  have e:((a:Int)+b)=((a+b:Nat):Int):=by omega
  repeat' first|apply Qf|apply Qb|apply Qn|apply Qs|apply Qe|(apply Qg;refine Qi rfl ?_)|(apply Qd;first|refine Qq rfl ?_|refine QA rfl rfl ?_|refine Qu rfl rfl rfl ?_)|(apply Qc;first|(refine QD rfl ?_;intro h1 e1 c1)|refine QW rfl ?_|refine QN rfl c1 ?_|(refine YT rfl rfl (by omega) ?_;rw[e])|refine Ql rfl ?_|refine X6 rfl rfl (by omega) ?_)
  exact⟨.inr rfl,e1,rfl⟩
theorem UK(h0:Qa)(p g a b:Nat)(hp:p<9223372036854775808)(ha:a<p)(hb:b<=p):∃ r h',Cal FT HKt 122 [fld p g,u a,u b] h0 r h'/\Ext h0 h'/\r=u (sbM p a b):=by
 refine Cal.of (F:=a122) rfl rfl rfl ?_
 unfold sbM
 by_cases hc:a<b
 ·rw[if_pos hc]
  have e:((a:Int)+p-b)=((a+p-b:Nat):Int):=by omega
  repeat' first|apply Qf|apply Qb|apply Qs|apply Qe|(apply Qg;refine Qk rfl ?_)|(apply Qd;first|refine Qq rfl ?_|refine QA rfl rfl ?_|refine Qu rfl rfl rfl ?_|refine QG rfl rfl rfl rfl ?_)|(apply Qc;first|(refine QD rfl ?_;intro h1 e1 c1)|refine QW rfl ?_|refine QN rfl c1 ?_|refine YT rfl rfl (by omega) ?_|(refine XN rfl rfl (by omega) ?_;rw[e])|refine Ql rfl ?_|refine Qx rfl rfl (by omega) ?_)
  exact⟨.inr rfl,e1,rfl⟩
 ·rw[if_neg hc]
  have e:((a:Int)-b)=((a-b:Nat):Int):=by omega
  repeat' first|apply Qf|apply Qb|apply Qn|apply Qs|apply Qe|(apply Qg;refine Qi rfl ?_)|(apply Qd;first|refine Qq rfl ?_|refine Qu rfl rfl rfl ?_|refine QG rfl rfl rfl rfl ?_)|(apply Qc;first|(refine QD rfl ?_;intro h1 e1 c1)|(refine XN rfl rfl (by omega) ?_;rw[e])|refine Ql rfl ?_|refine QF rfl rfl (by omega) ?_)
  exact⟨.inr rfl,e1,rfl⟩
def ofM(p:Nat)(x:Int):Nat:=if x<0 then p-x.natAbs else x.natAbs
theorem QcZ{p:Nat}{x:Int}(h:x.natAbs<p):ofM p x<p:=by unfold ofM;split <;> omega
theorem Qc0{p:Nat}{x:Int}(h:x.natAbs<p):Cg p (ofM p x:Nat) x:=by
 unfold ofM
 split
 ·exact⟨1,by omega⟩
 ·exact Cg.of_eq (by omega)
theorem Qdj(h0:Qa)(p g:Nat)(x:Int)(hp:p<9223372036854775808)(hx:x.natAbs<p):∃ r h',Cal FT HKt 99 [fld p g,.sc (.int .i64 x)] h0 r h'/\Ext h0 h'/\r=u (ofM p x):=by
 refine Cal.of (F:=a99) rfl rfl rfl ?_
 unfold ofM
 by_cases hc:x<0
 ·rw[if_pos hc]
  have e:((p:Int) - -x)=((p-x.natAbs:Nat):Int):=by omega
  repeat' first|apply Qf|apply Qb|apply QC|apply Qs|apply Qe|(apply Qg;refine Qk rfl ?_)|(apply Qd;first|refine Qq rfl ?_|refine QA rfl rfl ?_|refine Qu rfl rfl rfl ?_)|(apply Qc;first|(refine QD rfl ?_;intro h1 e1 c1)|refine QW rfl ?_|refine QN rfl c1 ?_|refine Ua rfl (by omega) ?_|(refine XN rfl rfl (by omega) ?_;rw[e])|refine Ql rfl ?_|refine Z1 rfl (by omega) ?_|refine Qx rfl rfl (by omega) ?_)
  exact⟨.inr rfl,e1,rfl⟩
 ·rw[if_neg hc]
  have e:x=((x.natAbs:Nat):Int):=by omega
  generalize x.natAbs=n at *
  subst e
  repeat' first|apply Qf|apply Qb|apply Qn|apply Qs|apply Qe|(apply Qg;refine Qi rfl ?_)|(apply Qd;first|refine Qq rfl ?_|refine QA rfl rfl ?_|refine Qu rfl rfl rfl ?_)|(apply Qc;first|(refine QD rfl ?_;intro h1 e1 c1)|refine Ua rfl (by omega) ?_|refine Ql rfl ?_|refine QF rfl rfl (by omega) ?_)
  exact⟨.inr rfl,e1,rfl⟩
def lfM(p a:Nat):Int:=if p/2<a then -((p-a:Nat):Int) else (a:Nat)
theorem Qol(h0:Qa)(p g a:Nat)(hp:p<9223372036854775808)(ha:a<p):∃ r h',Cal FT HKt 97 [fld p g,u a] h0 r h'/\Ext h0 h'/\r = .sc (.int .i64 (lfM p a)):=by
 refine Cal.of (F:=a97) rfl rfl rfl ?_
 unfold lfM
 by_cases hc:p/2<a
 ·rw[if_pos hc]
  have e:((p:Int)-a)=((p-a:Nat):Int):=by omega
  repeat' first|apply Qf|apply Qb|apply QC|apply Qs|apply Qe|(apply Qg;refine Qk rfl ?_)|(apply Qd;first|refine Qq rfl ?_|refine QA rfl rfl ?_|refine Qu rfl rfl rfl ?_)|(apply Qc;first|(refine QD rfl ?_;intro h1 e1 c1)|refine QW rfl ?_|refine QN rfl c1 ?_|refine Vk rfl rfl (by omega) ?_|refine YG rfl (by omega) ?_|(refine XN rfl rfl (by omega) ?_;rw[e])|refine Ql rfl ?_|refine Z1 rfl (by omega) ?_|refine XK rfl rfl (by omega) ?_)
  exact⟨.inr rfl,e1,rfl⟩
 ·rw[if_neg hc]
  repeat' first|apply Qf|apply Qb|apply Qn|apply Qs|apply Qe|(apply Qg;refine Qi rfl ?_)|(apply Qd;first|refine Qq rfl ?_|refine QA rfl rfl ?_|refine Qu rfl rfl rfl ?_)|(apply Qc;first|(refine QD rfl ?_;intro h1 e1 c1)|refine QW rfl ?_|refine QN rfl c1 ?_|refine Vk rfl rfl (by omega) ?_|refine YG rfl (by omega) ?_|refine Ql rfl ?_|refine XD rfl rfl (by omega) ?_)
  exact⟨.inr rfl,e1,rfl⟩
def XZ(p a:Nat):Nat:=YM p 64 1 a (p-2)
theorem UL(h0:Qa)(p g a:Nat)(hp:2<=p/\p<18446744073709551616)(ha:a<18446744073709551616):∃ r h',Cal FT HKt 121 [fld p g,u a] h0 r h'/\Ext h0 h'/\r=u (XZ p a):=by
 refine Cal.of (F:=a121) rfl rfl rfl ?_
 unfold XZ
 have e:((p:Int)-2)=((p-2:Nat):Int):=by omega
 have k:=fun H=>yU H p g a (p-2) ⟨by omega,hp.2⟩ ha (by omega)
 repeat' first|apply Qf|apply Qb|apply Qs|apply Qe|(apply Qd;first|refine Qq rfl ?_|refine QA rfl rfl ?_)|(apply Qc;first|(refine QD rfl ?_;intro h1 e1 c1)|refine QW rfl ?_|refine QN rfl c1 ?_|refine QU rfl c1 ?_|(refine XN rfl rfl (by omega) ?_;rw[e])|(refine Qj rfl (k _) ?_;rintro v h2 ⟨e2,rfl⟩)|refine Ql rfl ?_)
 exact⟨.inr rfl,e1.trans e2,rfl⟩
end Go.Proofs.YtofknpknogfijaaGreatDoor
namespace Go.Proofs.YtofknpknogfijaaGreatDoor
open Go.Ab
set_option linter.all false
def okW(a:Int):Prop:=0<=a/\a<18446744073709551616
instance (a:Int):Decidable (okW a):=by unfold okW;exact inferInstance
def JC:Xq:=fun args h=>match args with
 | [.agg [.int .u64 p,.int .u64 g],.sc (.int .u64 a),.sc (.int .u64 b)]=>if 0<p/\okW p/\okW g/\okW a/\okW b then frc (a.toNat*b.toNat%p.toNat) fun r=>some (.sc (.int .u64 (r:Nat)),h) else none
 | _=>none
def Jz:Xq:=fun args h=>match args with
 | [.agg [.int .u64 p,.int .u64 g],.sc (.int .u64 a),.sc (.int .u64 b)]=>if 0<p/\okW p/\okW g/\okW a/\okW b then frc (YM p.toNat 64 1 a.toNat b.toNat) fun r=>some (.sc (.int .u64 (r:Nat)),h) else none
 | _=>none
def qQ:Xq:=fun args h=>match args with
 | [.sc (.int .u64 n)]=>if 2<n/\okW n then some (.sc (.bool (prM n.toNat)),h) else none
 | _=>none
def JO:Xq:=fun args h=>match args with
 | [.agg [.int .u64 p,.int .u64 g],.sc (.int .u64 a),.sc (.int .u64 b)]=>if p<9223372036854775808/\0<=a/\a<p/\0<=b/\b<p/\okW g then frc (adM p.toNat a.toNat b.toNat) fun r=>some (.sc (.int .u64 (r:Nat)),h) else none
 | _=>none
def Js:Xq:=fun args h=>match args with
 | [.agg [.int .u64 p,.int .u64 g],.sc (.int .u64 a),.sc (.int .u64 b)]=>if p<9223372036854775808/\0<=a/\a<p/\0<=b/\b<=p/\okW g then frc (sbM p.toNat a.toNat b.toNat) fun r=>some (.sc (.int .u64 (r:Nat)),h) else none
 | _=>none
def qR:Xq:=fun args h=>match args with
 | [.agg [.int .u64 p,.int .u64 g],.sc (.int .i64 x)]=>if p<9223372036854775808/\okW p/\okW g/\(x.natAbs:Int)<p then frc (ofM p.toNat x) fun r=>some (.sc (.int .u64 (r:Nat)),h) else none
 | _=>none
def JI:Xq:=fun args h=>match args with
 | [.agg [.int .u64 p,.int .u64 g],.sc (.int .u64 a)]=>if 2<=p/\okW p/\okW g/\okW a then frc (XZ p.toNat a.toNat) fun r=>some (.sc (.int .u64 (r:Nat)),h) else none
 | _=>none
def HKs:zzH:=fun f=>if f=43 then some Jl else if f=129 then some JO else if f=122 then some Js else if f=99 then some qR else if f=121 then some JI else if f=98 then some JC else if f=119 then some Jz else if f=118 then some qQ else HK0 f
theorem Qay{a:Int}(h:okW a):(SV.int .u64 a)=SV.int .u64 ((a.toNat:Nat):Int):=by unfold okW at h;rw[show ((a.toNat:Nat):Int)=a by omega]
theorem QnI[Base][HB](hk:qz Tryz.prog HKt):HkOK Tryz.prog 98 JC:=by
 refine Yt yO hk (by kernel_rfl) fun args h v h1 hs=>?_
 unfold JC at hs
 split at hs
 ·rename_i p g a b
  split at hs
  ·rename_i hc
   obtain⟨c1,c2,c3,c4,c5⟩:=hc
   rw[Yu]at hs
   simp only[Option.some.injEq,Prod.mk.injEq]at hs
   obtain⟨rfl,rfl⟩:=hs
   have q2:=Qay c2
   have q3:=Qay c3
   have q4:=Qay c4
   have q5:=Qay c5
   unfold okW at c2 c3 c4 c5
   obtain⟨r,h',k1,k2,rfl⟩:=Za [] p.toNat g.toNat a.toNat b.toNat ⟨by omega,by omega⟩ (by omega) (by omega)
   rw[q2,q3,q4,q5]
   exact⟨rfl,rfl,_,h',rfl,rfl,k1⟩
  ·cases hs
 ·cases hs
theorem Qo2[Base][HB](hk:qz Tryz.prog HKt):HkOK Tryz.prog 129 JO:=by
 refine Yt yO hk (by kernel_rfl) fun args h v h1 hs=>?_
 unfold JO at hs
 split at hs
 ·rename_i p g a b
  split at hs
  ·rename_i hc
   obtain⟨c1,c2,c3,c4,c5,c6⟩:=hc
   rw[Yu]at hs
   simp only[Option.some.injEq,Prod.mk.injEq]at hs
   obtain⟨rfl,rfl⟩:=hs
   unfold okW at *
   have qp:SV.int .u64 p=SV.int .u64 ((p.toNat:Nat):Int):=by rw[show ((p.toNat:Nat):Int)=p by omega]
   have qg:SV.int .u64 g=SV.int .u64 ((g.toNat:Nat):Int):=by rw[show ((g.toNat:Nat):Int)=g by omega]
   have qa:SV.int .u64 a=SV.int .u64 ((a.toNat:Nat):Int):=by rw[show ((a.toNat:Nat):Int)=a by omega]
   have qb:SV.int .u64 b=SV.int .u64 ((b.toNat:Nat):Int):=by rw[show ((b.toNat:Nat):Int)=b by omega]
   rw[qp,qg,qa,qb]
   obtain⟨r,h',k1,k2,rfl⟩:=Qbn [] p.toNat g.toNat a.toNat b.toNat (by omega) (by omega) (by omega)
   exact⟨rfl,rfl,_,h',rfl,rfl,k1⟩
  ·cases hs
 ·cases hs
theorem Qnb[Base][HB](hk:qz Tryz.prog HKt):HkOK Tryz.prog 122 Js:=by
 refine Yt yO hk (by kernel_rfl) fun args h v h1 hs=>?_
 unfold Js at hs
 split at hs
 ·rename_i p g a b
  split at hs
  ·rename_i hc
   obtain⟨c1,c2,c3,c4,c5,c6⟩:=hc
   rw[Yu]at hs
   simp only[Option.some.injEq,Prod.mk.injEq]at hs
   obtain⟨rfl,rfl⟩:=hs
   unfold okW at *
   have qp:SV.int .u64 p=SV.int .u64 ((p.toNat:Nat):Int):=by rw[show ((p.toNat:Nat):Int)=p by omega]
   have qg:SV.int .u64 g=SV.int .u64 ((g.toNat:Nat):Int):=by rw[show ((g.toNat:Nat):Int)=g by omega]
   have qa:SV.int .u64 a=SV.int .u64 ((a.toNat:Nat):Int):=by rw[show ((a.toNat:Nat):Int)=a by omega]
   have qb:SV.int .u64 b=SV.int .u64 ((b.toNat:Nat):Int):=by rw[show ((b.toNat:Nat):Int)=b by omega]
   rw[qp,qg,qa,qb]
   obtain⟨r,h',k1,k2,rfl⟩:=UK [] p.toNat g.toNat a.toNat b.toNat (by omega) (by omega) (by omega)
   exact⟨rfl,rfl,_,h',rfl,rfl,k1⟩
  ·cases hs
 ·cases hs
theorem of_ok[Base][HB](hk:qz Tryz.prog HKt):HkOK Tryz.prog 99 qR:=by
 refine Yt yO hk (by kernel_rfl) fun args h v h1 hs=>?_
 unfold qR at hs
 split at hs
 ·rename_i p g x
  split at hs
  ·rename_i hc
   obtain⟨c1,c2,c3,c4⟩:=hc
   rw[Yu]at hs
   simp only[Option.some.injEq,Prod.mk.injEq]at hs
   obtain⟨rfl,rfl⟩:=hs
   unfold okW at *
   have qp:SV.int .u64 p=SV.int .u64 ((p.toNat:Nat):Int):=by rw[show ((p.toNat:Nat):Int)=p by omega]
   have qg:SV.int .u64 g=SV.int .u64 ((g.toNat:Nat):Int):=by rw[show ((g.toNat:Nat):Int)=g by omega]
   rw[qp,qg]
   obtain⟨r,h',k1,k2,rfl⟩:=Qdj [] p.toNat g.toNat x (by omega) (by omega)
   exact⟨rfl,rfl,_,h',rfl,rfl,k1⟩
  ·cases hs
 ·cases hs
theorem Qoa[Base][HB](hk:qz Tryz.prog HKt):HkOK Tryz.prog 121 JI:=by
 refine Yt yO hk (by kernel_rfl) fun args h v h1 hs=>?_
 unfold JI at hs
 split at hs
 ·rename_i p g a
  split at hs
  ·rename_i hc
   obtain⟨c1,c2,c3,c4⟩:=hc
   rw[Yu]at hs
   simp only[Option.some.injEq,Prod.mk.injEq]at hs
   obtain⟨rfl,rfl⟩:=hs
   unfold okW at *
   have qp:SV.int .u64 p=SV.int .u64 ((p.toNat:Nat):Int):=by rw[show ((p.toNat:Nat):Int)=p by omega]
   have qg:SV.int .u64 g=SV.int .u64 ((g.toNat:Nat):Int):=by rw[show ((g.toNat:Nat):Int)=g by omega]
   have qa:SV.int .u64 a=SV.int .u64 ((a.toNat:Nat):Int):=by rw[show ((a.toNat:Nat):Int)=a by omega]
   rw[qp,qg,qa]
   obtain⟨r,h',k1,k2,rfl⟩:=UL [] p.toNat g.toNat a.toNat ⟨by omega,by omega⟩ (by omega)
   exact⟨rfl,rfl,_,h',rfl,rfl,k1⟩
  ·cases hs
 ·cases hs
theorem QnA[Base][HB](hk:qz Tryz.prog HKt):HkOK Tryz.prog 119 Jz:=by
 refine Yt yO hk (by kernel_rfl) fun args h v h1 hs=>?_
 unfold Jz at hs
 split at hs
 ·rename_i p g a b
  split at hs
  ·rename_i hc
   obtain⟨c1,c2,c3,c4,c5⟩:=hc
   rw[Yu]at hs
   simp only[Option.some.injEq,Prod.mk.injEq]at hs
   obtain⟨rfl,rfl⟩:=hs
   have q2:=Qay c2
   have q3:=Qay c3
   have q4:=Qay c4
   have q5:=Qay c5
   unfold okW at c2 c3 c4 c5
   obtain⟨r,h',k1,k2,rfl⟩:=yU [] p.toNat g.toNat a.toNat b.toNat ⟨by omega,by omega⟩ (by omega) (by omega)
   rw[q2,q3,q4,q5]
   exact⟨rfl,rfl,_,h',rfl,rfl,k1⟩
  ·cases hs
 ·cases hs
theorem pr_ok[Base][HB](hk:qz Tryz.prog HKt):HkOK Tryz.prog 118 qQ:=by
 refine Yt yO hk (by kernel_rfl) fun args h v h1 hs=>?_
 unfold qQ at hs
 split at hs
 ·rename_i n
  split at hs
  ·rename_i hc
   obtain⟨c1,c2⟩:=hc
   simp only[Option.some.injEq,Prod.mk.injEq]at hs
   obtain⟨rfl,rfl⟩:=hs
   have q2:=Qay c2
   unfold okW at c2
   obtain⟨r,h',k1,k2,rfl⟩:=QeL [] n.toNat ⟨by omega,by omega⟩
   rw[q2]
   exact⟨rfl,rfl,_,h',rfl,rfl,k1⟩
  ·cases hs
 ·cases hs
def phS:FuncId->Bool:=fun f=>f==98 || f==119 || f==118 || f==129 || f==122 || f==99 || f==121
theorem QnB:Qja phS HKs:=by
 intro f hf
 unfold phS at hf
 simp only[Bool.or_eq_true,beq_iff_eq]at hf
 have key:∀(b:Bool) (n:Nat) (x:Nat->AV) (h:Qa) (r:AV×Qa) (c:Prop) [Decidable c],(if c then frc n (fun r=>some (x r,h)) else none)=some r->r.2=h:=by
  intro b n x h r c _ e
  split at e
  ·rw[Yu]at e;cases e;rfl
  ·cases e
 rcases hf with (((((rfl|rfl)|rfl)|rfl)|rfl)|rfl)|rfl
 ·refine⟨JC,rfl,fun args h r e=>?_⟩
  unfold JC at e
  split at e
  ·exact key true _ _ _ _ _ e
  ·cases e
 ·refine⟨Jz,rfl,fun args h r e=>?_⟩
  unfold Jz at e
  split at e
  ·exact key true _ _ _ _ _ e
  ·cases e
 ·refine⟨qQ,rfl,fun args h r e=>?_⟩
  unfold qQ at e
  split at e
  ·split at e
   ·cases e;rfl
   ·cases e
  ·cases e
 ·refine⟨JO,rfl,fun args h r e=>?_⟩
  unfold JO at e
  split at e
  ·exact key true _ _ _ _ _ e
  ·cases e
 ·refine⟨Js,rfl,fun args h r e=>?_⟩
  unfold Js at e
  split at e
  ·exact key true _ _ _ _ _ e
  ·cases e
 ·refine⟨qR,rfl,fun args h r e=>?_⟩
  unfold qR at e
  split at e
  ·exact key true _ _ _ _ _ e
  ·cases e
 ·refine⟨JI,rfl,fun args h r e=>?_⟩
  unfold JI at e
  split at e
  ·exact key true _ _ _ _ _ e
  ·cases e
end Go.Proofs.YtofknpknogfijaaGreatDoor
namespace Go.Proofs.YtofknpknogfijaaGreatDoor
set_option linter.all false
theorem FOK.cancel{p:Nat}{inv:Nat->Nat}(hF:FOK p inv)(hp:1<p){y z:Int}(hy:¬ Cg p y 0)(h:Cg p (y*z) 0):Cg p z 0:=by
 have h1:0<=y%(p:Int):=Int.emod_nonneg _ (by omega)
 have h2:y%(p:Int)<p:=Int.emod_lt_of_pos _ (by omega)
 obtain⟨a,ha⟩:∃ a:Nat,y%(p:Int)=a:=⟨(y%(p:Int)).toNat,by omega⟩
 have h3:Cg p (a:Int) y:=ha ▸ Cg.mod
 have h4:0<a:=by
  rcases Nat.eq_zero_or_pos a with e|e
  ·subst e;exact absurd h3.symm hy
  ·exact e
 have h5:=hF a h4 (by omega)
 have h6:Cg p ((a:Int)*(inv a:Nat)) 1:=by
  have:Cg p ((a*inv a:Nat):Int) ((1:Nat):Int):=by rw[← h5];exact Cg.modN.symm
  rwa [Int.natCast_mul]at this
 have h7:Cg p (((inv a:Nat):Int)*(y*z)) (((inv a:Nat):Int)*0):=Cg.rfl.mul h
 rw[Int.mul_zero]at h7
 refine Cg.trans (Cg.symm ?_) h7
 refine((Cg.of_eq (show ((inv a:Nat):Int)*(y*z)=(y*(inv a:Nat))*z by grind)).trans ((h3.symm.mul Cg.rfl).mul Cg.rfl)).trans ((h6.mul Cg.rfl).trans (Cg.of_eq (Int.one_mul z)))
theorem QbB:∀(m s:Nat),0<m->m<2^s->∃ t v,t<s/\m=2^t*(2*v+1)
 | m,0,h,h2=>by simp at h2;omega
 | m,s+1,h,h2=>by
  by_cases e:m%2=1
  ·exact⟨0,m/2,by omega,by simp;omega⟩
  ·obtain⟨t,v,h3,h4⟩:=QbB (m/2) s (by omega) (by rw[Nat.pow_succ]at h2;omega)
   exact⟨t+1,v,by omega,by rw[Nat.pow_succ,Nat.mul_right_comm,← h4];omega⟩
theorem Qg9:∀ v:Nat,(-1:Int)^(2*v+1) = -1:=fun v=>by
 rw[Int.pow_succ,Int.pow_mul]
 show (1:Int)^v * -1 = -1
 rw[Y8];rfl
theorem Rt.ne{p s u m:Nat}(h:Rt p s u)(hp:2<p)(h0:0<m)(hm:m<2^s):¬ Cg p ((u:Int)^m) 1:=fun hc=>by
 obtain⟨t,v,ht,rfl⟩:=QbB m s h0 hm
 have hw:=h.resolve_left (by omega)
 have h1:=hc.pow (2^(s-1-t))
 rw[Y8,← Int.pow_mul,Nat.mul_right_comm,← Nat.pow_add,show t+(s-1-t)=s-1 by omega,Int.pow_mul]at h1
 have h2:=(hw.pow (2*v+1)).symm.trans h1
 rw[Qg9]at h2
 have:=h2.eq (by show 2<p;exact hp)
 omega
theorem Rt.inv{p s u u':Nat}(h:Rt p s u)(hi:Cg p ((u:Int)*u') 1):Rt p s u':=by
 rcases h with h|h
 ·exact .inl h
 refine .inr ?_
 have h1:=hi.pow (2^(s-1))
 rw[Int.mul_pow,Y8]at h1
 have h2:Cg p ((u:Int)^2^(s-1)*(u':Int)^2^(s-1)) (-1*(u':Int)^2^(s-1)):=h.mul Cg.rfl
 have h3:=(h2.symm.trans h1).neg
 exact(Cg.of_eq (by omega)).trans h3
theorem Rt.top{p s u:Nat}(h:Rt p s u)(h1:s=0->Cg p (u:Int) 1):Cg p ((u:Int)^2^s) 1:=by
 rcases h with h|h
 ·have:=h1 h
  subst h
  exact this.pow 1
 ·by_cases h0:s=0
  ·subst h0;exact(h1 rfl).pow 1
  ·have e:2^s=2^(s-1)*2:=by rw[← Nat.pow_succ];congr 1;omega
   rw[e,Int.pow_mul]
   exact(h.pow 2).trans (Cg.of_eq (by decide))
theorem Rt.sum{p s u m:Nat}{inv:Nat->Nat}(hF:FOK p inv)(h:Rt p s u)(hp:2<p)(h0:0<m)(hm:m<2^s):Cg p (sm (2^s) fun i=>((u:Int)^m)^i) 0:=by
 refine hF.cancel (by omega) (y:=(u:Int)^m-1) (fun hc=>h.ne hp h0 hm ?_) ?_
 ·have:=hc.add (Cg.rfl (p:=p) (a:=1))
  exact(Cg.of_eq (by omega)).trans this
 ·rw[geo,← Int.pow_mul,Nat.mul_comm,Int.pow_mul]
  have hs:s≠0:=by intro e;rw[e]at hm;simp at hm;omega
  have:=(h.top (fun e=>absurd e hs)).pow m
  rw[Y8]at this
  exact(this.sub (Cg.rfl (p:=p) (a:=1))).trans (Cg.of_eq (by omega))
theorem QkV{p s w w':Nat}{inv:Nat->Nat}(hF:FOK p inv)(hp:2<p)(hr:Rt p s w)(hi:Cg p ((w:Int)*w') 1)(vs:List Nat)(hl:vs.length=2^s)(hv:∀ x∈vs,x<p)(d:Nat->Int)
  (hd:∀ t,t<2^s->Cg p ((vs.getD t 0:Nat):Int) (sm (2^s) fun j=>d j*(w:Int)^(j*t))) (k:Nat) (hk:k<2^s):Cg p ((trM p s vs w').getD k 0:Nat) ((2^s:Nat)*d k):=by
 refine((UN (by omega) s vs w' hl hv (hr.inv hi)).2 k hk).trans ?_
 have e1:Cg p (sm (2^s) fun i=>((vs.getD i 0:Nat):Int)*(w':Int)^(i*k)) (sm (2^s) fun i=>sm (2^s) fun j=>d j*((w:Int)^j*(w':Int)^k)^i):=by
  refine yj fun i hi=>((hd i hi).mul Cg.rfl).trans (Cg.of_eq ?_)
  rw[← QjR]
  refine XT fun j _=>?_
  rw[Int.mul_pow,← Int.pow_mul,← Int.pow_mul,Nat.mul_comm k i,Int.mul_assoc]
 refine e1.trans ?_
 rw[QdL]
 refine(yj (g:=fun j=>if j=k then ((2^s:Nat):Int)*d k else 0) fun j hj=>?_).trans (Cg.of_eq (QdO k _ hk))
 simp only[Z7]
 have inverse:∀ n:Nat,Cg p ((w:Int)^n*(w':Int)^n) 1:=fun n=>by
  rw[← Int.mul_pow];exact(hi.pow n).trans (Cg.of_eq (Y8 n))
 split
 ·rename_i e
  subst e
  rw[Int.mul_comm]
  refine Cg.mul ?_ Cg.rfl
  exact(yj (g:=fun _=>1) fun i _=>((inverse j).pow i).trans (Cg.of_eq (Y8 i))).trans (Cg.of_eq Qgl)
 ·rename_i e
  suffices h:∃ u m:Nat,Rt p s u/\0<m/\m<2^s/\Cg p ((w:Int)^j*(w':Int)^k) ((u:Int)^m) by
   obtain⟨u,m,h1,h2,h3,h4⟩:=h
   refine(Cg.rfl.mul ((yj fun i _=>h4.pow i).trans (h1.sum hF hp h2 h3))).trans (Cg.of_eq (Int.mul_zero _))
  by_cases hjk:k<j
  ·refine⟨w,j-k,hr,by omega,by omega,?_⟩
   refine(Cg.of_eq ?_).trans ((Cg.rfl.mul (inverse k)).trans (Cg.of_eq (Int.mul_one _)))
   rw[← Int.mul_assoc,← Int.pow_add,show j-k+k=j by omega]
  ·refine⟨w',k-j,hr.inv hi,by omega,by omega,?_⟩
   refine(Cg.of_eq ?_).trans (((inverse j).mul Cg.rfl).trans (Cg.of_eq (Int.one_mul _)))
   rw[Int.mul_assoc,← Int.pow_add,show j+(k-j)=k by omega]
variable [HB]
theorem QaK{p:Nat}:∀(n r a e:Nat),e<2^n->Cg p (YM p n r a e:Nat) ((r:Int)*(a:Int)^e)
 | 0,r,a,e,h=>by
  have:e=0:=by omega
  subst this
  exact Cg.of_eq (by simp[YM])
 | n+1,r,a,e,h=>by
  rw[Jg]
  split
  ·rename_i h0
   subst h0
   exact Cg.of_eq (by simp)
  ·have h2:e/2<2^n:=by rw[Nat.pow_succ]at h;omega
   have h3:Cg p (((a*a%p:Nat):Int)^(e/2)) ((a:Int)^(2*(e/2))):=by
    rw[← QaD,← Int.natCast_mul];exact Cg.modN.pow _
   refine(QaK n _ _ _ h2).trans ?_
   split
   ·rename_i ho
    refine((Cg.modN.trans (Cg.of_eq (Int.natCast_mul _ _))).mul h3).trans (Cg.of_eq ?_)
    rw[Int.mul_assoc,← Int.pow_succ']
    congr 2;omega
   ·rename_i ho
    refine(Cg.rfl.mul h3).trans (Cg.of_eq ?_)
    congr 2;omega
theorem ZN{p:Nat}:∀(n r a e:Nat),r<p->YM p n r a e<p
 | 0,r,a,e,h=>h
 | n+1,r,a,e,h=>by
  rw[Jg]
  split
  ·exact h
  ·refine ZN n _ _ _ ?_
   split
   ·exact Nat.mod_lt _ (by omega)
   ·exact h
theorem U4{p:Nat}(hp:1<p)(n a e:Nat)(h:e<2^n):YM p n 1 a e=a^e%p:=by
 refine Cg.eqN (p:=p) ((QaK n 1 a e h).trans ?_) (ZN n 1 a e hp) (Nat.mod_lt _ (by omega))
 refine Cg.trans (Cg.of_eq ?_) Cg.modN.symm
 rw[Int.natCast_pow]
 exact Int.one_mul _
def lucB(p g:Nat)(l:List Nat):Bool:=decide (1<p)&&(l.foldr (·*·) 1==p-1)&&(YM p 64 1 g (p-1)==1)&&l.all fun q=>YM p 64 1 g ((p-1)/q) != 1
theorem UB{p g:Nat}{l:List Nat}(h:lucB p g l=true)(hs:p<2^64)(hl:∀ q∈l,Pr q):∀ a,0<a->a<p->a^(p-1)%p=1:=by
 unfold lucB at h
 simp only[Bool.and_eq_true,decide_eq_true_iff,beq_iff_eq,List.all_eq_true,bne_iff_ne]at h
 obtain⟨⟨⟨h1,h2⟩,h3⟩,h4⟩:=h
 have lt:∀ q,(p-1)/q<2^64:=fun q=>Nat.lt_of_le_of_lt (Nat.div_le_self _ _) (by omega)
 rw[U4 h1 64 g (p-1) (by omega)]at h3
 exact lucas l h1 hl h2 h3 fun q hq=>by
  have:=h4 q hq
  rwa [U4 h1 64 g _ (lt q)]at this
def Qgj(l:List Nat):Bool:=l.all fun q=>prS q&&decide (q<4900)
theorem qj{l:List Nat}(h:Qgj l=true):∀ q∈l,Pr q:=fun q hq=>by
 unfold Qgj at h
 rw[List.all_eq_true]at h
 have:=h q hq
 rw[Bool.and_eq_true,decide_eq_true_iff]at this
 exact Qny this.1 this.2
theorem Qg0:Pr 61681:=Qce (by decide) (UB (g:=29) (l:=[2,2,2,2,3,5,257]) (by decide +kernel) (by decide) (qj (by decide +kernel)))
theorem U3:Pr 77158710721:=Qce (by decide) (UB (g:=41) (l:=[2,2,2,2,2,2,3,3,5,7,13,37,73,109]) (by decide +kernel) (by decide) (qj (by decide +kernel)))
def p1:Nat:=2305843009211596801
def p2:Nat:=2305843009210023937
theorem QkN:∀ a,0<a->a<p1->a^(p1-1)%p1=1 :=
 UB (g:=37) (l:=61681::[2,2,2,2,2,2,2,2,2,2,2,2,2,2,2,2,2,2,2,2,2,3,5,5,11,17,31,41]) (by decide +kernel) (by decide) fun q hq=>by
  rcases List.mem_cons.1 hq with rfl|hq
  ·exact Qg0
  ·exact qj (by decide +kernel) q hq
theorem QkM:∀ a,0<a->a<p2->a^(p2-1)%p2=1 :=
 UB (g:=5) (l:=77158710721::[2,2,2,2,2,2,2,2,2,2,2,2,2,2,2,2,2,2,2,3,19]) (by decide +kernel) (by decide) fun q hq=>by
  rcases List.mem_cons.1 hq with rfl|hq
  ·exact U3
  ·exact qj (by decide +kernel) q hq
theorem QhM{p:Nat}(hp:2<p)(hs:p<2^64)(h:∀ a,0<a->a<p->a^(p-1)%p=1):FOK p (XZ p):=fun a h0 h1=>by
 unfold XZ
 rw[U4 (by omega) 64 a (p-2) (by omega),Nat.mul_mod_mod,← Nat.pow_succ',Nat.succ_eq_add_one,show p-2+1=p-1 by omega]
 exact h a h0 h1
theorem fok1:FOK p1 (XZ p1):=QhM (by decide) (by decide) QkN
theorem fok2:FOK p2 (XZ p2):=QhM (by decide) (by decide) QkM
def r1:Nat:=1681162619342215248
def r2:Nat:=1308300859968897983
theorem QlC{p r:Nat}(hp:1<p)(h:YM p 64 1 r (2^16)=p-1):Rt p 17 r := .inr (by
 have:=QaK (p:=p) 64 1 r (2^16) (by decide)
 rw[h]at this
 refine Cg.trans (Cg.of_eq ?_) (this.symm.trans ⟨1,by omega⟩)
 exact(Int.one_mul _).symm)
theorem rt1:Rt p1 17 r1:=QlC (by decide) (by decide +kernel)
theorem rt2:Rt p2 17 r2:=QlC (by decide) (by decide +kernel)
