/- PolymatrixRows, -/
import Derived.Test.YtofknpknogfijaaGreatDoorDV
import Derived.Test.YtofknpknogfijaaGreatDoorAb51
namespace Go.Proofs.YtofknpknogfijaaGreatDoor
open Go.Ab
set_option linter.all false
variable [HB]
def lst(n:Nat)(M:Nat->Nat->Pol):List (List Pol):=(List.range n).map fun a=>(List.range n).map (M a)
def zE(n:Nat)(M:Nat->Nat->Pol):Int->Int:=Qbg (lst n M)
def Rw(n k:Nat)(x:Int)(M:Nat->Nat->Pol):List Row:=(List.range n).map fun a c=>evS k x (M a c).ts
def BdM(n k:Nat)(M:Nat->Nat->Pol):Prop:=∀ a c,a<n->c<n->∀ t∈(M a c).ts,t.1.natAbs<=k
theorem Qhk{n k:Nat}{M:Nat->Nat->Pol}(h:BdM n k M):∀ r∈(lst n M).map rT,∀ l∈r,∀ t∈l,t.1.natAbs<=k:=by
 intro r hr l hl t ht
 obtain⟨q,hq,rfl⟩:=Gs.1 hr
 obtain⟨a,ha,rfl⟩:=Gs.1 hq
 obtain⟨p,hp,rfl⟩:=Gs.1 hl
 obtain⟨c,hc,rfl⟩:=Gs.1 hp
 exact h a c (by simpa using ha) (by simpa using hc) t ht
theorem YN{n:Nat}{M:Nat->Nat->Pol}:(lst n M).length=n:=by simp[lst]
theorem Qbf{n k:Nat}{M:Nat->Nat->Pol}(h:BdM n k M)(x:Int):D (Rw n k x M) (List.range' 0 n)=evF (k*n) (zE n M) x:=by
 have h1:=Qh7 (x:=x) (cs:=List.range' 0 n) (Qhk h)
 rw[Gj,YN]at h1
 unfold zE Qbg
 rw[YN,← h1]
 refine Qbu (by simp[Rw,lst]) fun i r t hr ht c hc=>?_
 have hc:c<n:=by have:=List.mem_range'_1.1 hc;omega
 unfold Rw at hr
 unfold lst at ht
 rw[Gh]at hr
 rw[Gh,Gh,Gh]at ht
 rcases hi:(List.range n)[i]? with _|a
 ·rw[hi]at hr;cases hr
 ·rw[hi]at hr ht
  obtain rfl:=Option.some.inj hr
  obtain rfl:=Option.some.inj ht
  show _=evS k x ((rT ((List.range n).map (M a))).getD c [])
  unfold rT
  rw[Ge,Gh,Gh,Gv hc]
  rfl
theorem Qbe{n k:Nat}{M:Nat->Nat->Pol}(h:BdM n k M):SpF (k*n) (zE n M):=by
 have h1:=QlT (cs:=List.range' 0 (lst n M).length) (Qhk h)
 rw[Gj]at h1
 simp only[YN]at h1
 unfold zE Qbg
 rw[YN];exact h1
theorem QeA(k:Nat)(x:Int):∀ l:List Tm,evS k x l=S (fun e=>x^(e+k).toNat) l
 | []=>rfl
 | t::l=>by simp only[evS,S];rw[QeA k x l]
theorem QkI{f g:Int->Int}{p q:Pol}(a:GP f p)(b:GP g q)(hb:FB eM cM fun e=>f e+g e)(kp:Pok p)(kq:Pok q):GP (fun e=>f e+g e) (qd p q)/\∀ h,S h (qd p q).ts=S h p.ts+S h q.ts:=by
 have can:=qo (f:=fun a b=>a+b) kp.can kq.can
 have e:=Qln (p:=p) (q:=q) a.nb b.nb
 have hcf:∀ e,cf (mA p.ts q.ts) e=f e+g e:=fun e=>by
  show S (dl e) _=_
  rw[S_mA]
  show cf p.ts e+cf q.ts e=_
  rw[a.cf,b.cf]
 have hc:Can (mA p.ts q.ts):=can
 have hfit:Ul (mA p.ts q.ts):=by
  intro t ht
  have h1:=Jf hc ht
  have h0:=hc.nz t ht
  rw[hcf]at h1
  have h2:t.1.natAbs<=eM/\(f t.1+g t.1).natAbs<=cM:=hb t.1 (show f t.1+g t.1≠0 by rw[h1];exact h0)
  rw[h1]at h2
  exact h2.2
 rw[e,if_pos hfit]
 exact⟨⟨rfl,hc,hcf⟩,fun h=>S_mA h _ _⟩
theorem EOk.gp{p:Pol}(k:EOk p):GP (cf p.ts) p:=⟨k.nb,k.can,fun _=>rfl⟩
theorem EOk.fb{p:Pol}(k:EOk p):FB 12 4 (cf p.ts):=fun e he=>by
 obtain⟨t,ht,rfl⟩:=Qic he
 rw[Jf k.can ht]
 exact k.bd t ht
structure EG(p:Pol):Prop where
 nb:p.big=false
 can:Can p.ts
 bd:∀ t∈p.ts,t.1.natAbs<=24/\t.2.natAbs<=48
theorem EOk.eg{p:Pol}(k:EOk p):EG p:=⟨k.nb,k.can,fun t ht=>by have:=k.bd t ht;omega⟩
theorem GP.eg{f:Int->Int}{p:Pol}(g:GP f p)(h:FB 24 48 f):EG p:=⟨g.nb,g.can,g.bd h⟩
theorem EG.len{p:Pol}(k:EG p):p.ts.length<=49:=Z5 k.can (lo := -24) fun t ht=>by have:=(k.bd t ht).1;omega
theorem EG.sum{p:Pol}(k:EG p):Yp p.ts<=2352:=by
 have:=JX (B:=48) fun t ht=>(k.bd t ht).2
 have:=k.len
 omega
theorem Qd6(x:Int){a b:Int}(ha:0<=a)(hb:0<=b):x^(a+b).toNat=x^a.toNat*x^b.toNat:=by
 rw[Int.toNat_add ha hb,Int.pow_add]
theorem Qeg{p q:Pol}(kp:EOk p)(kq:EOk q):EG (Yg p q)/\∀ x,x^12*evS 24 x (Yg p q).ts=evS 12 x q.ts*evS 24 x p.ts:=by
 have fb:FB 24 48 (Yn q.ts (cf p.ts)):=fun e he=>by
  obtain⟨t,ht,h2⟩:=UA he
  have h3:=(kp.fb _ h2).1
  have h4:=(kq.bd t ht).1
  refine⟨by omega,?_⟩
  have:=JB (B:=4) (f:=cf p.ts) (fun e=>by
   by_cases h:cf p.ts e=0
   ·rw[h];exact Gm _
   ·exact(kp.fb _ h).2) (l:=q.ts) (e:=e)
  have:=kq.sum
  omega
 have g:=Qa7 kp.gp (kp.fb.mono (by decide) (by decide)) kq.pok kq.nb (fun t ht=>by have:=(kq.bd t ht).1;omega) (fun e=>by
  by_cases h0:Yn q.ts (cf p.ts) e=0
  ·rw[h0];exact Gm _
  ·have:=(fb e h0).2
   simp only[cM];omega)
 obtain⟨L,hc,hs,he⟩:=Qhb kp.pok kq.pok kp.nb kq.nb (fun t ht=>by have:=(kp.bd t ht).1;omega) (fun t ht=>by have:=(kq.bd t ht).1;omega)
 have hL:(Yg p q).ts=L:=by
  have nb:=g.nb
  rw[he]at nb ⊢
  split at nb
  ·rename_i h;rw[if_pos h]
  ·cases nb
 refine⟨g.eg fb,fun x=>?_⟩
 rw[hL,QeA,QeA,QeA,hs]
 unfold S2
 rw[Hr (S _ q.ts),← Uh (c:=x^12),← Hr (S _ q.ts),← Uh]
 refine YE fun t ht=>?_
 rw[← Uh,Hr,← Uh]
 refine YE fun u hu=>?_
 have h1:=(kp.bd t ht).1
 have h2:=(kq.bd u hu).1
 rw[← Qd6 x (by omega) (by omega),show x^12=x^((12:Int)).toNat from rfl,← Qd6 x (by omega) (by omega)]
 congr 2;omega
theorem sqmG{n:Nat}{M:Nat->Nat->Pol}(hn:n<=4)(h:∀ a c,a<n->c<n->EG (M a c)):SqM 14 (lst n M):=by
 have hr:∀ r∈lst n M,r.length=n/\∀ p∈r,EG p:=fun r hr=>by
  obtain⟨a,ha,rfl⟩:=Gs.1 hr
  refine⟨by simp,fun p hp=>?_⟩
  obtain⟨c,hc,rfl⟩:=Gs.1 hp
  exact h a c (by simpa using ha) (by simpa using hc)
 refine⟨by rw[YN];omega,fun r h2=>by rw[YN];exact(hr r h2).1,fun r h2 p hp=>?_,⟨by decide,by rw[YN];omega⟩,fun r h2=>?_⟩
 ·have:=(hr r h2).2 p hp
  exact⟨this.can,this.nb,by have:=this.len;omega,fun t ht=>by have:=this.bd t ht;simp only[cM];omega⟩
 ·obtain⟨h3,h4⟩:=hr r h2
  have key:∀ q:List Pol,(∀ p∈q,EG p)->XQ (rT q)<=q.length*2352:=by
   intro q
   induction q with
   | nil=>intro _;simp[rT,XQ]
   | cons p q ih =>
    intro hq
    have:=ih fun z hz=>hq z (.tail _ hz)
    have:=(hq p (.head _)).sum
    unfold rT at *
    simp only[GE,XQ,Gu,GS];omega
  have:=key r h4
  rw[h3]at this
  have:n*2352<=4*2352:=GF _ hn
  omega
theorem UH(k:Nat)(x:Int):∀ {l:List Tm},(∀ t∈l,t.1.natAbs<=k)->evS k x l=evF k (cf l) x
 | [],_=>by
  unfold evF
  rw[XT (g:=fun _=>0) fun j _=>by rw[show cf [] _=0 from rfl,Hx],sm_zero];rfl
 | t::l,h=>by
  have ht:=h t (.head _)
  have e:evF k (cf (t::l)) x=evF k (fun e=>t.2*dl e t.1+cf l e) x:=zA (fun e=>Z4 t l e) x
  rw[e,QeB,← UH k x (l:=l) fun u hu=>h u (.tail _ hu)]
  simp only[evS]
  congr 1
  unfold evF
  have e2:(fun j:Nat=>t.2*dl ((j:Int)-k) t.1*x^j)=fun j:Nat=>if j=(t.1+k).toNat then t.2*x^(t.1+k).toNat else 0:=by
   funext j
   by_cases hj:j=(t.1+k).toNat
   ·rw[if_pos hj,show ((j:Int)-k)=t.1 by omega,YO,Int.mul_one,hj]
   ·rw[if_neg hj,ZQ (by omega),Int.mul_zero,Hx]
  rw[e2,QdO _ _ (by omega)]
def pF(A B:Nat->Nat->Pol)(a c:Nat):Nat->Int->Int
 | 0=>fun _=>0
 | m+1=>fun e=>pF A B a c m e+Yn (B m c).ts (cf (A a m).ts) e
def Qjb(n:Nat)(A B P:Nat->Nat->Pol):Prop:=∀ a c,a<n->c<n->GP (pF A B a c n) (P a c)
theorem yy{A B:Nat->Nat->Pol}{a c:Nat}(hA:∀ a c,EOk (A a c))(hB:∀ a c,EOk (B a c)):∀ m,FB 24 (48*m) (pF A B a c m)
 | 0=>fun e he=>absurd rfl he
 | m+1=>by
  intro e he
  have ih:=yy hA hB (a:=a) (c:=c) m
  replace he:pF A B a c m e+Yn (B m c).ts (cf (A a m).ts) e≠0:=he
  show e.natAbs<=24/\(pF A B a c m e+Yn (B m c).ts (cf (A a m).ts) e).natAbs<=48*(m+1)
  have h2:Yn (B m c).ts (cf (A a m).ts) e≠0->e.natAbs<=24:=fun h=>by
   obtain⟨t,ht,h3⟩:=UA h
   have:=((hA a m).fb _ h3).1
   have:=((hB m c).bd t ht).1
   omega
  have h3:=JB (B:=4) (f:=cf (A a m).ts) (fun e=>by
   by_cases h:cf (A a m).ts e=0
   ·rw[h];exact Gm _
   ·exact((hA a m).fb _ h).2) (l:=(B m c).ts) (e:=e)
  have h4:=(hB m c).sum
  have h5:(pF A B a c m e).natAbs<=48*m:=by
   by_cases h:pF A B a c m e=0
   ·rw[h];exact Gm _
   ·exact(ih e h).2
  refine⟨?_,by omega⟩
  by_cases h:pF A B a c m e=0
  ·exact h2 (fun h6=>he (by rw[h,h6];rfl))
  ·exact(ih e h).1
theorem QlF{A B:Nat->Nat->Pol}{a c:Nat}(hA:∀ a c,EOk (A a c))(hB:∀ a c,EOk (B a c))(x:Int):∀ m,evF 24 (pF A B a c m) x=((List.range m).map fun j=>evS 12 x (A a j).ts*evS 12 x (B j c).ts).sum
 | 0=>QhU x
 | m+1=>by
  have e:evF 24 (pF A B a c (m+1)) x=evF 24 (fun e=>pF A B a c m e+Yn (B m c).ts (cf (A a m).ts) e) x:=rfl
  rw[e,QeB,QlF hA hB x m,List.range_succ,GW,List.sum_append]
  congr 1
  have h:=Ve (k:=12) (M:=12) (x:=x) (f:=cf (A a m).ts) ((hA a m).fb.sp) (l:=(B m c).ts) fun t ht=>((hB m c).bd t ht).1
  rw[show (24:Nat)=12+12 from rfl,h,← UH 12 x fun t ht=>((hA a m).bd t ht).1]
  simp[Hr]
theorem QcA(b:Nat->Row)(a:Row)(c:Nat):∀ js:List Nat,ZW b a js c=(js.map fun j=>a j*b j c).sum
 | []=>rfl
 | j::js=>by rw[GE,Hg,← QcA b a c js];rfl
theorem Qh4{n:Nat}{A B P:Nat->Nat->Pol}(hA:∀ a c,EOk (A a c))(hB:∀ a c,EOk (B a c))(hP:Qjb n A B P){Y:Pol}(gY:GP (zE n B) Y)(e:Int):zE n P e=Yn Y.ts (zE n A) e:=by
 have bA:BdM n 12 A:=fun a c _ _ t ht=>((hA a c).bd t ht).1
 have bB:BdM n 12 B:=fun a c _ _ t ht=>((hB a c).bd t ht).1
 have bP:BdM n 24 P:=fun a c ha hc t ht=>((hP a c ha hc).bd (yy hA hB n) t ht).1
 have sA:=Qbe bA
 have sB:=Qbe bB
 have hY:∀ t∈Y.ts,t.1.natAbs<=12*n:=fun t ht=>by
  refine Decidable.byContradiction fun hn=>gY.can.nz t ht ?_
  rw[← Jf gY.can ht,gY.cf]
  exact sB _ (by omega)
 refine Qog (k:=24*n) (g:=Yn Y.ts (zE n A)) (Qbe bP) (fun e he=>Ji fun t ht=>sA _ (by have:=hY t ht;omega)) (fun x _=>?_) e
 rw[← Qbf bP,show 24*n=12*n+12*n by omega,Ve sA hY,UH _ x hY,zA gY.cf,← Qbf bA,← Qbf bB]
 have h:=QpL (fun j c=>evS 12 x (B j c).ts) (List.range' 0 n) (Rw n 12 x A) (List.range' 0 n) (by simp[Rw])
 rw[Hr]
 have e1:Rw n 12 x B=(List.range' 0 n).map fun j c=>evS 12 x (B j c).ts:=by unfold Rw;rw[List.range_eq_range']
 rw[e1,← h]
 refine Qbu (by simp[Rw]) fun i r t hr ht c hc=>?_
 have hc:c<n:=by have:=List.mem_range'_1.1 hc;omega
 unfold Rw at hr ht
 rw[Gh]at hr
 rw[Gh,Gh]at ht
 rcases hi:(List.range n)[i]? with _|a
 ·rw[hi]at hr;cases hr
 ·rw[hi]at hr ht
  have ha:a<n:=by have:=Gg hi;simpa using this
  obtain rfl:=Option.some.inj hr
  obtain rfl:=Option.some.inj ht
  show evS 24 x (P a c).ts=ZW (fun j c=>evS 12 x (B j c).ts) (fun c=>evS 12 x (A a c).ts) (List.range' 0 n) c
  rw[QcA,← List.range_eq_range',← QlF hA hB x n,← zA (hP a c ha hc).cf x,← UH 24 x fun t ht=>bP a c ha hc t ht]
set_option maxHeartbeats 16000000
set_option maxRecDepth 20000
attribute [local irreducible] Qm wA Xp Xo QI Qp QZ QY
noncomputable def rS(A B:Nat->Nat->Pol)(a c:Nat):Nat->Pol
 | 0=>⟨false,[]⟩
 | m+1=>Un (rS A B a c m) (ZA (X9 (A a m).ts (B m c).ts []))
theorem Qei{p q:Pol}(kA:EOk p)(kB:EOk q):FB 24 48 (Yn p.ts (cf q.ts)):=fun e he=>by
 obtain⟨t,ht,h2⟩:=UA he
 have:=(kB.fb _ h2).1
 have:=(kA.bd t ht).1
 refine⟨by omega,?_⟩
 have:=JB (B:=4) (f:=cf q.ts) (fun e=>by
  by_cases h:cf q.ts e=0
  ·rw[h];exact Gm _
  ·exact(kB.fb _ h).2) (l:=p.ts) (e:=e)
 have:=kA.sum
 omega
theorem Qeh{p q:Pol}(kA:EOk p)(kB:EOk q):GP (Yn q.ts (cf p.ts)) (ZA (X9 p.ts q.ts [])) :=
 (Qod kB.gp p.ts ((Qei kA kB).mono (by decide) (by decide))).cong fun e=>by
  rw[← yE (q:=q.ts) (fun _=>rfl),← yE (q:=p.ts) (fun _=>rfl),QaW]
theorem QbP{A B:Nat->Nat->Pol}{a c:Nat}(hA:∀ a c,EOk (A a c))(hB:∀ a c,EOk (B a c)):∀ m,m<=100->GP (pF A B a c m) (rS A B a c m)
 | 0,_=>Qev
 | m+1,hm=>Qoe (QbP hA hB m (by omega)) (Qeh (hA a m) (hB m c)) ((yy hA hB (m+1)).mono (by simp only[eM];omega) (by simp only[cM];omega))
theorem rf_gp{h:Qa}{r:AV}{p:Pol}{f:Int->Int}(a:IsRf h r p)(g:GP f p):∃ s,r = .agg [s,.bool false]/\IsD h s (tms p.ts):=by
 obtain⟨s,e,d⟩:=a
 exact⟨s,by rw[e,g.nb],d⟩
structure MulInR(h0:Qa)(sa sb:SV)(ma mb:List (List Pol))(A B:Nat->Nat->Pol)(na ka cb:Nat):Prop where
 pa:MxF fR h0 sa ma
 pb:MxF fR h0 sb mb
 la:ma.length=na
 lb:mb.length=ka
 ra:∀ i,i<na->∃ r,ma[i]?=some r/\r.length=ka/\∀ m,m<ka->r[m]?=some (A i m)
 rb:∀ m,m<ka->∃ r,mb[m]?=some r/\r.length=cb/\∀ k,k<cb->r[k]?=some (B m k)
 hc:ka=0->cb=0
 n:na<=100/\ka<=100/\cb<=100
structure S34(hb h:Qa)(q:Nat)(t:SV)(p:Pol):Prop where
 x:Ext hb h
 c:Cel h q t (.bool false)
 o:OwnD hb h t (tms p.ts)
def I34c(A B:Nat->Nat->Pol)(i k ka q:Nat)(sa sb a5 a7:AV)(hb:Qa)(kk:Nat)(E:Env)(h:Qa):Prop:=∃(m:Nat) (t:SV),m<=ka/\kk=ka-m/\S34 hb h q t (rS A B i k m) ∧
 E.keep [0,1,5,6,7,8,9,10]=[(0,some sa),(1,some sb),(5,some a5),(6,some (.sc (.int .i64 (i:Nat)))),(7,some a7),(8,some (.sc (.int .i64 (k:Nat)))),(9,some (.sc (.ptr q 0))),(10,some (.sc (.int .i64 (m:Nat))))]
def R34c(A B:Nat->Nat->Pol)(i k ka q:Nat)(sa sb a5 a7:AV)(hb:Qa)(ex:Ex)(E:Env)(h:Qa):Prop:=ex = .ex 4/\∃(t:SV) (a10 a34:Option AV),S34 hb h q t (rS A B i k ka) ∧
 E=[(0,some sa),(1,some sb),(5,some a5),(6,some (.sc (.int .i64 (i:Nat)))),(7,some a7),(8,some (.sc (.int .i64 (k:Nat)))),(9,some (.sc (.ptr q 0))),(10,a10),(34,a34)]
theorem QgD{ma mb:List (List Pol)}(A B:Nat->Nat->Pol)(hA:∀ a c,EOk (A a c))(hB:∀ a c,EOk (B a c))(i k na ka cb q:Nat)(sa sb:SV)(a5 a7:AV)(h0 hb:Qa)(hq:hb.length<=q)(x0:Ext h0 hb)(mi:MulInR h0 sa sb ma mb A B na ka cb)(hi:i<na)(hk:k<cb)(kk:Nat)(E:Env)(h:Qa)(hI:I34c A B i k ka q (.sc sa) (.sc sb) a5 a7 hb kk E h) :
  wA FT HKt Qmj (E.keep [0,1,5,6,7,8,9,10]) h (Qp (I34c A B i k ka q (.sc sa) (.sc sb) a5 a7 hb) kk (R34c A B i k ka q (.sc sa) (.sc sb) a5 a7 hb)):=by
 obtain⟨m,t,hm,rfl,s,hE⟩:=hI
 rw[hE]
 obtain⟨hn1,hn2,hn3⟩:=mi.n
 have lb:=mi.pb.len
 rw[mi.lb]at lb
 by_cases hlt:m<ka
 ·have xx:=x0.trans s.x
  obtain⟨ra,hra,lra,hre⟩:=mi.ra i hi
  obtain⟨rb,hrb,lrb,hrk⟩:=mi.rb m hlt
  obtain⟨ida,offa,capa,ha0,esa,rda,pra⟩:=mi.pa.at hra
  obtain⟨idb,offb,capb,hb0,esb,rdb,prb⟩:=mi.pb.at hrb
  obtain⟨id1,off1,cap1,ta,es1,rd1',da⟩:=pra.at (hre m hlt)
  obtain⟨id2,off2,cap2,tb,es2,rd2',db⟩:=prb.at (hrk k hk)
  subst es1 es2
  rw[mi.la]at esa
  rw[mi.lb]at esb
  have eA:=hA i m
  have eB:=hB m k
  have e1:[(fR (A i m) ta).1,(fR (A i m) ta).2]=[ta,SV.bool false]:=by show [ta,SV.bool (A i m).big]=_;rw[eA.nb]
  have e2:[(fR (B m k) tb).1,(fR (B m k) tb).2]=[tb,SV.bool false]:=by show [tb,SV.bool (B m k).big]=_;rw[eB.nb]
  rw[e1]at rd1'
  rw[e2]at rd2'
  rw[lra]at rda
  rw[lrb]at rdb
  have gS:=QbP hA hB (a:=i) (c:=k) m (by omega)
  have fbS:=yy hA hB (a:=i) (c:=k) m
  have gM:=Qeh eA eB
  have fbM:FB 24 48 (Yn (B m k).ts (cf (A i m).ts)):=Qei eB eA
  have k46:=fun H (e:Ext h0 H)=>QoD H ta tb (A i m).ts (B m k).ts (da.ext e) (db.ext e) (fun u hu=>by have:=eA.bd u hu;simp only[cM];omega) (fun u hu=>by have:=eB.bd u hu;simp only[cM];omega) (fun a ha u hu=>by
   have h1:=(eA.bd a ha).2
   have h2:=(eB.bd u hu).2
   have:a.2.natAbs*u.2.natAbs<=4*4:=Hj h1 h2
   rw[Hu]
   simp only[bM];omega) (by have:=eA.len;omega) (by
   have h1:=eA.len
   have h2:=eB.len
   have:(A i m).ts.length*(B m k).ts.length<=3*3:=Hj h1 h2
   omega)
  have k49:=fun H tm (d1:IsD H t (tms (rS A B i k m).ts)) (d2:IsD H tm (tms (ZA (X9 (A i m).ts (B m k).ts [])).ts))=>Qk1 H t tm (rS A B i k m) (ZA (X9 (A i m).ts (B m k).ts [])) d1 d2 (fun u hu=>by have:=(gS.bd fbS u hu).2;simp only[cM];omega) (fun u hu=>by have:=(gM.bd fbM u hu).2;simp only[cM];omega) (by have:=gS.len fbS;omega) (by have:=gM.len fbM;omega)
  rw[gS.nb,gM.nb]at k49
  have gS1:=QbP hA hB (a:=i) (c:=k) (m+1) (by omega)
  have hnb:(Un (rS A B i k m) (ZA (X9 (A i m).ts (B m k).ts []))).big=false:=gS1.nb
  have c9:=s.c
  have ds:=s.o.is
  have xb:=s.x
  generalize hsa:sa=SA at *
  generalize hsb:sb=SB at *
  subst esa esb
  repeat' first|apply Qf|apply Qb|apply Qt|apply QL|apply Qn|apply Qe|apply Q7|apply Xm|apply Xn|(apply Qg;refine Qk rfl ?_)|(apply Qd;first|apply Q5|apply Xw|refine XP (by assumption) ?_|refine Xh rfl rfl rfl rfl rfl rfl rfl rfl ?_|refine Q9 rfl rfl rfl rfl rfl rfl rfl rfl rfl ?_)|(apply Qc;first|(refine Qy (esz:=1) rfl rfl (by omega) ?_)|(refine Qy (esz:=2) rfl rfl (by omega) ?_)|refine Qr rfl lb ?_|refine QU rfl c9 ?_|refine Q1 rfl (Qw xx rda) ?_|refine Q1 rfl (Qw xx rdb) ?_|refine XH rfl (Qw xx rd1') ?_|refine XH rfl (Qw xx rd2') ?_|(refine Qj rfl (k46 _ xx) ?_;rintro v h3 ⟨e3,rf3⟩;obtain⟨tm,rfl,dm⟩:=rf_gp rf3 gM;replace c9:=c9.ext e3;replace ds:=ds.ext e3;replace xb:=xb.trans e3)|(refine Qj rfl (k49 _ _ ds dm) ?_;rintro v h4 ⟨e4,t4,rfl,o4⟩;replace c9:=c9.ext e4;have xb4:=xb.trans e4;have l4:=xb.len)|(refine Xg rfl rfl c9 ?_;intro h5 w5)|refine Ql rfl ?_|refine QM rfl rfl (by omega) ?_|refine Qx rfl rfl (by omega) ?_)
  refine Qz (j:=ka-(m+1)) (by omega) ⟨m+1,t4,by omega,rfl,⟨w5.ext xb4 hq,?_,(o4.weaken l4).wrC w5⟩,by rw[← hsa,← hsb];rfl⟩
  have:=w5.cel
  rw[hnb]at this
  exact this
 ·have:m=ka:=by omega
  subst this
  repeat' first|apply Qf|apply Qb|apply QS|apply QQ|apply Qe|(apply Qg;refine Qi rfl ?_)|(apply Qd;refine Q9 rfl rfl rfl rfl rfl rfl rfl rfl rfl ?_)|(apply Qc;first|refine Qr rfl lb ?_|refine Ql rfl ?_|refine QF rfl rfl (by omega) ?_)
  exact QB ⟨rfl,t,_,_,s,rfl⟩
theorem Qk4(h0:Qa)(sp sq:SV)(p q:Pol)(hp:IsD h0 sp (tms p.ts))(hq:IsD h0 sq (tms q.ts))(kp:Pok p)(kq:Pok q)(hd:p.ts≠[]->q.ts≠[]->64+4*(p.ts.length:Int)*q.ts.length<hi0 p.ts+hi0 q.ts-(lo0 p.ts+lo0 q.ts)) :
  ∃ r h',Cal FT HKt 22 [.agg [.bool p.big,sp],.agg [.bool q.big,sq]] h0 r h'/\Ext h0 h'/\VM h' r (Yg p q):=by
 refine Cal.of (F:=a22) rfl rfl rfl ?_
 have lp:=hp.len
 have lq:=hq.len
 rw[Q6]at lp lq
 by_cases hbp:p.big=true
 ·have e:Yg p q=Zi:=by unfold Yg;rw[if_pos (.inl hbp)]
  rw[e,hbp]
  repeat' first|apply Qf|apply Qb|apply QC|apply Qs|apply Qe|(apply Qg;refine Qk rfl ?_)|(apply Qd;first|refine Qq rfl ?_|refine Qu rfl rfl rfl ?_|refine QG rfl rfl rfl rfl ?_)|(apply Qc;first|(have z:=e2;apply Xa;intro h3 e3 c3;have d1:=(c1.ext e2).ext e3;have d2:=c2.ext e3)|(have z:=e1;refine QD rfl ?_;intro h2 e2 c2)|(refine QD rfl ?_;intro h1 e1 c1)|refine QN rfl d1 ?_|(refine Xz rfl rfl ?_)|(refine Xg rfl rfl c3 ?_;intro h4 w4)|refine Xd rfl ?_|refine Ql rfl ?_|refine QR rfl rfl ?_|refine Xk rfl rfl ?_)
  exact⟨.inr rfl,Xc rfl w4.cel.read ⟨w4.ext (e1.trans (e2.trans e3)) (Gq e1.len e2.len),.nilS,rfl,IsD.nil _⟩⟩
 have hbp':p.big=false:=by simpa using hbp
 rw[hbp']
 by_cases hbq:q.big=true
 ·have e:Yg p q=Zi:=by unfold Yg;rw[if_pos (.inr hbq)]
  rw[e,hbq]
  repeat' first|apply Qf|apply Qb|apply QC|apply Qs|apply Qe|(apply Qg;refine Qk rfl ?_)|(apply Qd;first|refine Qq rfl ?_|refine Qu rfl rfl rfl ?_|refine QG rfl rfl rfl rfl ?_)|(apply Qc;first|(have z:=e2;apply Xa;intro h3 e3 c3;have d1:=(c1.ext e2).ext e3;have d2:=c2.ext e3)|(have z:=e1;refine QD rfl ?_;intro h2 e2 c2)|(refine QD rfl ?_;intro h1 e1 c1)|refine QN rfl d1 ?_|refine QN rfl d2 ?_|(refine Xz rfl rfl ?_)|(refine Xg rfl rfl c3 ?_;intro h4 w4)|refine QP rfl ?_|refine Ql rfl ?_|refine QJ rfl rfl ?_|refine Xk rfl rfl ?_)
  exact⟨.inr rfl,Xc rfl w4.cel.read ⟨w4.ext (e1.trans (e2.trans e3)) (Gq e1.len e2.len),.nilS,rfl,IsD.nil _⟩⟩
 have hbq':q.big=false:=by simpa using hbq
 rw[hbq']
 have nb:¬(p.big=true∨q.big=true):=fun h=>h.elim hbp hbq
 by_cases hpe:p.ts=[]
 ·have e:Yg p q=Qbv:=by unfold Yg;rw[if_neg nb,if_pos (.inl hpe)]
  have lp0:Yh false sp=some 0:=by rw[lp,hpe];rfl
  rw[e]
  repeat' first|apply Qf|apply Qb|apply QC|apply Qn|apply Qs|apply Qe|(apply Qg;first|refine Qk rfl ?_|refine Qi rfl ?_)|(apply Qd;first|refine Qq rfl ?_|refine Qu rfl rfl rfl ?_|refine QG rfl rfl rfl rfl ?_)|(apply Qc;first|(have z:=e2;apply Xa;intro h3 e3 c3;have d1:=(c1.ext e2).ext e3;have d2:=c2.ext e3)|(have z:=e1;refine QD rfl ?_;intro h2 e2 c2)|(refine QD rfl ?_;intro h1 e1 c1)|refine QN rfl d1 ?_|refine QN rfl d2 ?_|refine QH rfl d1 ?_|refine Qr rfl lp0 ?_|(refine Xz rfl rfl ?_)|(refine Xg rfl rfl c3 ?_;intro h4 w4)|refine Xd rfl ?_|refine QP rfl ?_|refine Ql rfl ?_|refine QR rfl rfl ?_|refine QJ rfl rfl ?_|refine Xu rfl rfl (by omega) ?_|refine Xk rfl rfl ?_)
  exact⟨.inr rfl,Xc rfl w4.cel.read ⟨w4.ext (e1.trans (e2.trans e3)) (Gq e1.len e2.len),.nilS,rfl,IsD.nil _⟩⟩
 have lpp:0<p.ts.length:=GU.2 hpe
 by_cases hqe:q.ts=[]
 ·have e:Yg p q=Qbv:=by unfold Yg;rw[if_neg nb,if_pos (.inr hqe)]
  have lq0:Yh false sq=some 0:=by rw[lq,hqe];rfl
  rw[e]
  repeat' first|apply Qf|apply Qb|apply QC|apply Qn|apply Qs|apply Qe|(apply Qg;first|refine Qk rfl ?_|refine Qi rfl ?_)|(apply Qd;first|refine Qq rfl ?_|refine Qu rfl rfl rfl ?_|refine QG rfl rfl rfl rfl ?_)|(apply Qc;first|(have z:=e2;apply Xa;intro h3 e3 c3;have d1:=(c1.ext e2).ext e3;have d2:=c2.ext e3)|(have z:=e1;refine QD rfl ?_;intro h2 e2 c2)|(refine QD rfl ?_;intro h1 e1 c1)|refine QN rfl d1 ?_|refine QN rfl d2 ?_|refine QH rfl d1 ?_|refine QH rfl d2 ?_|refine Qr rfl lp ?_|refine Qr rfl lq0 ?_|(refine Xz rfl rfl ?_)|(refine Xg rfl rfl c3 ?_;intro h4 w4)|refine QP rfl ?_|refine Ql rfl ?_|refine QJ rfl rfl ?_|refine Xu rfl rfl (by omega) ?_|refine Xl rfl rfl (by omega) ?_|refine Xk rfl rfl ?_)
  exact⟨.inr rfl,Xc rfl w4.cel.read ⟨w4.ext (e1.trans (e2.trans e3)) (Gq e1.len e2.len),.nilS,rfl,IsD.nil _⟩⟩
 have lqp:0<q.ts.length:=GU.2 hqe
 have ne2:¬(p.ts=[]∨q.ts=[]):=fun h=>h.elim hpe hqe
 have hd:=hd hpe hqe
 have kl:=kp.lo
 have kl2:=kq.lo
 have plen:=kp.len
 have qlen:=kq.len
 have k27p:=fun H (e:Ext h0 H)=>zH H false sp p.ts (hp.ext e)
 have k27q:=fun H (e:Ext h0 H)=>zH H false sq q.ts (hq.ext e)
 have k28p:=fun H (e:Ext h0 H)=>zG H false sp p.ts (hp.ext e) plen
 have k28q:=fun H (e:Ext h0 H)=>zG H false sq q.ts (hq.ext e) qlen
 have hmul:4*(p.ts.length:Int)*(q.ts.length:Int)<=8388612*2097153:=by
  have h1:4*(p.ts.length:Int)*(q.ts.length:Int)<=8388612*(q.ts.length:Int):=G0 (by omega) (by omega)
  omega
 have hmul0:0<=4*(p.ts.length:Int)*(q.ts.length:Int):=Ht (by omega) (by omega)
 have hrng:=QaT kp.can kq.can
 have hmlo:qG p.ts q.ts=lo0 p.ts+lo0 q.ts:=rfl
 have hmn:((ZG p.ts q.ts:Nat):Int)=hi0 p.ts+hi0 q.ts-(lo0 p.ts+lo0 q.ts)+1:=by unfold ZG;omega
 generalize hLo:lo0 p.ts+lo0 q.ts=lo at *
 generalize hHi:hi0 p.ts+hi0 q.ts=hi at *
 by_cases hout:lo < -1048576∨1048576<hi
 ·have e:Yg p q=Zi:=by unfold Yg;rw[if_neg nb,if_neg ne2,hmlo,hHi,if_pos hout]
  rw[e]
  by_cases ho1:lo < -1048576
  ·repeat' first|apply Qf|apply Qb|apply QC|apply Qn|apply Qs|apply Qe|apply Q7|apply Xm|apply Xn|(apply Qg;first|refine Qk rfl ?_|refine Qi rfl ?_)|(apply Qd;first|apply Q5|apply Xw|refine XP (by assumption) ?_|refine Qq rfl ?_|refine Qu rfl rfl rfl ?_|refine QG rfl rfl rfl rfl ?_|refine QO rfl rfl rfl rfl rfl ?_|refine QE rfl rfl rfl rfl rfl rfl ?_)|(apply Qc;first|(have z:=e2;apply Xa;intro h3 e3 c3;have x3:=e1.trans (e2.trans e3);have n1:=e1.len;have n2:=e2.len;have n3:=c3.lt;have d1:=(c1.ext e2).ext e3;have d2:=c2.ext e3;have m1:=c1.lt;have m2:=c2.lt)|(have z:=e1;refine QD rfl ?_;intro h2 e2 c2)|(refine QD rfl ?_;intro h1 e1 c1)|refine QN rfl d1 ?_|refine QN rfl d2 ?_|refine QH rfl d1 ?_|refine QH rfl d2 ?_|refine Qr rfl lp ?_|refine Qr rfl lq ?_|refine QU rfl d1 ?_|refine QU rfl d2_4 ?_|refine QU rfl d1_5 ?_|refine QU rfl d2_6 ?_|(refine Qj rfl (k27p h3 x3) ?_;rintro r h4 ⟨e4,rfl⟩;have d1_4:=d1.ext e4;have d2_4:=d2.ext e4;have c3_4:=c3.ext e4)|(refine Qj rfl (k27q h4 (x3.trans e4)) ?_;rintro r h5 ⟨e5,rfl⟩;have d1_5:=d1_4.ext e5;have d2_5:=d2_4.ext e5;have c3_5:=c3_4.ext e5)|(refine Qj rfl (k28p h5 (x3.trans (e4.trans e5))) ?_;rintro r h6 ⟨e6,rfl⟩;have d1_6:=d1_5.ext e6;have d2_6:=d2_5.ext e6;have c3_6:=c3_5.ext e6)|(refine Qj rfl (k28q h6 (x3.trans (e4.trans (e5.trans e6)))) ?_;rintro r h7 ⟨e7,rfl⟩;have d1_7:=d1_6.ext e7;have d2_7:=d2_6.ext e7;have c3_7:=c3_6.ext e7)|(have z:=e7;refine QM rfl rfl (by omega) ?_;rw[hHi])|(have z:=e5;refine QM rfl rfl (by omega) ?_;rw[hLo])|(have z:=e7;apply JE;intro h8 e8 n8;have m7:=(e4.trans (e5.trans (e6.trans e7))).len;have d1_8:=d1_7.ext e8;have d2_8:=d2_7.ext e8;have c3_8:=c3_7.ext e8)|(refine qH rfl rfl n8 ?_;intro h9 w9 c9;have c3_9:Cel h9 h2.length (.bool false) .nilS:=(by unfold Cel;rw[w9,Gk (by omega)];exact c3_8))|refine XG rfl (Cel1.at c9) rfl ?_|(refine Xz rfl rfl ?_)|(refine Xg rfl rfl c3_9 ?_;intro hA wA)|refine Xd rfl ?_|refine QP rfl ?_|refine Ql rfl ?_|refine QR rfl rfl ?_|refine QJ rfl rfl ?_|refine Qx rfl rfl (by omega) ?_|refine Xl rfl rfl (by omega) ?_|refine Xk rfl rfl ?_)
   exact⟨.inr rfl,Xc rfl wA.cel.read ⟨wA.ext (by rw[w9];exact(x3.trans (e4.trans (e5.trans (e6.trans (e7.trans e8))))).set (by omega) _) (Gq e1.len e2.len),.nilS,rfl,IsD.nil _⟩⟩
  ·have ho2:1048576<hi:=by omega
   repeat' first|apply Qf|apply Qb|apply QC|apply Qn|apply Qs|apply Qe|apply Q7|apply Xm|apply Xn|(apply Qg;first|refine Qk rfl ?_|refine Qi rfl ?_)|(apply Qd;first|apply Q5|apply Xw|refine XP (by assumption) ?_|refine Qq rfl ?_|refine Qu rfl rfl rfl ?_|refine QG rfl rfl rfl rfl ?_|refine QO rfl rfl rfl rfl rfl ?_|refine QE rfl rfl rfl rfl rfl rfl ?_)|(apply Qc;first|(have z:=e2;apply Xa;intro h3 e3 c3;have x3:=e1.trans (e2.trans e3);have n1:=e1.len;have n2:=e2.len;have n3:=c3.lt;have d1:=(c1.ext e2).ext e3;have d2:=c2.ext e3;have m1:=c1.lt;have m2:=c2.lt)|(have z:=e1;refine QD rfl ?_;intro h2 e2 c2)|(refine QD rfl ?_;intro h1 e1 c1)|refine QN rfl d1 ?_|refine QN rfl d2 ?_|refine QH rfl d1 ?_|refine QH rfl d2 ?_|refine Qr rfl lp ?_|refine Qr rfl lq ?_|refine QU rfl d1 ?_|refine QU rfl d2_4 ?_|refine QU rfl d1_5 ?_|refine QU rfl d2_6 ?_|(refine Qj rfl (k27p h3 x3) ?_;rintro r h4 ⟨e4,rfl⟩;have d1_4:=d1.ext e4;have d2_4:=d2.ext e4;have c3_4:=c3.ext e4)|(refine Qj rfl (k27q h4 (x3.trans e4)) ?_;rintro r h5 ⟨e5,rfl⟩;have d1_5:=d1_4.ext e5;have d2_5:=d2_4.ext e5;have c3_5:=c3_4.ext e5)|(refine Qj rfl (k28p h5 (x3.trans (e4.trans e5))) ?_;rintro r h6 ⟨e6,rfl⟩;have d1_6:=d1_5.ext e6;have d2_6:=d2_5.ext e6;have c3_6:=c3_5.ext e6)|(refine Qj rfl (k28q h6 (x3.trans (e4.trans (e5.trans e6)))) ?_;rintro r h7 ⟨e7,rfl⟩;have d1_7:=d1_6.ext e7;have d2_7:=d2_6.ext e7;have c3_7:=c3_6.ext e7)|(have z:=e7;refine QM rfl rfl (by omega) ?_;rw[hHi])|(have z:=e5;refine QM rfl rfl (by omega) ?_;rw[hLo])|(have z:=e7;apply JE;intro h8 e8 n8;have m7:=(e4.trans (e5.trans (e6.trans e7))).len;have d1_8:=d1_7.ext e8;have d2_8:=d2_7.ext e8;have c3_8:=c3_7.ext e8)|(refine qH rfl rfl n8 ?_;intro h9 w9 c9;have c3_9:Cel h9 h2.length (.bool false) .nilS:=(by unfold Cel;rw[w9,Gk (by omega)];exact c3_8))|refine XG rfl (Cel1.at c9) rfl ?_|(refine Xz rfl rfl ?_)|(refine Xg rfl rfl c3_9 ?_;intro hA wA)|refine QP rfl ?_|refine Ql rfl ?_|refine QJ rfl rfl ?_|refine QF rfl rfl (by omega) ?_|refine XK rfl rfl (by omega) ?_|refine Xl rfl rfl (by omega) ?_|refine Xk rfl rfl ?_)
   exact⟨.inr rfl,Xc rfl wA.cel.read ⟨wA.ext (by rw[w9];exact(x3.trans (e4.trans (e5.trans (e6.trans (e7.trans e8))))).set (by omega) _) (Gq e1.len e2.len),.nilS,rfl,IsD.nil _⟩⟩
 have hpq:p.ts.length*q.ts.length<=1000000:=by
  have e1:((p.ts.length*q.ts.length:Nat):Int)=(p.ts.length:Int)*(q.ts.length:Int):=GZ _ _
  have e2:4*(p.ts.length:Int)*(q.ts.length:Int)=4*((p.ts.length:Int)*(q.ts.length:Int)):=G5 _ _ _
  omega
 have hmul2:Yg p q=QhK (VO p.ts q.ts lo (ZG p.ts q.ts)):=by unfold Yg QhK;rw[if_neg nb,if_neg ne2,hmlo,hHi,if_neg hout]
 rw[hmlo]at hrng
 have k42:=fun H (e:Ext h0 H)=>QoA H sp sq false false p q (hp.ext e) (hq.ext e) kp kq hpe hqe lo (ZG p.ts q.ts) hrng (by omega) (by omega) hpq
 rw[← hmul2]at k42
 repeat' first|apply Qf|apply Qb|apply QC|apply Qn|apply Qs|apply Qe|apply Q7|apply Xm|apply Xn|(apply Qg;first|refine Qk rfl ?_|refine Qi rfl ?_)|(apply Qd;first|apply Q5|apply Xw|refine XP (by assumption) ?_|refine Qq rfl ?_|refine Qu rfl rfl rfl ?_|refine QG rfl rfl rfl rfl ?_|refine QO rfl rfl rfl rfl rfl ?_|refine QE rfl rfl rfl rfl rfl rfl ?_)|(apply Qc;first|(have z:=e2;apply Xa;intro h3 e3 c3;have x3:=e1.trans (e2.trans e3);have n1:=e1.len;have n2:=e2.len;have n3:=c3.lt;have d1:=(c1.ext e2).ext e3;have d2:=c2.ext e3;have m1:=c1.lt;have m2:=c2.lt)|(have z:=e1;refine QD rfl ?_;intro h2 e2 c2)|(refine QD rfl ?_;intro h1 e1 c1)|refine QN rfl d1 ?_|refine QN rfl d2 ?_|refine QH rfl d1 ?_|refine QH rfl d2 ?_|refine Qr rfl lp ?_|refine Qr rfl lq ?_|refine QU rfl d1 ?_|refine QU rfl d2_4 ?_|refine QU rfl d1_5 ?_|refine QU rfl d2_6 ?_|(refine Qj rfl (k27p h3 x3) ?_;rintro r h4 ⟨e4,rfl⟩;have d1_4:=d1.ext e4;have d2_4:=d2.ext e4;have c3_4:=c3.ext e4)|(refine Qj rfl (k27q h4 (x3.trans e4)) ?_;rintro r h5 ⟨e5,rfl⟩;have d1_5:=d1_4.ext e5;have d2_5:=d2_4.ext e5;have c3_5:=c3_4.ext e5)|(refine Qj rfl (k28p h5 (x3.trans (e4.trans e5))) ?_;rintro r h6 ⟨e6,rfl⟩;have d1_6:=d1_5.ext e6;have d2_6:=d2_5.ext e6;have c3_6:=c3_5.ext e6)|(refine Qj rfl (k28q h6 (x3.trans (e4.trans (e5.trans e6)))) ?_;rintro r h7 ⟨e7,rfl⟩;have d1_7:=d1_6.ext e7;have d2_7:=d2_6.ext e7;have c3_7:=c3_6.ext e7)|(have z:=e7;refine QM rfl rfl (by omega) ?_;rw[hHi])|(have z:=e5;refine QM rfl rfl (by omega) ?_;rw[hLo])|(have z:=e7;apply JE;intro h8 e8 n8;have m7:=(e4.trans (e5.trans (e6.trans e7))).len;have d1_8:=d1_7.ext e8;have d2_8:=d2_7.ext e8;have c3_8:=c3_7.ext e8)|(refine qH rfl rfl n8 ?_;intro h9 w9 c9;have x9:Ext h0 h9:=(by rw[w9];exact(x3.trans (e4.trans (e5.trans (e6.trans (e7.trans e8))))).set (by omega) _);have c3_9:Cel h9 h2.length (.bool false) .nilS:=(by unfold Cel;rw[w9,Gk (by omega)];exact c3_8);have d1_9:Cel h9 h0.length (.bool false) sp:=(by unfold Cel;rw[w9,Gk (by omega)];exact d1_8);have d2_9:Cel h9 h1.length (.bool false) sq:=(by unfold Cel;rw[w9,Gk (by omega)];exact d2_8))|refine XG rfl (Cel1.at c9) rfl ?_|refine QH rfl d1_9 ?_|refine QH rfl d2_9 ?_|refine QU rfl d1_9 ?_|refine QU rfl d2_9 ?_|(refine Qj rfl (k42 h9 x9) ?_;rintro r hA ⟨eA,s,rfl,is⟩;have c3_A:=c3_9.ext eA)|(refine Xg rfl rfl c3_A ?_;intro hZ wZ)|refine QP rfl ?_|refine Ql rfl ?_|refine QJ rfl rfl ?_|refine QM rfl rfl (by omega) ?_|refine Jj rfl rfl (by omega) ?_|refine JR rfl rfl (by omega) ?_|refine QF rfl rfl (by omega) ?_|refine XK rfl rfl (by omega) ?_|refine XD rfl rfl (by omega) ?_|refine Xl rfl rfl (by omega) ?_|refine Xk rfl rfl ?_)
 exact⟨.inr rfl,Xc rfl wZ.cel.read ⟨wZ.ext (x9.trans eA) (Gq e1.len e2.len),s,rfl,is.wrC wZ⟩⟩
theorem QeI(h0:Qa)(sp sq:SV)(p q:Pol)(hp:IsD h0 sp (tms p.ts))(hq:IsD h0 sq (tms q.ts))(kp:Pok p)(kq:Pok q) :
  ∃ r h',Cal FT HKt 22 [.agg [.bool p.big,sp],.agg [.bool q.big,sq]] h0 r h'/\Ext h0 h'/\VM h' r (Yg p q):=by
 by_cases hd:hi0 p.ts+hi0 q.ts-(lo0 p.ts+lo0 q.ts)<=64+4*(p.ts.length:Int)*q.ts.length
 ·exact QoM h0 sp sq p q hp hq kp kq fun _ _=>hd
 ·exact Qk4 h0 sp sq p q hp hq kp kq fun _ _=>by omega
end Go.Proofs.YtofknpknogfijaaGreatDoor
namespace Go.Proofs.YtofknpknogfijaaGreatDoor
open Go.Ab
set_option linter.all false
abbrev Qls:Int->Qa->List SV->Prop:=fun n _ ss=>ss=[.int .i64 n]/\(Lit.int .i64 n).wf=true
abbrev RIs:List Int->Qa->List SV->Prop:=fun ds h ss=>∃ s l,ss=[s]/\IsSl h s ⟨1,none⟩ ds.length l/\RL Qls ds h l
abbrev Qlt:Ent->Qa->List SV->Prop:=fun d h ss=>∃ l1 l2,ss=l1++l2/\Qls d.1 h l1/\RIs d.2 h l2
abbrev RRow:List Ent->Qa->List SV->Prop:=fun ds h ss=>∃ s l,ss=[s]/\IsSl h s ⟨2,none⟩ ds.length l/\RL Qlt ds h l
abbrev RMx:List (List Ent)->Qa->List SV->Prop:=fun ds h ss=>∃ s l,ss=[s]/\IsSl h s ⟨1,none⟩ ds.length l/\RL RRow ds h l
theorem QdV:∀ {ds:List Int} {h:Qa} {l:List SV},RL Qls ds h l->l=ds.map (.int .i64)
 | [],h,l,e=>e
 | d::ds,h,l,⟨l1,l2,e,⟨a,_⟩,b⟩=>by rw[e,a,QdV b];rfl
theorem RIs.ok{ds:List Int}{h:Qa}{ss:List SV}(a:RIs ds h ss):∃ s,ss=[s]/\IsInts h s ds:=by
 obtain⟨s,l,e,q,r⟩:=a
 rw[QdV r]at q
 exact⟨s,e,q⟩
theorem QdW:∀ {ds:List Ent} {h:Qa} {l:List SV},RL Qlt ds h l->∃ ts:List SV,ts.length=ds.length/\l=prs (List.zipWith (fun (p:Ent) t=>(SV.int .i64 p.1,t)) ds ts)/\∀(i:Nat) (p:Ent) (t:SV),ds[i]?=some p->ts[i]?=some t->IsInts h t p.2
 | [],h,l,e=>⟨[],rfl,e,fun i p t a=>by simp at a⟩
 | d::ds,h,l,⟨l1,l2,e,⟨m1,m2,e2,⟨e3,_⟩,r⟩,b⟩=>by
  obtain⟨ts,q1,q2,q3⟩:=QdW b
  obtain⟨s,e4,hs⟩:=r.ok
  refine⟨s::ts,by simp[q1],?_,fun i p t hi ht=>?_⟩
  ·rw[e,e2,e3,e4,q2];rfl
  ·cases i with
   | zero=>simp at hi ht;subst hi ht;exact hs
   | succ i=>exact q3 i p t (by simpa using hi) (by simpa using ht)
theorem RRow.ok{ds:List Ent}{h:Qa}{ss:List SV}(a:RRow ds h ss):∃ s,ss=[s]/\ERow h s ds:=by
 obtain⟨s,l,e,q,r⟩:=a
 obtain⟨ts,q1,q2,q3⟩:=QdW r
 refine⟨s,e,ts,q1,?_,q3⟩
 unfold IsD
 rw[G7,q1,Hw,← q2]
 exact q
theorem QdU:∀ {ds:List (List Ent)} {h:Qa} {l:List SV},RL RRow ds h l->l.length=ds.length/\∀(i:Nat) (t:SV) (r:List Ent),l[i]?=some t->ds[i]?=some r->ERow h t r
 | [],h,l,e=>by
  have:l=[]:=e
  subst this
  exact⟨rfl,fun i t r a=>by simp at a⟩
 | d::ds,h,l,⟨l1,l2,e,a,b⟩=>by
  obtain⟨q1,q2⟩:=QdU b
  obtain⟨s,e1,hs⟩:=a.ok
  subst e1
  subst e
  refine⟨by simp[q1],fun i t r hi hr=>?_⟩
  cases i with
  | zero=>simp at hi hr;subst hi hr;exact hs
  | succ i=>exact q2 i t r (by simpa using hi) (by simpa using hr)
theorem RMx.ok{ds:List (List Ent)}{h:Qa}{ss:List SV}(a:RMx ds h ss):∃ s,ss=[s]/\EMx h s ds:=by
 obtain⟨s,l,e,q,r⟩:=a
 obtain⟨q1,q2⟩:=QdU r
 refine⟨s,e,l,q1,?_,q2⟩
 rw[q1]
 exact q
section
variable {H:Type} {enc:TypeId×Value->H} {P:Program} {w:World} {base:Nat} {held:Bool}
theorem QdF{te ti tl:TypeId}{f0 f1:Field}(he:P.underlying te=some (.struct #[f0,f1]))(h0:f0.type=ti/\f0.offset=0)(h1:f1.type=tl/\f1.offset=1)(hi:P.underlying ti=some (.int .i64))(hl:P.underlying tl=some (.slice ti))
  (ci:P.cellsOf ti=1) (cl:P.cellsOf tl=1) (ce:P.cellsOf te=2):TOk enc P w base held te 2 Ent Qlt:=by
 have a:TOk enc P w base held ti 1 Int Qls:=TOk.int hi
 have b:TOk enc P w base held tl 1 (List Int) RIs:=TOk.slice hl ci (by decide) a
 exact TOk.struct2 (c0:=1) (c1:=1) he ⟨h0.2,by rw[h0.1];exact ci⟩ ⟨h1.2,by rw[h1.1];exact cl⟩ ce (by rw[h0.1];exact a) (by rw[h1.1];exact b)
theorem QdE{te tr:TypeId}(hr:P.underlying tr=some (.slice te))(ce:P.cellsOf te=2)(a:TOk enc P w base held te 2 Ent Qlt):TOk enc P w base held tr 1 (List Ent) RRow:=TOk.slice hr ce (by decide) a
theorem Qge{tr tm:TypeId}(hm:P.underlying tm=some (.slice tr))(cr:P.cellsOf tr=1)(a:TOk enc P w base held tr 1 (List Ent) RRow):TOk enc P w base held tm 1 (List (List Ent)) RMx:=TOk.slice hm cr (by decide) a
end
variable [HB]
def MX(lo hi:Nat)(h:Qa)(s:SV)(n:Nat)(M:Nat->Nat->Pol):Prop:=∃(ids:Nat->Nat) (caps:Nat->Option Nat) (U:Nat->Nat->SV),IsSl h s 1 n ((List.range n).map (hdR n ids caps))/\RX lo hi h n n M ids U
def upd{α:Type}(M:Nat->Nat->α)(a c:Nat)(p:α):Nat->Nat->α:=fun x=>if x=a then fun y=>if y=c then p else M a y else M x
theorem RX.noi{lo hi:Nat}{h:Qa}{n m:Nat}{M:Nat->Nat->Pol}{ids:Nat->Nat}{U:Nat->Nat->SV}(r:RX lo hi h n m M ids U){a:Nat}(ha:a<m):NoI (prs (rwC n (M a) (U a))):=QjX fun c hc=>r.d a c ha hc
theorem RX.ki{lo hi:Nat}{h:Qa}{n m:Nat}{M:Nat->Nat->Pol}{ids:Nat->Nat}{U:Nat->Nat->SV}(r:RX lo hi h n m M ids U){a:Nat}(ha:a<m)(bl:List SV):KI h (h.set (ids a) (.cells bl true 2)) :=
 KI.set (r.b a ha).2.2 rfl (.inr ⟨_,rfl,r.noi ha⟩)
theorem RX.set{lo hi:Nat}{h:Qa}{n m:Nat}{M:Nat->Nat->Pol}{ids:Nat->Nat}{U:Nat->Nat->SV}(r:RX lo hi h n m M ids U){a c:Nat}(ha:a<m){p:Pol}{t:SV}(d:IsD h t (tms p.ts)) :
  RX lo hi (h.set (ids a) (.cells (prs ((rwC n (M a) (U a)).set c (fL p t))) true 2)) n m (upd M a c p) ids (upd U a c t):=by
 have ki:=r.ki ha (prs ((rwC n (M a) (U a)).set c (fL p t)))
 have hlt:=(Gb.1 (r.b a ha).2.2).1
 refine⟨fun x hx=>?_,fun x y hx hy=>?_,r.ne⟩
 ·obtain⟨b1,b2,b3⟩:=r.b x hx
  refine⟨b1,b2,?_⟩
  by_cases e:x=a
  ·subst e
   rw[GA hlt,QjW]
   unfold upd
   rw[if_pos rfl,if_pos rfl]
  ·rw[Gk (fun e2=>r.ne a x ha hx (Ne.symm e) e2)]
   unfold upd
   rw[if_neg e,if_neg e];exact b3
 ·by_cases e:x=a
  ·subst e
   unfold upd
   rw[if_pos rfl,if_pos rfl]
   by_cases e2:y=c
   ·rw[if_pos e2,if_pos e2];exact IsD.ki d ki
   ·rw[if_neg e2,if_neg e2];exact IsD.ki (r.d x y hx hy) ki
  ·unfold upd
   rw[if_neg e,if_neg e];exact IsD.ki (r.d x y hx hy) ki
set_option maxHeartbeats 16000000
set_option maxRecDepth 20000
attribute [local irreducible] Qm wA Xp Xo QI Qp QZ QY
structure L4(n q12 q19:Nat)(t12 t19:SV)(P F:Pol)(s:Nat->SV)(lo:Nat->Nat)(M:Nat->Nat->Nat->Pol)(h:Qa):Prop where
 mx:∀ t,t<5->MX (lo t) (lo (t+1)) h (s t) n (M t)
 mo:∀ a b,a<=b->lo a<=lo b
 c12:Cel h q12 (.bool P.big) t12
 d12:IsD h t12 (tms P.ts)
 c19:Cel h q19 (.bool F.big) t19
 d19:IsD h t19 (tms F.ts)
section
variable {n q12 q19:Nat} {t12 t19:SV} {P F:Pol} {s:Nat->SV} {lo:Nat->Nat} {M M':Nat->Nat->Nat->Pol} {h h':Qa}
end
end Go.Proofs.YtofknpknogfijaaGreatDoor
namespace Go.Proofs.YtofknpknogfijaaGreatDoor
open Go.Ab
set_option linter.all false
set_option maxHeartbeats 16000000
set_option maxRecDepth 20000
attribute [local irreducible] Qm wA Xp Xo QI Qp QZ QY
section
variable [HB]
theorem QlK{l:List (List Ent)}(h:smM 4 l)(a c:Nat):EOk (mE l a c):=by
 have:smE ((l.getD a []).getD c (0,[])):=by
  have h0:smE (0,[]):=⟨by decide,by decide,by decide,by simp⟩
  rw[Ge (l:=l)]
  rcases hr:l[a]? with _|r
  ·exact h0
  ·simp only[Option.getD_some]
   rw[Ge]
   rcases he:r[c]? with _|e
   ·exact h0
   ·exact(h.2 r (Gg hr)).2 e (Gg he)
 exact eok this
end
variable [HB]
noncomputable def pS(A B:Nat->Nat->Pol)(a c:Nat):Nat->Pol
 | 0=>⟨false,[]⟩
 | m+1=>qd (pS A B a c m) (Yg (A a m) (B m c))
theorem qE{A B:Nat->Nat->Pol}{a c:Nat}(hA:∀ a c,EOk (A a c))(hB:∀ a c,EOk (B a c)):∀ m,m<=100->GP (pF A B a c m) (pS A B a c m)
 | 0,_=>Qev
 | m+1,hm=>by
  have ih:=qE hA hB (a:=a) (c:=c) m (by omega)
  have fb1:=yy hA hB (a:=a) (c:=c) m
  have fb2:=yy hA hB (a:=a) (c:=c) (m+1)
  have kA:=hA a m
  have kB:=hB m c
  have gm:=Qa7 kA.gp (kA.fb.mono (by decide) (by decide)) kB.pok kB.nb (fun t ht=>by have:=(kB.bd t ht).1;omega) (fun e=>by
   have:=JB (B:=4) (f:=cf (A a m).ts) (fun e=>by
    by_cases h:cf (A a m).ts e=0
    ·rw[h];exact Gm _
    ·exact(kA.fb _ h).2) (l:=(B m c).ts) (e:=e)
   have:=kB.sum
   simp only[cM];omega)
  have kp:=ih.pok (fb1.mono (by simp only[eM];omega) (by simp only[cM];omega))
  have kq:=(Qeg kA kB).1
  exact(QkI ih gm (fb2.mono (by simp only[eM];omega) (by simp only[cM];omega)) kp ⟨fun h=>(by rw[kq.nb]at h;cases h),kq.can,fun t ht=>by have:=kq.bd t ht;simp only[cM];omega,fun t ht=>by have:=kq.bd t ht;simp only[eM];omega⟩).1
section
variable {FT:zzA} {HK:zzH} {E:Env} {h:Qa} {K:Env->Qa->Prop} {d:Option Nat} {r:List AOp} {x y:AO}
theorem k_mkX{n:Nat}(hx:Ab.evS E x=some (.int .i64 (n:Nat)))(hy:Ab.evS E y=some (.int .i64 (n:Nat)))(hb:n<=10000000)(hw:∀ h1,Ext h h1->h1[h.length]?=some (.cells (prs (rwC n (fun _=>⟨false,[]⟩) fun _ => .nilS)) true 2)->Qm FT HK r (Qv d (some (.sc (.slc h.length 0 n (some n)))) E) h1 K) :
  Qm FT HK (⟨d,.mk 2 32 [.bool false,.nilS] x y,none⟩::r) E h K:=by
 refine Q2 (v:=some (.sc (.slc h.length 0 n (some n)))) (h':=h++[.cells (rep [.bool false,.nilS] n) true 2]) rfl rfl ?_ (hw _ ⟨_,rfl⟩ ?_)
 ·simp only[Qo,hx,hy]
  rw[if_pos ⟨by omega,by omega,by unfold XS;omega⟩,Hp]
 ·rw[Gi (Gd _),G1,Ux]
  have:rwC n (fun _=>⟨false,[]⟩) (fun _ => .nilS)=List.replicate n (SV.bool false,SV.nilS):=by
   unfold rwC
   rw[List.map_const',Hq];rfl
  rw[this];rfl
end
structure S31(h0 hb h:Qa)(q12:Nat)(t:SV)(p:Pol):Prop where
 x:Ext hb h
 c:Cel h q12 (.bool false) t
 d:IsD h t (tms p.ts)
def I31c(A B:Nat->Nat->Pol)(i k ka na cb q12:Nat)(sa sb a8 hr:AV)(h0 hb:Qa)(kk:Nat)(E:Env)(h:Qa):Prop:=∃(m:Nat) (t:SV),m<=ka/\kk=ka-m/\S31 h0 hb h q12 t (pS A B i k m) ∧
 E.keep [1,8,9,10,11,12,37,38,39,54,55,58,59,60]=[(1,some sb),(8,some a8),(9,some (.sc (.int .i64 (i:Nat)))),(10,some hr),(11,some (.sc (.int .i64 (k:Nat)))),(12,some (.sc (.ptr q12 0))),(37,some sa),(38,some (.sc (.int .i64 (na:Nat)))),(39,some (.sc (.int .i64 (i:Nat)))),(54,some (.sc (.int .i64 (cb:Nat)))),(55,some (.sc (.int .i64 (k:Nat)))),(58,some hr),(59,some (.sc (.int .i64 (ka:Nat)))),(60,some (.sc (.int .i64 (m:Nat))))]
def R31c(A B:Nat->Nat->Pol)(i k ka na cb q12:Nat)(sa sb a8 hr:AV)(h0 hb:Qa)(ex:Ex)(E:Env)(h:Qa):Prop:=ex = .ex 7/\∃(t:SV) (a58 a59 a60 a61:Option AV),S31 h0 hb h q12 t (pS A B i k ka) ∧
 E=[(1,some sb),(8,some a8),(9,some (.sc (.int .i64 (i:Nat)))),(10,some hr),(11,some (.sc (.int .i64 (k:Nat)))),(12,some (.sc (.ptr q12 0))),(37,some sa),(38,some (.sc (.int .i64 (na:Nat)))),(39,some (.sc (.int .i64 (i:Nat)))),(54,some (.sc (.int .i64 (cb:Nat)))),(55,some (.sc (.int .i64 (k:Nat)))),(58,a58),(59,a59),(60,a60),(61,a61)]
theorem QgI(A B:Nat->Nat->Pol)(hA:∀ a c,EOk (A a c))(hB:∀ a c,EOk (B a c))(i k ka na cb q12:Nat)(hka:ka<=100)(sa a8:AV)(sb sr:SV)(h0 hb:Qa)(hq:hb.length<=q12)(x0:Ext h0 hb)(ra:List Pol)(mb:List (List Pol))(pr:PolRow h0 sr ra)(lra:ra.length=ka)(hra:∀ m,m<ka->ra[m]?=some (A i m))(pb:PolMx h0 sb mb)(lmb:mb.length=ka)(hmb:∀ m,m<ka->∃ r,mb[m]?=some r/\r.length=cb/\r[k]?=some (B m k))(hk:k<cb)(kk:Nat)(E:Env)(h:Qa)(hI:I31c A B i k ka na cb q12 sa (.sc sb) a8 (.sc sr) h0 hb kk E h) :
  wA FT HKt Qmp (E.keep [1,8,9,10,11,12,37,38,39,54,55,58,59,60]) h (Qp (I31c A B i k ka na cb q12 sa (.sc sb) a8 (.sc sr) h0 hb) kk (R31c A B i k ka na cb q12 sa (.sc sb) a8 (.sc sr) h0 hb)):=by
 obtain⟨m,t,hm,rfl,s,hE⟩:=hI
 rw[hE]
 by_cases hlt:m<ka
 ·have xx:=x0.trans s.x
  obtain⟨id,off,cap,ta,es,rda,da⟩:=pr.at (hra m hlt)
  subst es
  obtain⟨rb,hrb,lrb,hrk⟩:=hmb m hlt
  obtain⟨idb,offb,capb,hd,es,rdb,prb⟩:=pb.at hrb
  subst es
  obtain⟨id2,off2,cap2,tb,es,rde,db⟩:=prb.at hrk
  subst es
  rw[lra]at *
  rw[lmb]at *
  rw[lrb]at *
  have eA:=hA i m
  have eB:=hB m k
  rw[eA.nb]at rda
  rw[eB.nb]at rde
  have gS:=qE hA hB (a:=i) (c:=k) m (by omega)
  have fbS:=yy hA hB (a:=i) (c:=k) m
  have kS:=gS.pok (fbS.mono (by simp only[eM];omega) (by simp only[cM];omega))
  have kM:=(Qeg eA eB).1
  have kMp:Pok (Yg (A i m) (B m k)):=⟨fun h=>(by rw[kM.nb]at h;cases h),kM.can,fun t ht=>by have:=kM.bd t ht;simp only[cM];omega,fun t ht=>by have:=kM.bd t ht;simp only[eM];omega⟩
  have k22:=fun H (e:Ext h0 H)=>QeI H ta tb (A i m) (B m k) (da.ext e) (db.ext e) eA.pok eB.pok
  rw[eA.nb,eB.nb]at k22
  have k21:=fun H tm (d1:IsD H t (tms (pS A B i k m).ts)) (d2:IsD H tm (tms (Yg (A i m) (B m k)).ts))=>QoN H t tm (pS A B i k m) (Yg (A i m) (B m k)) d1 d2 kS kMp
  rw[gS.nb]at k21
  have gS1:=qE hA hB (a:=i) (c:=k) (m+1) (by omega)
  have hnb:(qd (pS A B i k m) (Yg (A i m) (B m k))).big=false:=gS1.nb
  have c12:=s.c
  have ds:=s.d
  have xb:=s.x
  repeat' first|apply Qf|apply Qb|apply Qt|apply QL|apply Qn|apply Qe|apply Q7|apply Xm|apply Xn|(apply Qg;refine Qk rfl ?_)|(apply Qd;first|apply Q5|apply Xw|refine XP (by assumption) ?_|refine qf rfl rfl rfl rfl rfl rfl rfl rfl rfl rfl rfl rfl rfl rfl ?_|refine Jr rfl rfl rfl rfl rfl rfl rfl rfl rfl rfl rfl rfl rfl rfl rfl ?_|refine ZC rfl rfl rfl rfl rfl rfl rfl rfl rfl rfl rfl rfl rfl rfl rfl rfl ?_)|(apply Qc;first|(have z:=c14;refine QU rfl c14 ?_)|(refine Qy (esz:=1) rfl rfl (by omega) ?_)|(refine Qy (esz:=2) rfl rfl (by omega) ?_)|refine XH rfl (Qw xx rda) ?_|refine Q1 rfl (Qw xx rdb) ?_|refine XH rfl (Qw xx rde) ?_|(apply Xa;intro h1 e1 c14;have m12:=c12.lt;have xn:=xb.len;replace c12:=c12.ext e1;replace ds:=ds.ext e1;replace xb:=xb.trans e1;replace xx:=xx.trans e1)|(have z:=dm2;refine Xg rfl rfl c12 ?_;intro h5 w5)|(refine Xg rfl rfl c14 ?_;intro h2 w2;replace c14:=w2.cel;replace c12:=w2.keep c12 (by omega);replace ds:=IsD.wrC ds w2;replace xb:=w2.ext xb (by omega);replace xx:=w2.ext xx (by have:=x0.len;omega))|refine QU rfl c12 ?_|(refine Qj rfl (k22 _ xx) ?_;rintro v h3 ⟨e3,tm,rfl,dm⟩;replace c12:=c12.ext e3;replace ds:=ds.ext e3;replace xb:=xb.trans e3)|(refine Qj rfl (k21 _ _ ds dm) ?_;rintro v h4 ⟨e4,tm2,rfl,dm2⟩;replace c12:=c12.ext e4;replace xb:=xb.trans e4)|refine Ql rfl ?_|refine QM rfl rfl (by omega) ?_|refine Qx rfl rfl (by omega) ?_)
  refine Qz (j:=ka-(m+1)) (by omega) ⟨m+1,tm2,by omega,rfl,⟨w5.ext xb (by omega),?_,IsD.wrC dm2 w5⟩,rfl⟩
  have:=w5.cel
  rw[hnb]at this
  exact this
 ·have:m=ka:=by omega
  subst this
  repeat' first|apply Qf|apply Qb|apply QS|apply QQ|apply Qe|(apply Qg;refine Qi rfl ?_)|(apply Qd;refine Jr rfl rfl rfl rfl rfl rfl rfl rfl rfl rfl rfl rfl rfl rfl rfl ?_)|(apply Qc;refine QF rfl rfl (by omega) ?_)
  exact QB ⟨rfl,t,_,_,_,_,s,rfl⟩
theorem RX.cong{lo hi:Nat}{h:Qa}{n m:Nat}{M M':Nat->Nat->Pol}{ids:Nat->Nat}{U:Nat->Nat->SV}(r:RX lo hi h n m M ids U)(e:∀ a c,a<m->c<n->M a c=M' a c):RX lo hi h n m M' ids U :=
 ⟨fun a ha=>by
  obtain⟨x,y,z⟩:=r.b a ha
  rw[VU (R':=M' a) (U':=U a) fun c hc=>⟨e a c ha hc,rfl⟩]at z
  exact⟨x,y,z⟩,fun a c ha hc=>by rw[← e a c ha hc];exact r.d a c ha hc,r.ne⟩
theorem RX.out1{lo hi:Nat}{h:Qa}{n m:Nat}{M:Nat->Nat->Pol}{ids:Nat->Nat}{U:Nat->Nat->SV}(r:RX lo hi h n m M ids U){q:Nat}{b b':Blk}(hb:h[q]?=some b)(h1:b.esz=1)(h2:b'.esz=1):RX lo hi (h.set q b') n m M ids U:=by
 have ki:KI h (h.set q b'):=KI.set hb (h2.trans h1.symm) (.inl (by rw[h1];decide))
 refine⟨fun a ha=>?_,fun a c ha hc=>IsD.ki (r.d a c ha hc) ki,r.ne⟩
 obtain⟨x,y,z⟩:=r.b a ha
 refine⟨x,y,?_⟩
 have hne:q≠ids a:=fun e=>by
  subst e
  rw[hb]at z
  obtain rfl:=Option.some.inj z
  exact absurd h1 (show (2:ESz)≠1 by decide)
 rw[Gk hne];exact z
structure PX(h0 h:Qa)(s:SV)(n i cb:Nat)(M:Nat->Nat->Pol):Prop where
 x:Ext h0 h
 o:∃(oid:Nat) (ids:Nat->Nat) (caps:Nat->Option Nat) (U:Nat->Nat->SV) (hd:Nat->SV),s = .slc oid 0 n (some n)/\h0.length<=oid/\h[oid]?=some (.cells ((List.range n).map hd) true 1)/\(∀ a,a<i->hd a=hdR cb ids caps a)/\RX h0.length h.length h cb i M ids U
theorem PX.ext{h0 h h':Qa}{s:SV}{n i cb:Nat}{M:Nat->Nat->Pol}(p:PX h0 h s n i cb M)(e:Ext h h'):PX h0 h' s n i cb M:=by
 obtain⟨x,oid,ids,caps,U,hd,e1,e2,e3,e4,r⟩:=p
 exact⟨x.trans e,oid,ids,caps,U,hd,e1,e2,e.get _ _ e3,e4,r.ext e e.len⟩
theorem PX.cong{h0 h:Qa}{s:SV}{n i cb:Nat}{M M':Nat->Nat->Pol}(p:PX h0 h s n i cb M)(e:∀ a c,a<i->c<cb->M a c=M' a c):PX h0 h s n i cb M':=by
 obtain⟨x,oid,ids,caps,U,hd,e1,e2,e3,e4,r⟩:=p
 exact⟨x,oid,ids,caps,U,hd,e1,e2,e3,e4,r.cong e⟩
noncomputable def Mk(A B:Nat->Nat->Pol)(ka i k:Nat):Nat->Nat->Pol:=fun a c=>if a<i then pS A B a c ka else if c<k then pS A B i c ka else ⟨false,[]⟩
theorem Qm5{A B:Nat->Nat->Pol}{ka i k:Nat}(a c:Nat)(ha:a<i+1):upd (Mk A B ka i k) i k (pS A B i k ka) a c=Mk A B ka i (k+1) a c:=by
 unfold upd Mk
 by_cases e:a=i
 ·subst e
  rw[if_pos rfl]
  simp only[Nat.lt_irrefl,if_false]
  by_cases e1:c=k
  ·subst e1;rw[if_pos rfl,if_pos (by omega)]
  ·rw[if_neg e1]
   by_cases e2:c<k
   ·rw[if_pos e2,if_pos (by omega)]
   ·rw[if_neg e2,if_neg (by omega)]
 ·rw[if_neg e,if_pos (by omega),if_pos (by omega)]
def I31b(A B:Nat->Nat->Pol)(i ka na cb:Nat)(sa sb hr:AV)(s8:SV)(h0:Qa)(kk:Nat)(E:Env)(h:Qa):Prop:=∃(k:Nat),k<=cb/\kk=cb-k/\PX h0 h s8 na (i+1) cb (Mk A B ka i k) ∧
 E.keep [1,8,9,10,37,38,39,54,55]=[(1,some sb),(8,some (.sc s8)),(9,some (.sc (.int .i64 (i:Nat)))),(10,some hr),(37,some sa),(38,some (.sc (.int .i64 (na:Nat)))),(39,some (.sc (.int .i64 (i:Nat)))),(54,some (.sc (.int .i64 (cb:Nat)))),(55,some (.sc (.int .i64 (k:Nat))))]
def R31b(A B:Nat->Nat->Pol)(i ka na cb:Nat)(sa sb:AV)(s8:SV)(h0:Qa)(ex:Ex)(E:Env)(h:Qa):Prop:=ex = .ex 5/\∃(a9 a10 a54 a55 a56:Option AV),PX h0 h s8 na (i+1) cb (Mk A B ka i cb) ∧
 E=[(1,some sb),(8,some (.sc s8)),(9,a9),(10,a10),(37,some sa),(38,some (.sc (.int .i64 (na:Nat)))),(39,some (.sc (.int .i64 (i:Nat)))),(54,a54),(55,a55),(56,a56)]
theorem QgJ(A B:Nat->Nat->Pol)(hA:∀ a c,EOk (A a c))(hB:∀ a c,EOk (B a c))(i ka na cb:Nat)(hka:ka<=100)(hcb:cb<=100)(hna:na<=100)(hi:i<na)(sa:AV)(sb sr s8:SV)(h0:Qa)(ra:List Pol)(mb:List (List Pol))(pr:PolRow h0 sr ra)(lra:ra.length=ka)(hra:∀ m,m<ka->ra[m]?=some (A i m))(pb:PolMx h0 sb mb)(lmb:mb.length=ka)(hmb:∀ m k,m<ka->k<cb->∃ r,mb[m]?=some r/\r.length=cb/\r[k]?=some (B m k))(kk:Nat)(E:Env)(h:Qa)(hI:I31b A B i ka na cb sa (.sc sb) (.sc sr) s8 h0 kk E h) :
  wA FT HKt Qmq (E.keep [1,8,9,10,37,38,39,54,55]) h (Qp (I31b A B i ka na cb sa (.sc sb) (.sc sr) s8 h0) kk (R31b A B i ka na cb sa (.sc sb) s8 h0)):=by
 obtain⟨k,hk,rfl,px,hE⟩:=hI
 rw[hE]
 by_cases hlt:k<cb
 ·have lr:=pr.len
  rw[lra]at lr
  repeat' first|apply Qf|apply Qb|apply Qt|apply Qn|apply Qe|(apply Qg;refine Qk rfl ?_)|(apply Qd;first|refine XA rfl rfl rfl rfl rfl rfl rfl rfl rfl rfl ?_|refine Yr rfl rfl rfl rfl rfl rfl rfl rfl rfl rfl rfl ?_|refine qf rfl rfl rfl rfl rfl rfl rfl rfl rfl rfl rfl rfl rfl rfl ?_)|(apply Qc;first|(apply Xa;intro h1 e1 c12)|refine Qr rfl lr ?_|refine Ql rfl ?_|refine Qx rfl rfl (by omega) ?_)
  refine QV (I31c A B i k ka na cb h.length sa (.sc sb) (.sc s8) (.sc sr) h0 h) ka (R31c A B i k ka na cb h.length sa (.sc sb) (.sc s8) (.sc sr) h0 h) ⟨0,.nilS,Gm _,rfl,⟨e1,c12,IsD.nil _⟩,rfl⟩ (QgI A B hA hB i k ka na cb h.length hka sa (.sc s8) sb sr h0 h (Gd _) px.x ra mb pr lra hra pb lmb (fun m hm=>hmb m k hm hlt) hlt) ?_
  rintro ex E' h2 ⟨rfl,t,_,_,_,_,s,rfl⟩
  obtain⟨x,oid,ids,caps,U,hd,rfl,o2,o3,o4,r⟩:=px.ext s.x
  have c12:=s.c
  have hrow:=(r.b i (by omega)).2.2
  have rdo:Q3 h2 oid (0+i*1) 1=some [.slc (ids i) 0 cb (caps i)]:=by
   have:hd i=hdR cb ids caps i:=o4 i (by omega)
   refine QaA o3 ?_
   rw[Gh,Gv hi,Gp,this];rfl
  have rs:=r.set (c:=k) (show i<i+1 by omega) s.d
  have hne:oid≠ids i:=fun e=>by
   rw[← e,o3]at hrow
   exact absurd (congrArg Blk.esz (Option.some.inj hrow)) (show (1:ESz)≠2 by decide)
  have gS:=(qE hA hB (a:=i) (c:=k) ka (by omega)).nb
  have e5:fL (pS A B i k ka) t=(SV.bool false,t):=congrArg (fun b=>(SV.bool b,t)) gS
  repeat' first|apply Qb|apply QL|apply QK|apply Qe|apply Q7|apply Xm|apply Xn|(apply Qd;first|apply Q5|apply Xw|refine Q9 rfl rfl rfl rfl rfl rfl rfl rfl rfl ?_)|(apply Qc;first|(refine Qy (esz:=1) rfl rfl (by omega) ?_)|(refine Qy (esz:=2) rfl rfl (by omega) ?_)|refine Q1 rfl rdo ?_|refine QU rfl c12 ?_|(refine k_stX rfl rfl hrow (by rw[QdQ];omega) ?_;intro h3 eh3)|refine Ql rfl ?_|refine QM rfl rfl (by omega) ?_)
  rw[← e5]at eh3
  refine Qz (j:=cb-(k+1)) (by omega) ⟨k+1,by omega,rfl,?_,rfl⟩
  rw[eh3]
  refine⟨x.set (r.b i (by omega)).1 _,oid,ids,caps,upd U i k t,hd,rfl,o2,?_,o4,?_⟩
  ·show (h2.set (ids i) _)[oid]?=_
   rw[Gk (Ne.symm hne)];exact o3
  ·have:=rs.cong fun a c ha hc=>Qm5 a c ha
   rw[G9]
   exact this
 ·have:k=cb:=by omega
  subst this
  repeat' first|apply Qf|apply Qb|apply QS|apply QQ|apply Qe|(apply Qg;refine Qi rfl ?_)|(apply Qd;refine XA rfl rfl rfl rfl rfl rfl rfl rfl rfl rfl ?_)|(apply Qc;refine QF rfl rfl (by omega) ?_)
  exact QB ⟨rfl,_,_,_,_,_,px,rfl⟩
structure MulIn(h0:Qa)(sa sb:SV)(ma mb:List (List Pol))(A B:Nat->Nat->Pol)(na ka cb:Nat):Prop where
 pa:PolMx h0 sa ma
 pb:PolMx h0 sb mb
 la:ma.length=na
 lb:mb.length=ka
 ra:∀ i,i<na->∃ r,ma[i]?=some r/\r.length=ka/\∀ m,m<ka->r[m]?=some (A i m)
 rb:∀ m k,m<ka->k<cb->∃ r,mb[m]?=some r/\r.length=cb/\r[k]?=some (B m k)
 hc:Yq mb=cb
 n:na<=100/\ka<=100/\cb<=100
noncomputable def pM(A B:Nat->Nat->Pol)(ka:Nat):Nat->Nat->Pol:=fun a c=>pS A B a c ka
def I31a(A B:Nat->Nat->Pol)(ka na cb:Nat)(sa sb:AV)(s8:SV)(h0:Qa)(kk:Nat)(E:Env)(h:Qa):Prop:=∃ i,i<=na/\kk=na-i/\PX h0 h s8 na i cb (pM A B ka) ∧
 E.keep [1,8,37,38,39]=[(1,some sb),(8,some (.sc s8)),(37,some sa),(38,some (.sc (.int .i64 (na:Nat)))),(39,some (.sc (.int .i64 (i:Nat))))]
def R31a(A B:Nat->Nat->Pol)(ka na cb:Nat)(s8:SV)(h0:Qa)(ex:Ex)(E:Env)(h:Qa):Prop:=ex = .ex 3/\∃(a1 a37 a38 a39 a40:Option AV),PX h0 h s8 na na cb (pM A B ka) ∧
 E=[(1,a1),(8,some (.sc s8)),(37,a37),(38,a38),(39,a39),(40,a40)]
theorem Qnh{n i:Nat}{hd:Nat->SV}{v:SV}(hi:i<n):Q8 ((List.range n).map hd) (0+i*1) [v]=(List.range n).map fun a=>if a=i then v else hd a:=by
 have h1:Q8 ((List.range n).map hd) (0+i*1) [v]=((List.range n).map hd).set i v:=by
  rw[List.set_eq_take_append_cons_drop,if_pos (by simpa using hi)]
  simp[Q8]
 rw[h1]
 refine Gt fun j=>?_
 rw[GQ,Gh,Gh]
 by_cases h:i=j
 ·subst h;rw[if_pos rfl,if_pos (by simpa using hi),Gv hi];simp
 ·rw[if_neg h]
  rcases GD j n with h2|h2
  ·rw[Gv h2];simp[Ne.symm h]
  ·rw[Gr (by simpa using h2)];rfl
theorem QgK{ma mb:List (List Pol)}(A B:Nat->Nat->Pol)(hA:∀ a c,EOk (A a c))(hB:∀ a c,EOk (B a c))(ka na cb:Nat)(sa sb s8:SV)(h0:Qa)(mi:MulIn h0 sa sb ma mb A B na ka cb)(kk:Nat)(E:Env)(h:Qa)(hI:I31a A B ka na cb (.sc sa) (.sc sb) s8 h0 kk E h) :
  wA FT HKt Qmr (E.keep [1,8,37,38,39]) h (Qp (I31a A B ka na cb (.sc sa) (.sc sb) s8 h0) kk (R31a A B ka na cb s8 h0)):=by
 obtain⟨i,hi,rfl,px,hE⟩:=hI
 rw[hE]
 obtain⟨hn1,hn2,hn3⟩:=mi.n
 by_cases hlt:i<na
 ·obtain⟨ra,hra,lra,hre⟩:=mi.ra i hlt
  obtain⟨ida,offa,capa,hd0,es,rda,pra⟩:=mi.pa.at hra
  rw[mi.la]at es
  obtain⟨x,oid,ids,caps,U,hd,rfl,o2,o3,o4,r⟩:=px
  have rda:=Qw x rda
  have k37:=fun H (e:Ext h0 H)=>Vz H mb sb (by rw[mi.lb];omega) (mi.pb.ext e)
  rw[mi.hc]at k37
  have pb:=mi.pb
  generalize hsa:sa=SA at *
  subst es
  have wO:∀ {H:Qa},Ext h H->Xx H oid (0+i*1) [.slc h.length 0 cb (some cb)]=some (H.set oid (.cells ((List.range na).map fun a=>if a=i then .slc h.length 0 cb (some cb) else hd a) true 1)):=fun {H} e=>by
   unfold Xx
   rw[e.get _ _ o3]
   simp only
   rw[if_pos (by simp;omega),Qnh hlt]
  have rdo:∀ {H:Qa},Ext h H->Q3 (H.set oid (.cells ((List.range na).map fun a=>if a=i then .slc h.length 0 cb (some cb) else hd a) true 1)) oid (0+i*1) 1=some [.slc h.length 0 cb (some cb)]:=fun {H} e=>by
   refine QaA (GA (Gb.1 (e.get _ _ o3)).1) ?_
   rw[Gh,Gv hlt,Gp,if_pos rfl]
  repeat' first|apply Qf|apply Qb|apply Qt|apply Qn|apply Qe|(apply Qg;refine Qk rfl ?_)|(apply Qd;first|refine QE rfl rfl rfl rfl rfl rfl ?_|refine Q4 rfl rfl rfl rfl rfl rfl rfl ?_|refine Q9 rfl rfl rfl rfl rfl rfl rfl rfl rfl ?_)|(apply Qc;first|(refine Qy (esz:=1) rfl rfl (by omega) ?_)|refine Q1 rfl rda ?_|(refine Qj rfl (k37 _ x) ?_;rintro v h1 ⟨rfl,eh1⟩;rw[eh1];clear eh1)|(refine k_mkX rfl rfl (by omega) ?_;intro h2 e2 hrow)|refine Jk rfl rfl (wO e2) ?_|refine Q1 rfl (rdo e2) ?_|refine Qr rfl rfl ?_|refine Ql rfl ?_|refine Qx rfl rfl (by omega) ?_)
  have r2:=(r.cong (M':=Mk A B ka i 0) fun a c ha hc=>by unfold Mk pM;rw[if_pos ha]).push e2 (id:=h.length) (V:=fun _ => .nilS) ⟨Gd _,(Gb.1 hrow).1⟩ x.len (by
   rw[VU (R':=fun _=>⟨false,[]⟩) (U':=fun _ => .nilS) fun c hc=>⟨by unfold Mk;rw[if_neg (Nat.lt_irrefl _),if_neg (by omega)],rfl⟩]
   exact hrow) (fun c hc=>by
   have:Mk A B ka i 0 i c=⟨false,[]⟩:=by unfold Mk;rw[if_neg (Nat.lt_irrefl _),if_neg (by omega)]
   rw[this];exact IsD.nil _)
  have r3:=r2.out1 (e2.get _ _ o3) rfl (b' := .cells ((List.range na).map fun a=>if a=i then .slc h.length 0 cb (some cb) else hd a) true 1) rfl
  have px2:PX h0 (h2.set oid (.cells ((List.range na).map fun a=>if a=i then .slc h.length 0 cb (some cb) else hd a) true 1)) (.slc oid 0 na (some na)) na (i+1) cb (Mk A B ka i 0):=by
   refine⟨(x.trans e2).set o2 _,oid,_,fun a=>if a=i then some cb else caps a,_,_,rfl,o2,GA (Gb.1 (e2.get _ _ o3)).1,fun a ha=>?_,by rw[G9];exact r3⟩
   by_cases e:a=i
   ·simp only[if_pos e,hdR]
   ·simp only[if_neg e,hdR]
    exact o4 a (by omega)
  rw[← hsa]at *
  refine QV (I31b A B i ka na cb (.sc sa) (.sc sb) (.sc hd0) (.slc oid 0 na (some na)) h0) cb (R31b A B i ka na cb (.sc sa) (.sc sb) (.slc oid 0 na (some na)) h0) ⟨0,Gm _,rfl,px2,rfl⟩ (QgJ A B hA hB i ka na cb hn2 hn3 hn1 hlt (.sc sa) sb hd0 _ h0 ra mb pra lra hre pb mi.lb mi.rb) ?_
  rintro ex E' h4 ⟨rfl,_,_,_,_,_,px4,rfl⟩
  repeat' first|apply Qb|apply QL|apply QK|apply Qe|(apply Qd;refine QO rfl rfl rfl rfl rfl ?_)|(apply Qc;first|refine Ql rfl ?_|refine QM rfl rfl (by omega) ?_)
  exact Qz (j:=na-(i+1)) (by omega) ⟨i+1,by omega,rfl,px4.cong fun a c ha hc=>by
   unfold Mk pM
   by_cases e:a<i
   ·rw[if_pos e]
   ·obtain rfl:a=i:=by omega
    rw[if_neg e,if_pos hc],rfl⟩
 ·have:i=na:=by omega
  subst this
  repeat' first|apply Qf|apply Qb|apply QS|apply QQ|apply Qe|(apply Qg;refine Qi rfl ?_)|(apply Qd;refine QE rfl rfl rfl rfl rfl rfl ?_)|(apply Qc;refine QF rfl rfl (by omega) ?_)
  exact QB ⟨rfl,_,_,_,_,_,px,rfl⟩
def Qlv(sa sb:SV)(ma mb:List (List Pol))(h0:Qa)(kk:Nat)(E:Env)(h:Qa):Prop:=∃ i:Nat,i<=2/\kk=2-i/\h=h0/\(1<=i->Y2 ma)/\(2<=i->Y2 mb) ∧
 E.keep [0,1,17,18]=[(0,some (.sc sa)),(1,some (.sc sb)),(17,some (.agg [sa,sb])),(18,some (.sc (.int .i64 (i:Nat))))]
def R31z(sa sb:SV)(ma mb:List (List Pol))(h0:Qa)(ex:Ex)(E:Env)(h:Qa):Prop:=h=h0 ∧
 ((ex = .ex 0/\Y2 ma/\Y2 mb/\∃ a17 a18 a19:Option AV,E=[(0,some (.sc sa)),(1,some (.sc sb)),(17,a17),(18,a18),(19,a19)])∨(ex = .rt/\¬(Y2 ma/\Y2 mb)/\E=[(4,some (.sc .nilS)),(5,some (.sc (.int .i64 3)))]))
theorem QbL(sa sb:SV)(ma mb:List (List Pol))(h0:Qa)(pa:PolMx h0 sa ma)(pb:PolMx h0 sb mb)(la:ma.length<=64/\Yq ma<=64/\∀ r∈ma,r.length<=1000)(lb:mb.length<=64/\Yq mb<=64/\∀ r∈mb,r.length<=1000)(kk:Nat)(E:Env)(h:Qa)(hI:Qlv sa sb ma mb h0 kk E h) :
  wA FT HKt Qms (E.keep [0,1,17,18]) h (Qp (Qlv sa sb ma mb h0) kk (R31z sa sb ma mb h0)):=by
 obtain⟨i,hi,rfl,eh,f1,f2,hE⟩:=hI
 rw[hE,eh]
 have k35a:=Qdm h0 ma sa (by omega) pa fun r hr=>by have:=la.2.2 r hr;omega
 have k36a:=Qdl h0 ma sa la.1 la.2.1 pa
 have k35b:=Qdm h0 mb sb (by omega) pb fun r hr=>by have:=lb.2.2 r hr;omega
 have k36b:=Qdl h0 mb sb lb.1 lb.2.1 pb
 have h3:i=0∨i=1∨i=2:=by omega
 rcases h3 with rfl|rfl|rfl
 ·by_cases hf:Y2 ma
  ·simp only[decide_eq_true hf]at k35a
   repeat' first|apply Qf|apply Qb|apply Qt|apply QL|apply Qn|apply Qe|(apply Qg;first|refine Qk rfl ?_|refine Qi rfl ?_)|(apply Qd;first|refine QG rfl rfl rfl rfl ?_|refine QO rfl rfl rfl rfl rfl ?_|refine QE rfl rfl rfl rfl rfl rfl ?_)|(apply Qc;first|(refine Qj rfl k35a ?_;rintro v h1 ⟨rfl,e1⟩;rw[e1];clear e1)|(refine Qj rfl k36a ?_;rintro v h1 ⟨rfl,e1⟩;rw[e1];clear e1)|refine Ql rfl ?_|refine XC rfl ?_|refine QM rfl rfl (by omega) ?_|refine Qx rfl rfl (by omega) ?_|refine Xk rfl rfl ?_)
   exact Qz (j:=1) (by omega) ⟨1,by omega,rfl,rfl,fun _=>hf,fun h=>by omega,rfl⟩
  ·simp only[decide_eq_false hf]at k35a
   repeat' first|apply Qf|apply Qb|apply QC|apply Qt|apply Xi|apply Qn|apply Qs|apply Qe|(apply Qg;refine Qk rfl ?_)|(apply Qd;first|refine QA rfl rfl ?_|refine QO rfl rfl rfl rfl rfl ?_|refine QE rfl rfl rfl rfl rfl rfl ?_)|(apply Qc;first|(refine Qj rfl k35a ?_;rintro v h1 ⟨rfl,e1⟩;rw[e1];clear e1)|refine Ql rfl ?_|refine X1 rfl ?_|refine Qx rfl rfl (by omega) ?_|refine Xk rfl rfl ?_)
   exact Xt ⟨rfl,.inr ⟨rfl,fun h=>hf h.1,rfl⟩⟩
 ·by_cases hf:Y2 mb
  ·simp only[decide_eq_true hf]at k35b
   repeat' first|apply Qf|apply Qb|apply Qt|apply QL|apply Qn|apply Qe|(apply Qg;first|refine Qk rfl ?_|refine Qi rfl ?_)|(apply Qd;first|refine QG rfl rfl rfl rfl ?_|refine QO rfl rfl rfl rfl rfl ?_|refine QE rfl rfl rfl rfl rfl rfl ?_)|(apply Qc;first|(refine Qj rfl k35b ?_;rintro v h1 ⟨rfl,e1⟩;rw[e1];clear e1)|(refine Qj rfl k36b ?_;rintro v h1 ⟨rfl,e1⟩;rw[e1];clear e1)|refine Ql rfl ?_|refine XC rfl ?_|refine QM rfl rfl (by omega) ?_|refine Qx rfl rfl (by omega) ?_|refine Xk rfl rfl ?_)
   exact Qz (j:=0) (by omega) ⟨2,by omega,rfl,rfl,fun _=>f1 (by omega),fun _=>hf,rfl⟩
  ·simp only[decide_eq_false hf]at k35b
   repeat' first|apply Qf|apply Qb|apply QC|apply Qt|apply Xi|apply Qn|apply Qs|apply Qe|(apply Qg;refine Qk rfl ?_)|(apply Qd;first|refine QA rfl rfl ?_|refine QO rfl rfl rfl rfl rfl ?_|refine QE rfl rfl rfl rfl rfl rfl ?_)|(apply Qc;first|(refine Qj rfl k35b ?_;rintro v h1 ⟨rfl,e1⟩;rw[e1];clear e1)|refine Ql rfl ?_|refine X1 rfl ?_|refine Qx rfl rfl (by omega) ?_|refine Xk rfl rfl ?_)
   exact Xt ⟨rfl,.inr ⟨rfl,fun h=>hf h.2,rfl⟩⟩
 ·repeat' first|apply Qf|apply Qb|apply QS|apply QQ|apply Qe|(apply Qg;refine Qi rfl ?_)|(apply Qd;refine QO rfl rfl rfl rfl rfl ?_)|(apply Qc;refine QF rfl rfl (by omega) ?_)
  exact QB ⟨rfl,.inl ⟨rfl,f1 (by omega),f2 (by omega),_,_,_,rfl⟩⟩
theorem QoK{ma mb:List (List Pol)}(A B:Nat->Nat->Pol)(hA:∀ a c,EOk (A a c))(hB:∀ a c,EOk (B a c))(ka na cb:Nat)(sa sb:SV)(h0:Qa)(mi:MulIn h0 sa sb ma mb A B na ka cb)(la:ma.length<=64/\Yq ma<=64/\∀ r∈ma,r.length<=1000)(lb:mb.length<=64/\Yq mb<=64/\∀ r∈mb,r.length<=1000)(fa:Y2 ma)(fb:Y2 mb)(hc:Yq ma=mb.length) :
  ∃ r h',Cal FT HKt 31 [.sc sa,.sc sb] h0 r h'/\(Ext h0 h'/\∃ s,r = .tup [.sc s,.sc (.int .i64 0)]/\PX h0 h' s na na cb (pM A B ka)):=by
 refine Cal.of (F:=a31) rfl rfl rfl ?_
 have lena:=mi.pa.len
 have lenb:=mi.pb.len
 have k37:=Vz h0 ma sa (by omega) mi.pa
 rw[hc]at k37
 have hna:=mi.n
 rw[mi.la]at lena
 repeat' first|apply Qf|apply Qb|apply Qt|apply Qe|(apply Qd;first|refine QA rfl rfl ?_|refine QG rfl rfl rfl rfl ?_)|(apply Qc;first|refine Ql rfl ?_|refine Xk rfl rfl ?_)
 refine QV (Qlv sa sb ma mb h0) 2 (R31z sa sb ma mb h0) ⟨0,by omega,rfl,rfl,fun h=>by omega,fun h=>by omega,rfl⟩ (QbL sa sb ma mb h0 mi.pa mi.pb la lb) ?_
 rintro ex E' h1 ⟨eh1,⟨rfl,_,_,_,_,_,rfl⟩|⟨rfl,hn,rfl⟩⟩
 case inr=>exact absurd ⟨fa,fb⟩ hn
 rw[eh1]
 clear eh1
 repeat' first|apply Qf|apply Qb|apply Qt|apply QK|apply Qn|apply Qe|(apply Qg;refine Qi rfl ?_)|(apply Qd;first|refine Qu rfl rfl rfl ?_|refine QO rfl rfl rfl rfl rfl ?_)|(apply Qc;first|(refine Qj rfl k37 ?_;rintro v h1 ⟨rfl,e1⟩;rw[e1];clear e1)|refine Qr rfl lenb ?_|refine Qr rfl lena ?_|refine XJ rfl rfl rfl ?_|(refine Qhy rfl rfl (by omega) ?_;intro h2 e2 ho)|refine Ql rfl ?_)
 have px0:PX h0 h2 (.slc h0.length 0 na (some na)) na 0 cb (pM A B ka):=⟨e2,h0.length,fun _=>0,fun _=>none,fun _ _ => .nilS,fun _ => .nilS,rfl,Gd _,by rw[List.map_const',Hq];exact ho,fun a ha=>by omega,⟨fun a ha=>by omega,fun a c ha=>by omega,fun a b ha=>by omega⟩⟩
 refine QV (I31a A B ka na cb (.sc sa) (.sc sb) (.slc h0.length 0 na (some na)) h0) na (R31a A B ka na cb (.slc h0.length 0 na (some na)) h0) ⟨0,Gm _,rfl,px0,rfl⟩ (QgK A B hA hB ka na cb sa sb _ h0 mi) ?_
 rintro ex E' h4 ⟨rfl,_,_,_,_,_,px4,rfl⟩
 repeat' first|apply Qf|apply Qb|apply QK|apply Qs|apply Qe|(apply Qd;refine QA rfl rfl ?_)|(apply Qc;refine Ql rfl ?_)
 exact⟨.inr rfl,px4.x,_,rfl,px4⟩
theorem Qk2{ma mb:List (List Pol)}(sa sb:SV)(h0:Qa)(pa:PolMx h0 sa ma)(pb:PolMx h0 sb mb)(la:ma.length<=64/\Yq ma<=64/\∀ r∈ma,r.length<=1000)(lb:mb.length<=64/\Yq mb<=64/\∀ r∈mb,r.length<=1000)(hx:¬(Y2 ma/\Y2 mb/\Yq ma=mb.length)) :
  ∃ r h',Cal FT HKt 31 [.sc sa,.sc sb] h0 r h'/\(Ext h0 h'/\r = .tup [.sc .nilS,.sc (.int .i64 3)]):=by
 refine Cal.of (F:=a31) rfl rfl rfl ?_
 have lenb:=pb.len
 have k37:=Vz h0 ma sa (by omega) pa
 repeat' first|apply Qf|apply Qb|apply Qt|apply Qe|(apply Qd;first|refine QA rfl rfl ?_|refine QG rfl rfl rfl rfl ?_)|(apply Qc;first|refine Ql rfl ?_|refine Xk rfl rfl ?_)
 refine QV (Qlv sa sb ma mb h0) 2 (R31z sa sb ma mb h0) ⟨0,by omega,rfl,rfl,fun h=>by omega,fun h=>by omega,rfl⟩ (QbL sa sb ma mb h0 pa pb la lb) ?_
 rintro ex E' h1 ⟨eh1,⟨rfl,g1,g2,_,_,_,rfl⟩|⟨rfl,hn,rfl⟩⟩
 case inr =>
  repeat' first|apply QC|apply Xi
  exact⟨.inr rfl,by rw[eh1];exact Ext.refl _,rfl⟩
 have hne:Yq ma≠mb.length:=fun e=>hx ⟨g1,g2,e⟩
 rw[eh1]
 clear eh1
 generalize Yq ma=ca at *
 repeat' first|apply Qf|apply Qb|apply QC|apply QK|apply Qs|apply Qe|(apply Qg;refine Qk rfl ?_)|(apply Qd;first|refine QA rfl rfl ?_|refine Qu rfl rfl rfl ?_)|(apply Qc;first|(refine Qj rfl k37 ?_;rintro v h1 ⟨rfl,e1⟩;rw[e1];clear e1)|refine Qr rfl lenb ?_|refine Ya rfl rfl (by omega) ?_|refine Ql rfl ?_)
 exact⟨.inr rfl,Ext.refl _,rfl⟩
def VP(n c:Nat)(M:Nat->Nat->Pol):List (List Pol):=(List.range n).map fun a=>(List.range c).map (M a)
theorem PX.pol{h0 h:Qa}{s:SV}{n c:Nat}{M:Nat->Nat->Pol}(p:PX h0 h s n n c M):PolMx h s (VP n c M):=by
 obtain⟨x,oid,ids,caps,U,hd,rfl,o2,o3,o4,r⟩:=p
 refine⟨(List.range n).map hd,by simp[VP],?_,fun i t q ht hq=>?_⟩
 ·refine .inr ⟨oid,0,some n,_,by simp,o3,rfl,fun h0=>?_,fun _=>⟨_,_,rfl,?_⟩⟩
  ·exact Gw h0
  ·unfold cut
   simp only[Gj,Hq]
   rw[show ESz.n 1=1 from rfl,if_pos (by omega),Hi,GG (by simp)]
 ·have hi:i<n:=by have:=(Gb.1 ht).1;simpa using this
  unfold VP at hq
  rw[Gh,Gv hi]at ht hq
  obtain rfl:=Option.some.inj ht
  obtain rfl:=Option.some.inj hq
  rw[o4 i hi]
  have hb:=(r.b i hi).2.2
  have hl:(rwC c (M i) (U i)).length=c:=QdQ
  have e:List.zipWith (fun (p:Pol) t=>(SV.bool p.big,t)) ((List.range c).map (M i)) ((List.range c).map (U i))=rwC c (M i) (U i):=by
   unfold rwC
   rw[List.zipWith_map_left,List.zipWith_map_right,List.zipWith_self];rfl
  refine⟨(List.range c).map (U i),by simp,?_,fun k p t hp ht=>?_⟩
  ·rw[e]
   have hpl:=Zl (rwC c (M i) (U i))
   refine .inr ⟨ids i,0,caps i,_,by rw[hl];rfl,hb,rfl,fun h0=>?_,fun _=>⟨_,_,rfl,?_⟩⟩
   ·have:rwC c (M i) (U i)=[]:=Gw h0
    rw[this];rfl
   ·unfold cut
    rw[show ESz.n 2=2 from rfl,if_pos (by omega),Hi,GG (by omega)]
  ·have hc:k<c:=by have:=(Gb.1 hp).1;simpa using this
   rw[Gh,Gv hc]at hp ht
   obtain rfl:=Option.some.inj hp
   obtain rfl:=Option.some.inj ht
   exact r.d i k hi hc
noncomputable def QcS(A B:Nat->Nat->Pol)(ka cb i:Nat):List Pol:=(List.range cb).map fun c=>rS A B i c ka
def I34b(A B:Nat->Nat->Pol)(i ka cb:Nat)(sa sb a5:AV)(hr:Qa)(kk:Nat)(E:Env)(h:Qa):Prop:=∃(k:Nat) (s7:SV),k<=cb/\kk=cb-k/\SRow fR hr h s7 ((List.range k).map fun c=>rS A B i c ka) ∧
 E.keep [0,1,5,6,7,8]=[(0,some sa),(1,some sb),(5,some a5),(6,some (.sc (.int .i64 (i:Nat)))),(7,some (.sc s7)),(8,some (.sc (.int .i64 (k:Nat))))]
def R34b(A B:Nat->Nat->Pol)(i ka cb:Nat)(sa sb a5:AV)(hr:Qa)(ex:Ex)(E:Env)(h:Qa):Prop:=ex = .ex 2/\∃(s7:SV) (a8 a27:Option AV),SRow fR hr h s7 (QcS A B ka cb i) ∧
 E=[(0,some sa),(1,some sb),(5,some a5),(6,some (.sc (.int .i64 (i:Nat)))),(7,some (.sc s7)),(8,a8),(27,a27)]
theorem QgE{ma mb:List (List Pol)}(A B:Nat->Nat->Pol)(hA:∀ a c,EOk (A a c))(hB:∀ a c,EOk (B a c))(i na ka cb:Nat)(sa sb:SV)(a5:AV)(h0 hr:Qa)(x0:Ext h0 hr)(mi:MulInR h0 sa sb ma mb A B na ka cb)(hi:i<na)(kk:Nat)(E:Env)(h:Qa)(hI:I34b A B i ka cb (.sc sa) (.sc sb) a5 hr kk E h) :
  wA FT HKt Qmk (E.keep [0,1,5,6,7,8]) h (Qp (I34b A B i ka cb (.sc sa) (.sc sb) a5 hr) kk (R34b A B i ka cb (.sc sa) (.sc sb) a5 hr)):=by
 obtain⟨k,s7,hk,rfl,sr,hE⟩:=hI
 rw[hE]
 obtain⟨hn1,hn2,hn3⟩:=mi.n
 have lb:=mi.pb.len
 rw[mi.lb]at lb
 have xx:=x0.trans sr.x
 by_cases hka:ka=0
 ·have hcb:=mi.hc hka
  obtain rfl:k=cb:=by omega
  repeat' first|apply Qf|apply Qb|apply QS|apply QQ|apply Qe|(apply Qg;refine Qi rfl ?_)|(apply Qd;refine Q4 rfl rfl rfl rfl rfl rfl rfl ?_)|(apply Qc;first|refine Qr rfl lb ?_|refine XD rfl rfl (by omega) ?_|refine Xd rfl ?_|refine Ql rfl ?_|refine QJ rfl rfl ?_)
  exact QB ⟨rfl,s7,_,_,sr,rfl⟩
 obtain⟨rb,hrb,lrb,-⟩:=mi.rb 0 (by omega)
 obtain⟨idb,offb,capb,hb0,esb,rdb,prb⟩:=mi.pb.at hrb
 have lr:=prb.len
 rw[lrb]at lr
 rw[mi.lb]at esb
 have rdb:=Qw xx rdb
 by_cases hlt:k<cb
 ·generalize hsb:sb=SB at *
  subst esb
  repeat' first|apply Qf|apply Qb|apply Qt|apply Qn|apply Qe|(apply Qg;refine Qk rfl ?_)|(apply Qd;first|refine Q4 rfl rfl rfl rfl rfl rfl rfl ?_|refine Xh rfl rfl rfl rfl rfl rfl rfl rfl ?_)|(apply Qc;first|(refine Qy (esz:=1) rfl rfl (by omega) ?_)|refine Q1 rfl rdb ?_|refine Qr rfl lb ?_|refine Qr rfl lr ?_|refine XK rfl rfl (by omega) ?_|(apply Xa;intro h1 e1 c9)|(refine Xg rfl rfl c9 ?_;intro h2 w2;replace c9:=w2.cel;have x2:=w2.ext e1 (Gd _))|refine QP rfl ?_|refine Ql rfl ?_|refine QR rfl rfl ?_|refine Qx rfl rfl (by omega) ?_|refine Xk rfl rfl ?_)
  rw[← hsb]at *
  refine QV (I34c A B i k ka h.length (.sc sa) (.sc sb) a5 (.sc s7) h) ka (R34c A B i k ka h.length (.sc sa) (.sc sb) a5 (.sc s7) h) ⟨0,.nilS,Gm _,rfl,⟨x2,c9,.inl ⟨rfl,rfl⟩⟩,rfl⟩ (QgD A B hA hB i k na ka cb h.length sa sb a5 (.sc s7) h0 h (Gd _) xx mi hi hlt) ?_
  rintro ex E' h3 ⟨rfl,t,_,_,s,rfl⟩
  have c9:=s.c
  obtain⟨ss,o1,o2,o3⟩:=sr.o
  have gS:=(QbP hA hB (a:=i) (c:=k) ka (by omega)).nb
  have lz:(List.zipWith fR ((List.range k).map fun c=>rS A B i c ka) ss).length<=1000:=by rw[G7,o1,Hw,Gj,Hq];omega
  repeat' first|apply Qb|apply QL|apply QK|apply Qe|(apply Qd;refine QE rfl rfl rfl rfl rfl rfl ?_)|(apply Qc;first|refine QU rfl c9 ?_|(refine qU rfl ?_;intro h4 e4 s4)|(refine JG ((sr.x.trans s.x).trans e4) ((o2.ext s.x).ext e4) rfl rfl s4 (by unfold XS;omega) ?_;intro s5 h5 o5 x5 fr5 l5)|refine Ql rfl ?_|refine QM rfl rfl (by omega) ?_)
  have sr5:SRow fR hr h5 s5 ((List.range (k+1)).map fun c=>rS A B i c ka):=by
   rw[List.range_succ,GW]
   refine SRow.push o1 o2 o3 s.x s.o e4 ?_ x5 fr5
   show OwnD _ _ _ (_++[(t,SV.bool (rS A B i k ka).big)])
   rw[gS];exact o5
  exact Qz (j:=cb-(k+1)) (by omega) ⟨k+1,s5,by omega,rfl,sr5,rfl⟩
 ·have:k=cb:=by omega
  subst this
  subst esb
  repeat' first|apply Qf|apply Qb|apply QS|apply QQ|apply Qe|(apply Qg;refine Qi rfl ?_)|(apply Qd;refine Q4 rfl rfl rfl rfl rfl rfl rfl ?_)|(apply Qc;first|(refine Qy (esz:=1) rfl rfl (by omega) ?_)|refine Q1 rfl rdb ?_|refine Qr rfl lb ?_|refine Qr rfl lr ?_|refine XK rfl rfl (by omega) ?_|refine QP rfl ?_|refine Ql rfl ?_|refine QR rfl rfl ?_|refine QF rfl rfl (by omega) ?_)
  exact QB ⟨rfl,s7,_,_,sr,rfl⟩
def I34a(A B:Nat->Nat->Pol)(na ka cb:Nat)(sa sb:AV)(h0:Qa)(kk:Nat)(E:Env)(h:Qa):Prop:=∃(i:Nat) (s5:SV),i<=na/\kk=na-i/\SMx fR h0 h s5 ((List.range i).map (QcS A B ka cb)) ∧
 E.keep [0,1,5,6]=[(0,some sa),(1,some sb),(5,some (.sc s5)),(6,some (.sc (.int .i64 (i:Nat))))]
def R34a(A B:Nat->Nat->Pol)(na ka cb:Nat)(h0:Qa)(ex:Ex)(E:Env)(h:Qa):Prop:=ex = .ex 0/\∃(s5:SV) (a0 a1 a6 a14:Option AV),SMx fR h0 h s5 ((List.range na).map (QcS A B ka cb)) ∧
 E=[(0,a0),(1,a1),(5,some (.sc s5)),(6,a6),(14,a14)]
theorem QgF{ma mb:List (List Pol)}(A B:Nat->Nat->Pol)(hA:∀ a c,EOk (A a c))(hB:∀ a c,EOk (B a c))(na ka cb:Nat)(sa sb:SV)(h0:Qa)(mi:MulInR h0 sa sb ma mb A B na ka cb)(kk:Nat)(E:Env)(h:Qa)(hI:I34a A B na ka cb (.sc sa) (.sc sb) h0 kk E h) :
  wA FT HKt Qml (E.keep [0,1,5,6]) h (Qp (I34a A B na ka cb (.sc sa) (.sc sb) h0) kk (R34a A B na ka cb h0)):=by
 obtain⟨i,s5,hi,rfl,sm,hE⟩:=hI
 rw[hE]
 have la:=mi.pa.len
 rw[mi.la]at la
 have hn:=mi.n
 by_cases hlt:i<na
 ·repeat' first|apply Qf|apply Qb|apply Qt|apply Qn|apply Qe|(apply Qg;refine Qk rfl ?_)|(apply Qd;first|refine QO rfl rfl rfl rfl rfl ?_|refine QE rfl rfl rfl rfl rfl rfl ?_)|(apply Qc;first|refine Qr rfl la ?_|refine Ql rfl ?_|refine Qx rfl rfl (by omega) ?_)
  refine QV (I34b A B i ka cb (.sc sa) (.sc sb) (.sc s5) h) cb (R34b A B i ka cb (.sc sa) (.sc sb) (.sc s5) h) ⟨0,.nilS,Gm _,rfl,SRow.nil (Ext.refl _) (.inl ⟨rfl,rfl⟩),rfl⟩ (QgE A B hA hB i na ka cb sa sb (.sc s5) h0 h sm.x mi hlt) ?_
  rintro ex E' h2 ⟨rfl,s7,_,_,sr,rfl⟩
  have sm2:=sm.ext sr.x
  obtain⟨vs,o1,o2,o3⟩:=sm2.o
  have lz:vs.length<=1000:=by rw[o1,Gj,Hq];omega
  repeat' first|apply Qb|apply QL|apply QK|apply Qe|(apply Qd;refine QG rfl rfl rfl rfl ?_)|(apply Qc;first|(refine Qa4 rfl ?_;intro h3 e3 s3)|(refine Qag (ws:=[s7]) (sm2.x.trans e3) (o2.ext e3) rfl rfl s3 (by simp only[Gu,GC];unfold XS;omega) ?_;intro s6 h5 o5 x5 l5 fr5)|refine Ql rfl ?_|refine QM rfl rfl (by omega) ?_)
  have sm5:SMx fR h0 h5 s6 ((List.range (i+1)).map (QcS A B ka cb)):=by
   rw[List.range_succ,GW]
   exact SMx.push o1 (o2.ext e3) (fun i t r x y=>(o3 i t r x y).ext e3) (sr.row.ext e3) o5 x5 fr5
  exact Qz (j:=na-(i+1)) (by omega) ⟨i+1,s6,by omega,rfl,sm5,rfl⟩
 ·have:i=na:=by omega
  subst this
  repeat' first|apply Qf|apply Qb|apply QS|apply QQ|apply Qe|(apply Qg;refine Qi rfl ?_)|(apply Qd;refine QO rfl rfl rfl rfl rfl ?_)|(apply Qc;first|refine Qr rfl la ?_|refine Ql rfl ?_|refine QF rfl rfl (by omega) ?_)
  exact QB ⟨rfl,s5,_,_,_,_,sm,rfl⟩
theorem QoI{ma mb:List (List Pol)}(A B:Nat->Nat->Pol)(hA:∀ a c,EOk (A a c))(hB:∀ a c,EOk (B a c))(na ka cb:Nat)(sa sb:SV)(h0:Qa)(mi:MulInR h0 sa sb ma mb A B na ka cb) :
  ∃ r h',Cal FT HKt 34 [.sc sa,.sc sb] h0 r h'/\(Ext h0 h'/\∃ s,r = .sc s/\MxF fR h' s ((List.range na).map (QcS A B ka cb))):=by
 refine Cal.of (F:=a34) rfl rfl rfl ?_
 repeat' first|apply Qf|apply Qb|apply Qt|apply Qe|(apply Qd;first|refine QA rfl rfl ?_|refine Qu rfl rfl rfl ?_|refine QG rfl rfl rfl rfl ?_)|(apply Qc;refine Ql rfl ?_)
 refine QV (I34a A B na ka cb (.sc sa) (.sc sb) h0) na (R34a A B na ka cb h0) ⟨0,.nilS,Gm _,rfl,⟨Ext.refl _,[],rfl,.inl ⟨rfl,rfl⟩,fun i t r a=>by simp at a⟩,rfl⟩ (QgF A B hA hB na ka cb sa sb h0 mi) ?_
 rintro ex E' h2 ⟨rfl,s5,_,_,_,_,sm,rfl⟩
 repeat' first|apply Qf|apply Qb|apply QK|apply Qs|apply Qe|(apply Qd;refine Qq rfl ?_)|(apply Qc;refine Ql rfl ?_)
 exact⟨.inr rfl,sm.x,s5,rfl,sm.mx⟩
end Go.Proofs.YtofknpknogfijaaGreatDoor
namespace Go.Proofs.YtofknpknogfijaaGreatDoor
open Go.Ab
set_option linter.all false
set_option maxHeartbeats 8000000
set_option maxRecDepth 20000
variable [HB]
abbrev mxP(l:List (List Ent)):List (List Pol):=l.map fun r=>r.map PE
theorem Qlz{l:List (List Ent)}(h:smM 3 l):smM 4 l:=⟨by have:=h.1;omega,fun r hr=>⟨by have:=(h.2 r hr).1;omega,(h.2 r hr).2⟩⟩
theorem ZF{l:List (List Ent)}:(mxP l).length=l.length:=Gj _
theorem Jh{l:List (List Ent)}:Yq (mxP l)=Yz l:=by
 rcases l with _|⟨r,rs⟩
 ·rfl
 ·show (r.map PE).length=r.length;simp
theorem QcB{l:List (List Ent)}(h:smM 3 l):Yz l<=3:=by
 rcases l with _|⟨r,rs⟩
 ·exact Gm _
 ·exact(h.2 r (.head _)).1
theorem mxP_form{l:List (List Ent)}:Y2 (mxP l)↔ZP l:=by
 unfold Y2 ZP
 rw[Jh]
 constructor
 ·intro h r hr
  have:=h (r.map PE) (Gs.2 ⟨r,hr,rfl⟩)
  rwa [Gj]at this
 ·intro h r hr
  obtain⟨q,hq,rfl⟩:=Gs.1 hr
  rw[Gj];exact h q hq
theorem Qc2{l:List (List Ent)}(hf:ZP l){i:Nat}(hi:i<l.length):∃ r,(mxP l)[i]?=some r/\r.length=Yz l/\∀ c,c<Yz l->r[c]?=some (mE l i c):=by
 have hr:l[i]?=some l[i]:=Ga hi
 have hl:=hf _ (Gg hr)
 refine⟨l[i].map PE,by rw[Gh,hr];rfl,by rw[Gj];exact hl,fun c hc=>?_⟩
 have he:l[i][c]?=some (l[i][c]'(by omega)):=Ga _
 rw[Gh,he,mE_at hr he];rfl
theorem Qee{l:List (List Ent)}(h:sqE l):mxP l=lst l.length (mE l):=by
 have hf:=(sqE_iff.1 h).1
 have hc:=(sqE_iff.1 h).2
 refine Gt fun i=>?_
 unfold lst
 rcases GD i l.length with hi|hi
 ·obtain⟨r,h1,h2,h3⟩:=Qc2 hf hi
  rw[h1,Gh,Gv hi,Gp]
  congr 1
  refine Gt fun c=>?_
  rcases GD c l.length with hc2|hc2
  ·rw[h3 c (by omega),Gh,Gv hc2];rfl
  ·rw[Gr (by omega),Gr (by simpa using hc2)]
 ·rw[Gr (by rw[ZF];exact hi),Gr (by simpa using hi)]
theorem Qj0{A B:Nat->Nat->Pol}(hA:∀ a c,EOk (A a c))(hB:∀ a c,EOk (B a c)){na ka cb:Nat}(hk:ka<=100):(List.range na).map (QcS A B ka cb)=VP na cb (pM A B ka):=by
 unfold VP QcS
 refine G6 fun a _=>G6 fun c _=>?_
 exact(QbP hA hB ka hk).eq (qE hA hB ka hk)
theorem pM_tx{A B:Nat->Nat->Pol}(hA:∀ a c,EOk (A a c))(hB:∀ a c,EOk (B a c)){na ka cb:Nat}(hk:ka<=3)(hc:cb<=1000):∀ r∈VP na cb (pM A B ka),r.length<=1000/\∀ p∈r,Qlq p:=by
 intro r hr
 obtain⟨a,-,rfl⟩:=Gs.1 hr
 refine⟨by simpa using hc,fun p hp=>?_⟩
 obtain⟨c,-,rfl⟩:=Gs.1 hp
 have g:=qE hA hB (a:=a) (c:=c) ka (by omega)
 have fb:=yy hA hB (a:=a) (c:=c) ka
 refine⟨?_,fun t ht=>?_,fun t ht=>?_⟩
 ·have:(pS A B a c ka).ts.length<=_:=g.len fb
  show (pS A B a c ka).ts.length<=1000
  omega
 ·have:=(g.bd fb t ht).2
  simp only[cM];omega
 ·have:=(g.bd fb t ht).1
  simp only[eM];omega
theorem sqmP{n:Nat}{P:Nat->Nat->Pol}(hn:n<=3)(h:∀ a c,a<n->c<n->(P a c).big=false/\Can (P a c).ts/\∀ t∈(P a c).ts,t.1.natAbs<=24/\t.2.natAbs<=144):SqM 15 (lst n P):=by
 have hr:∀ r∈lst n P,r.length=n/\∀ p∈r,p.big=false/\Can p.ts/\∀ t∈p.ts,t.1.natAbs<=24/\t.2.natAbs<=144:=fun r hr=>by
  obtain⟨a,ha,rfl⟩:=Gs.1 hr
  refine⟨by simp,fun p hp=>?_⟩
  obtain⟨c,hc,rfl⟩:=Gs.1 hp
  exact h a c (by simpa using ha) (by simpa using hc)
 have ln:∀ p:Pol,Can p.ts->(∀ t∈p.ts,t.1.natAbs<=24/\t.2.natAbs<=144)->p.ts.length<=49:=fun p k hb=>Z5 k (lo := -24) fun t ht=>by have:=(hb t ht).1;omega
 refine⟨by rw[YN];omega,fun r h2=>by rw[YN];exact(hr r h2).1,fun r h2 p hp=>?_,⟨by decide,by rw[YN];omega⟩,fun r h2=>?_⟩
 ·obtain⟨h3,h4,h5⟩:=(hr r h2).2 p hp
  exact⟨h4,h3,by have:=ln p h4 h5;omega,fun t ht=>by have:=h5 t ht;simp only[cM];omega⟩
 ·obtain⟨h3,h4⟩:=hr r h2
  have key:∀ q:List Pol,(∀ p∈q,p.big=false/\Can p.ts/\∀ t∈p.ts,t.1.natAbs<=24/\t.2.natAbs<=144)->XQ (rT q)<=q.length*7056:=by
   intro q
   induction q with
   | nil=>intro _;simp[rT,XQ]
   | cons p q ih =>
    intro hq
    have:=ih fun z hz=>hq z (.tail _ hz)
    have h6:=hq p (.head _)
    have h7:=ln p h6.2.1 h6.2.2
    have h8:=JX (B:=144) fun t ht=>(h6.2.2 t ht).2
    have:Yp p.ts<=7056:=by omega
    unfold rT at *
    simp only[GE,XQ,Gu,GS];omega
  have:=key r h4
  rw[h3]at this
  have:n*7056<=3*7056:=GF _ hn
  omega
theorem zD{n K B b:Nat}{h:Qa}{s:SV}{M:Nat->Nat->Pol}{f:Int->Int}(m:PolMx h s (lst n M))(k:SqM b (lst n M))(hf:∀ e,zE n M e=f e)(fb:FB K B f)(hB:B<=cM) :
  ∃ r h',Cal FT HKt 11 [.sc s] h r h'/\(Ext h h'/\∃ t ts,r = .tup [.agg [.bool false,t],.sc (.int .i64 0)]/\IsD h' t (tms ts)/\GP f ⟨false,ts⟩):=by
 obtain⟨r,h',c,e,dr⟩:=QoT b (lst n M) s h m k
 refine⟨r,h',c,e,?_⟩
 rcases dr with ⟨t,ts,rfl,d,can,bd,hcf⟩|⟨⟨e,he⟩,rfl⟩
 ·exact⟨t,ts,rfl,d,rfl,can,fun e=>(hcf e).trans (hf e)⟩
 ·exfalso
  have h1:=hf e
  unfold zE at h1
  rw[h1]at he
  have:=(fb e (fun h=>by rw[h]at he;simp at he)).2
  omega
theorem Qeo{n:Nat}{M:Nat->Nat->Pol}(hn:n<=3)(h:∀ a c,EOk (M a c)):FB 36 110592 (zE n M):=by
 have k:ROk n (lst n M):=⟨by omega,fun r hr=>by
  obtain⟨a,ha,rfl⟩:=Gs.1 hr
  simp,fun r hr p hp=>by
  obtain⟨a,ha,rfl⟩:=Gs.1 hr
  obtain⟨c,hc,rfl⟩:=Gs.1 hp
  exact h a c⟩
 have:=k.fb (cs:=List.range' 0 (lst n M).length) (by rw[YN];exact List.Sublist.refl _)
 rw[YN]at this
 have h48:48^n<=48^3:=GN (by decide) hn
 unfold zE Qbg
 rw[YN]
 exact this.mono (by omega) (by omega)
theorem QkA{f g:Int->Int}{Y:Pol}(hf:FB 36 110592 f)(gY:GP g Y)(hg:FB 36 110592 g):FB 72 892844408832 (Yn Y.ts f):=by
 intro e he
 obtain⟨t,ht,h2⟩:=UA he
 have h3:=(hf _ h2).1
 have h4:=(gY.bd hg t ht).1
 refine⟨by omega,?_⟩
 have:=JB (B:=110592) (f:=f) (fun e=>by
  by_cases h:f e=0
  ·rw[h];exact Gm _
  ·exact(hf e h).2) (l:=Y.ts) (e:=e)
 have h5:=JX (B:=110592) fun t ht=>(gY.bd hg t ht).2
 have h6:=gY.len hg
 have h7:Yp Y.ts<=8073216:=by omega
 have h8:Yp Y.ts*110592<=8073216*110592:=GF _ h7
 omega
end Go.Proofs.YtofknpknogfijaaGreatDoor
namespace Go.Proofs.YtofknpknogfijaaGreatDoor
open Go.Ab
set_option linter.all false
set_option maxHeartbeats 16000000
set_option maxRecDepth 20000
attribute [local irreducible] Qm wA Xp Xo QI Qp QZ QY
section
variable [HB]
theorem Qoo(aw:∀ h:Qa,∃ v h',Cal FT HKt 9 [] h v h'/\v = .sc (.bool true)/\h'=h)(h0:Qa)(ls1 ls2:SV)(l1 l2:List (List Ent))(em1:EMx h0 ls1 l1)(em2:EMx h0 ls2 l2) :
  ∃ v h',Cal FT HKt 8 [.sc ls1,.sc ls2] h0 v h'/\v = .sc (.bool true):=by
 refine Cal.of (F:=a8) rfl rfl rfl ?_
 have k101:=Qin h0 l1 ls1 3 (by decide) em1
 have k102:=fun H (e:Ext h0 H)=>Qin H l2 ls2 3 (by decide) (em2.ext e)
 by_cases hs1:smM 3 l1
 case neg =>
  simp only[decide_eq_false hs1,smN]at k101
  repeat' first|apply Qf|apply Qb|apply QC|apply Qn|apply Qs|apply Qe|(apply Qg;first|refine Qk rfl ?_|refine Qi rfl ?_)|(apply Qd;first|refine Qq rfl ?_|refine QA rfl rfl ?_|refine Qu rfl rfl rfl ?_)|(apply Qc;first|(refine Qj rfl (aw _) ?_;rintro v h0 ⟨rfl,rfl⟩)|(refine Qj rfl k101 ?_;rintro v h1 ⟨e1,rfl⟩)|refine Xu rfl rfl rfl ?_|refine Xd rfl ?_|refine Ql rfl ?_|refine QR rfl rfl ?_|refine XC rfl ?_)
  exact⟨.inr rfl,rfl⟩
 simp only[decide_eq_true hs1,smN]at k101
 by_cases hs2:smM 3 l2
 case neg =>
  simp only[decide_eq_false hs2,smN]at k102
  repeat' first|apply Qf|apply Qb|apply QC|apply Qn|apply Qs|apply Qe|(apply Qg;first|refine Qk rfl ?_|refine Qi rfl ?_)|(apply Qd;first|refine Qq rfl ?_|refine QA rfl rfl ?_|refine Qu rfl rfl rfl ?_)|(apply Qc;first|(refine Qj rfl (aw _) ?_;rintro v h0 ⟨rfl,rfl⟩)|(refine Qj rfl k101 ?_;rintro v h1 ⟨x,rfl⟩)|(refine Qj rfl (k102 _ x) ?_;rintro v h2 ⟨e2,rfl⟩;replace x:=x.trans e2)|refine Xl rfl rfl (by decide) ?_|refine Xu rfl rfl rfl ?_|refine QP rfl ?_|refine Ql rfl ?_|refine QJ rfl rfl ?_|refine XC rfl ?_)
  exact⟨.inr rfl,rfl⟩
 simp only[decide_eq_true hs2,smN]at k102
 have n1:=hs1.1
 have n2:=hs2.1
 have c1:=QcB hs1
 have c2:=QcB hs2
 have r1:∀ r∈l1,r.length<=1000/\∀ e∈r,smE e:=fun r hr=>by have:=hs1.2 r hr;exact⟨by have:=this.1;omega,this.2⟩
 have r2:∀ r∈l2,r.length<=1000/\∀ e∈r,smE e:=fun r hr=>by have:=hs2.2 r hr;exact⟨by have:=this.1;omega,this.2⟩
 have k121:=fun H (e:Ext h0 H)=>Qik H l1 ls1 (by omega) (em1.ext e) r1
 have k122:=fun H (e:Ext h0 H)=>Qik H l2 ls2 (by omega) (em2.ext e) r2
 have k321:=fun H (e:Ext h0 H)=>Qdn H l1 ls1 (by omega) (em1.ext e) fun r h=>by have:=(r1 r h).1;omega
 have k322:=fun H (e:Ext h0 H)=>Qdn H l2 ls2 (by omega) (em2.ext e) fun r h=>by have:=(r2 r h).1;omega
 have lim1:(mxP l1).length<=64/\Yq (mxP l1)<=64/\∀ r∈mxP l1,r.length<=1000:=⟨by rw[ZF];omega,by rw[Jh];omega,fun r hr=>by
  obtain⟨q,hq,rfl⟩:=Gs.1 hr
  rw[Gj];exact(r1 q hq).1⟩
 have lim2:(mxP l2).length<=64/\Yq (mxP l2)<=64/\∀ r∈mxP l2,r.length<=1000:=⟨by rw[ZF];omega,by rw[Jh];omega,fun r hr=>by
  obtain⟨q,hq,rfl⟩:=Gs.1 hr
  rw[Gj];exact(r2 q hq).1⟩
 repeat' first|apply Qf|apply Qb|apply Qn|apply Qe|(apply Qg;refine Qi rfl ?_)|(apply Qd;first|refine QA rfl rfl ?_|refine Qu rfl rfl rfl ?_)|(apply Qc;first|(refine Qj rfl (aw _) ?_;rintro v h0 ⟨rfl,rfl⟩)|(refine Qj rfl k101 ?_;rintro v h1 ⟨x,rfl⟩)|(refine Qj rfl (k102 _ x) ?_;rintro v h2 ⟨e2,rfl⟩;replace x:=x.trans e2)|refine Xl rfl rfl (by decide) ?_|(refine Qj rfl (k121 _ x) ?_;rintro v h3 ⟨e3,s3,rfl,sm3⟩;replace x:=x.trans e3;have p3:=sm3.mx.pol)|(refine Qj rfl (k122 _ x) ?_;rintro v h4 ⟨e4,s4,rfl,sm4⟩;replace x:=x.trans e4;replace p3:=p3.ext e4;have p4:=sm4.mx.pol)|refine QP rfl ?_|refine Ql rfl ?_|refine QJ rfl rfl ?_|refine XC rfl ?_)
 by_cases fit:ZP l1/\ZP l2/\Yz l1=l2.length
 case neg =>
  have k31:=Qk2 s3 s4 _ p3 p4 lim1 lim2 (by rw[mxP_form,mxP_form,Jh,ZF];exact fit)
  by_cases f1:ZP l1
  ·by_cases f2:ZP l2
   ·have hne:Yz l1≠l2.length:=fun e=>fit ⟨f1,f2,e⟩
    simp only[yl,if_pos f1]at k321
    simp only[yl,if_pos f2]at k322
    repeat' first|apply Qf|apply Qb|apply QC|apply Qs|apply Qe|(apply Qg;refine Qk rfl ?_)|(apply Qd;first|refine Qq rfl ?_|refine QG rfl rfl rfl rfl ?_|refine Q4 rfl rfl rfl rfl rfl rfl rfl ?_|refine Q9 rfl rfl rfl rfl rfl rfl rfl rfl rfl ?_)|(apply Qc;first|(refine Qj rfl k31 ?_;rintro v h5 ⟨e5,rfl⟩;replace x:=x.trans e5)|(refine Qj rfl (k321 _ x) ?_;rintro v h6 ⟨rfl,rfl⟩)|(refine Qj rfl (k322 _ x) ?_;rintro v h7 ⟨rfl,rfl⟩)|refine Ya rfl rfl (by omega) ?_|refine Qr rfl rfl ?_|refine Xu rfl rfl rfl ?_|refine QP rfl ?_|refine Ql rfl ?_|refine QR rfl rfl ?_|refine QJ rfl rfl ?_|refine XC rfl ?_|refine Xk rfl rfl ?_)
    exact⟨.inr rfl,rfl⟩
   ·simp only[yl,if_pos f1]at k321
    simp only[yl,if_neg f2]at k322
    repeat' first|apply Qf|apply Qb|apply QC|apply Qs|apply Qe|(apply Qg;refine Qk rfl ?_)|(apply Qd;first|refine Qq rfl ?_|refine QG rfl rfl rfl rfl ?_|refine Q4 rfl rfl rfl rfl rfl rfl rfl ?_|refine Q9 rfl rfl rfl rfl rfl rfl rfl rfl rfl ?_)|(apply Qc;first|(refine Qj rfl k31 ?_;rintro v h5 ⟨e5,rfl⟩;replace x:=x.trans e5)|(refine Qj rfl (k321 _ x) ?_;rintro v h6 ⟨rfl,rfl⟩)|(refine Qj rfl (k322 _ x) ?_;rintro v h7 ⟨rfl,rfl⟩)|refine Qr rfl rfl ?_|refine Xu rfl rfl rfl ?_|refine Xd rfl ?_|refine QP rfl ?_|refine Ql rfl ?_|refine QR rfl rfl ?_|refine QJ rfl rfl ?_|refine XC rfl ?_|refine X1 rfl ?_|refine Xk rfl rfl ?_)
    exact⟨.inr rfl,rfl⟩
  ·simp only[yl,if_neg f1]at k321
   by_cases f2:ZP l2
   ·simp only[yl,if_pos f2]at k322
    repeat' first|apply Qf|apply Qb|apply QC|apply Qs|apply Qe|(apply Qg;refine Qk rfl ?_)|(apply Qd;first|refine Qq rfl ?_|refine QG rfl rfl rfl rfl ?_|refine Q4 rfl rfl rfl rfl rfl rfl rfl ?_|refine Q9 rfl rfl rfl rfl rfl rfl rfl rfl rfl ?_)|(apply Qc;first|(refine Qj rfl k31 ?_;rintro v h5 ⟨e5,rfl⟩;replace x:=x.trans e5)|(refine Qj rfl (k321 _ x) ?_;rintro v h6 ⟨rfl,rfl⟩)|(refine Qj rfl (k322 _ x) ?_;rintro v h7 ⟨rfl,rfl⟩)|refine Qr rfl rfl ?_|refine Xu rfl rfl rfl ?_|refine Xd rfl ?_|refine QP rfl ?_|refine Ql rfl ?_|refine QR rfl rfl ?_|refine X1 rfl ?_|refine Xk rfl rfl ?_)
    exact⟨.inr rfl,rfl⟩
   ·simp only[yl,if_neg f2]at k322
    repeat' first|apply Qf|apply Qb|apply QC|apply Qs|apply Qe|(apply Qg;refine Qk rfl ?_)|(apply Qd;first|refine Qq rfl ?_|refine QG rfl rfl rfl rfl ?_|refine Q4 rfl rfl rfl rfl rfl rfl rfl ?_|refine Q9 rfl rfl rfl rfl rfl rfl rfl rfl rfl ?_)|(apply Qc;first|(refine Qj rfl k31 ?_;rintro v h5 ⟨e5,rfl⟩;replace x:=x.trans e5)|(refine Qj rfl (k321 _ x) ?_;rintro v h6 ⟨rfl,rfl⟩)|(refine Qj rfl (k322 _ x) ?_;rintro v h7 ⟨rfl,rfl⟩)|refine Qr rfl rfl ?_|refine Xu rfl rfl rfl ?_|refine Xd rfl ?_|refine QP rfl ?_|refine Ql rfl ?_|refine QR rfl rfl ?_|refine X1 rfl ?_|refine Xk rfl rfl ?_)
    exact⟨.inr rfl,rfl⟩
 obtain⟨f1,f2,hfit⟩:=fit
 simp only[yl,if_pos f1]at k321
 simp only[yl,if_pos f2]at k322
 have okA:=QlK (Qlz hs1)
 have okB:=QlK (Qlz hs2)
 have at1:∀ i,i<l1.length->∃ r,(mxP l1)[i]?=some r/\r.length=l2.length/\∀ m,m<l2.length->r[m]?=some (mE l1 i m):=fun i hi=>by
  have:=Qc2 f1 hi
  rw[hfit]at this
  exact this
 have at2:∀ i,i<l2.length->∃ r,(mxP l2)[i]?=some r/\r.length=Yz l2/\∀ m,m<Yz l2->r[m]?=some (mE l2 i m):=fun i hi=>Qc2 f2 hi
 have z2:l2.length=0->Yz l2=0:=fun h=>by
  rw[Gw h];rfl
 have k31:=QoK (mE l1) (mE l2) okA okB l2.length l1.length (Yz l2) s3 s4 _ ⟨p3,p4,ZF,ZF,at1,fun m k hm hk=>let ⟨r,a,b,c⟩:=at2 m hm;⟨r,a,b,c k hk⟩,Jh,by omega⟩ lim1 lim2 (mxP_form.2 f1) (mxP_form.2 f2) (by rw[Jh,ZF];exact hfit)
 have k181:=fun H (e:Ext h0 H)=>Qii H l1 ls1 (by omega) (em1.ext e) r1
 have k182:=fun H (e:Ext h0 H)=>Qii H l2 ls2 (by omega) (em2.ext e) r2
 have k34:=fun H sa sb (pa:MxF fR H sa (mxP l1)) (pb:MxF fR H sb (mxP l2))=>QoI (mE l1) (mE l2) okA okB l1.length l2.length (Yz l2) sa sb H ⟨pa,pb,ZF,ZF,at1,at2,z2,by omega⟩
 rw[Qj0 okA okB (by omega)]at k34
 have k33:=fun H sa sb (pa:MxF fL H sa (VP l1.length (Yz l2) (pM (mE l1) (mE l2) l2.length))) (pb:MxF fR H sb (VP l1.length (Yz l2) (pM (mE l1) (mE l2) l2.length)))=>QoJ sa sb H pa pb (by unfold VP;simp;omega) (pM_tx okA okB (by omega) (by omega))
 have k131:=fun H (e:Ext h0 H)=>Qij H l1 ls1 (by omega) (em1.ext e) fun r h=>by have:=(r1 r h).1;omega
 have k132:=fun H (e:Ext h0 H)=>Qij H l2 ls2 (by omega) (em2.ext e) fun r h=>by have:=(r2 r h).1;omega
 repeat' first|apply Qf|apply Qb|apply Qn|apply Qe|(apply Qg;refine Qi rfl ?_)|(apply Qd;first|refine QG rfl rfl rfl rfl ?_|refine QE rfl rfl rfl rfl rfl rfl ?_|refine Q4 rfl rfl rfl rfl rfl rfl rfl ?_|refine Q9 rfl rfl rfl rfl rfl rfl rfl rfl rfl ?_)|(apply Qc;first|(refine Qj rfl k31 ?_;rintro v h5 ⟨e5,s5,rfl,px⟩;replace x:=x.trans e5;have p5:MxF fL h5 s5 (VP l1.length (Yz l2) (pM (mE l1) (mE l2) l2.length)):=px.pol)|(refine Qj rfl (k321 _ x) ?_;rintro v h6 ⟨rfl,rfl⟩)|(refine Qj rfl (k322 _ x) ?_;rintro v h7 ⟨rfl,rfl⟩)|refine XJ rfl rfl (by omega) ?_|(refine Qj rfl (k181 _ x) ?_;rintro v h8 ⟨e8,s8,rfl,sm8⟩;replace x:=x.trans e8;replace p5:=p5.ext e8;have p8:=sm8.mx)|(refine Qj rfl (k182 _ x) ?_;rintro v h9 ⟨e9,s9,rfl,sm9⟩;replace x:=x.trans e9;replace p5:=p5.ext e9;replace p8:=p8.ext e9;have p9:=sm9.mx)|(refine Qj rfl (k34 _ _ _ p8 p9) ?_;rintro v h10 ⟨e10,s10,rfl,p10⟩;replace x:=x.trans e10;replace p5:=p5.ext e10)|(refine Qj rfl (k33 _ _ _ p5 p10) ?_;rintro v h11 ⟨e11,rfl⟩;replace x:=x.trans e11;replace p5:=p5.ext e11)|refine QP rfl ?_|refine Ql rfl ?_|refine QJ rfl rfl ?_|refine XC rfl ?_|refine Xk rfl rfl ?_)
 by_cases hq1:sqE l1
 case neg =>
  simp only[decide_eq_false hq1]at k131
  repeat' first|apply Qf|apply Qb|apply QC|apply Qs|apply Qe|(apply Qg;refine Qk rfl ?_)|(apply Qd;first|refine Qq rfl ?_|refine QG rfl rfl rfl rfl ?_)|(apply Qc;first|(refine Qj rfl (k131 _ x) ?_;rintro v h12 ⟨rfl,rfl⟩)|refine Xd rfl ?_|refine Ql rfl ?_|refine QR rfl rfl ?_|refine X1 rfl ?_)
  exact⟨.inr rfl,rfl⟩
 simp only[decide_eq_true hq1]at k131
 by_cases hq2:sqE l2
 case neg =>
  simp only[decide_eq_false hq2]at k132
  repeat' first|apply Qf|apply Qb|apply QC|apply Qs|apply Qe|(apply Qg;refine Qk rfl ?_)|(apply Qd;first|refine Qq rfl ?_|refine QG rfl rfl rfl rfl ?_)|(apply Qc;first|(refine Qj rfl (k131 _ x) ?_;rintro v h12 ⟨rfl,rfl⟩)|(refine Qj rfl (k132 _ x) ?_;rintro v h13 ⟨rfl,rfl⟩)|refine Xd rfl ?_|refine QP rfl ?_|refine Ql rfl ?_|refine QR rfl rfl ?_|refine QJ rfl rfl ?_|refine XC rfl ?_|refine X1 rfl ?_)
  exact⟨.inr rfl,rfl⟩
 simp only[decide_eq_true hq2]at k132
 have q1:l1.length=Yz l1:=(sqE_iff.1 hq1).2
 have q2:l2.length=Yz l2:=(sqE_iff.1 hq2).2
 have hl:l1.length=l2.length:=q1.trans hfit
 rw[← q2,← hl]at p5
 have m1:(l1.map fun r=>r.map PE)=lst l1.length (mE l1):=Qee hq1
 have m2:(l2.map fun r=>r.map PE)=lst l1.length (mE l2):=by rw[hl];exact Qee hq2
 rw[m1]at k121
 rw[m2]at k122
 have p5:PolMx h11 s5 (lst l1.length (pM (mE l1) (mE l2) l1.length)):=p5
 have fbA:=Qeo n1 okA
 have fbB:=Qeo n1 okB
 have dA:=fun H s (m:PolMx H s (lst l1.length (mE l1)))=>zD m (sqmG (by omega) fun a c _ _=>(okA a c).eg) (fun e=>rfl) fbA (by decide)
 have dB:=fun H s (m:PolMx H s (lst l1.length (mE l2)))=>zD m (sqmG (by omega) fun a c _ _=>(okB a c).eg) (fun e=>rfl) fbB (by decide)
 have y:=Ext.refl h11
 have tn1:True:=trivial
 have tn2:True:=trivial
 repeat' first|apply Qf|apply Qb|apply Qn|apply Qe|(apply Qg;refine Qi rfl ?_)|(apply Qd;first|refine QG rfl rfl rfl rfl ?_|refine QO rfl rfl rfl rfl rfl ?_)|(apply Qc;first|(refine Qj rfl (k131 _ x) ?_;rintro v h12 ⟨rfl,rfl⟩)|(refine Qj rfl (k132 _ x) ?_;rintro v h13 ⟨rfl,rfl⟩)|refine XJ rfl rfl (by omega) ?_|(refine Qj rfl (k121 _ x) ?_;rintro v g1 ⟨u1,s11,rfl,sm11⟩;replace x:=x.trans u1;replace y:=y.trans u1;have q11:=sm11.mx.pol)|(refine Qj rfl (dA _ _ q11) ?_;rintro v g2 ⟨u2,t1,ts1,rfl,d1,gA⟩;replace x:=x.trans u2;replace y:=y.trans u2)|(have z:=tn1;apply Xa;intro g3 u3 c13;clear z tn1;have nx:=x.len;have ny:=y.len;replace x:=x.trans u3;replace y:=y.trans u3;replace d1:=d1.ext u3)|(refine Xg rfl rfl c13 ?_;intro g4 w13;replace c13:=w13.cel;replace x:=w13.ext x nx;replace y:=w13.ext y ny;replace d1:=IsD.wrC d1 w13)|(refine Qj rfl (k122 _ x) ?_;rintro v g5 ⟨u5,s12,rfl,sm12⟩;replace x:=x.trans u5;replace y:=y.trans u5;replace c13:=c13.ext u5;replace d1:=d1.ext u5;have q12:=sm12.mx.pol)|(refine Qj rfl (dB _ _ q12) ?_;rintro v g6 ⟨u6,t2,ts2,rfl,d2,gB⟩;replace x:=x.trans u6;replace y:=y.trans u6;replace c13:=c13.ext u6;replace d1:=d1.ext u6)|(have z:=tn2;apply Xa;intro g7 u7 c15;clear z tn2;have nx:=x.len;have ny:=y.len;have m13:=c13.lt;replace x:=x.trans u7;replace y:=y.trans u7;replace c13:=c13.ext u7;replace d1:=d1.ext u7;replace d2:=d2.ext u7)|(refine Xg rfl rfl c15 ?_;intro g8 w15;replace c15:=w15.cel;replace x:=w15.ext x nx;replace y:=w15.ext y ny;replace c13:=w15.keep c13 (by omega);replace d1:=IsD.wrC d1 w15;replace d2:=IsD.wrC d2 w15)|refine QP rfl ?_|refine Ql rfl ?_|refine QJ rfl rfl ?_|refine XC rfl ?_|refine Xk rfl rfl ?_)
 have isP:Qjb l1.length (mE l1) (mE l2) (pM (mE l1) (mE l2) l1.length):=fun a c _ _=>qE okA okB _ (by omega)
 have hdet:=fun e=>Qh4 okA okB isP gB e
 have fbP:=QkA fbA gB fbB
 have dP:=fun H s (m:PolMx H s (lst l1.length (pM (mE l1) (mE l2) l1.length)))=>zD m (sqmP n1 fun a c _ _=>⟨(qE okA okB _ (by omega)).nb,(qE okA okB _ (by omega)).can,fun t ht=>by
  have:=(qE okA okB (a:=a) (c:=c) l1.length (by omega)).bd (yy okA okB _) t ht
  omega⟩) hdet fbP (by decide)
 have gm:=Qa7 gA (fbA.mono (by decide) (by decide)) (gB.pok (fbB.mono (by decide) (by decide))) gB.nb (fun t ht=>by have:=(gB.bd fbB t ht).1;omega) (fun e=>by
  by_cases h:Yn (Pol.mk false ts2).ts (zE l1.length (mE l1)) e=0
  ·rw[h];exact Gm _
  ·exact Gq (fbP e h).2 (by decide))
 have kp1:=gA.pok (fbA.mono (by decide) (by decide))
 have kp2:=gB.pok (fbB.mono (by decide) (by decide))
 have k22:=fun H (a1:IsD H t1 (tms ts1)) (a2:IsD H t2 (tms ts2))=>QeI H t1 t2 ⟨false,ts1⟩ ⟨false,ts2⟩ a1 a2 kp1 kp2
 have tn3:True:=trivial
 repeat' first|apply Qf|apply Qb|apply Q7|apply Xm|(apply Qd;first|apply Q5|refine QE rfl rfl rfl rfl rfl rfl ?_)|(apply Qc;first|(refine Qj rfl (dP _ _ (p5.ext y)) ?_;rintro v g9 ⟨u9,t3,ts3,rfl,d3,gD⟩;replace c13:=c13.ext u9;replace c15:=c15.ext u9;replace d1:=d1.ext u9;replace d2:=d2.ext u9)|(have z:=tn3;apply Xa;intro ga ua c17;clear z tn3;have m13:=c13.lt;have m15:=c15.lt;replace c13:=c13.ext ua;replace c15:=c15.ext ua;replace d1:=d1.ext ua;replace d2:=d2.ext ua;replace d3:=d3.ext ua)|(refine Xg rfl rfl c17 ?_;intro gb w17;replace c17:=w17.cel;replace c13:=w17.keep c13 (by omega);replace c15:=w17.keep c15 (by omega);replace d1:=IsD.wrC d1 w17;replace d2:=IsD.wrC d2 w17;replace d3:=IsD.wrC d3 w17)|refine QP rfl ?_|refine Ql rfl ?_|refine QR rfl rfl ?_|refine Xu rfl rfl (by omega) ?_|refine Xl rfl rfl (by omega) ?_|refine Xk rfl rfl ?_)
 have e3:=gD.eq gm
 have l3:=gD.len fbP
 have k23:=fun H sn (a1:IsD H t3 (tms ts3)) (a2:IsD H sn (tms (Yg ⟨false,ts1⟩ ⟨false,ts2⟩).ts))=>QoL H t3 sn ⟨false,ts3⟩ (Yg ⟨false,ts1⟩ ⟨false,ts2⟩) a1 a2 (by simp only at l3 ⊢;omega)
 rw[decide_eq_true e3]at k23
 repeat' first|apply Qb|apply Qs|apply Xm|apply Xn|(apply Qd;first|apply Q5|apply Xw|refine XP (by assumption) ?_|refine Qq rfl ?_)|(apply Qc;first|refine QU rfl c17 ?_|refine QU rfl c13 ?_|refine QU rfl c15 ?_|(refine Qj rfl (k22 _ d1 d2) ?_;rintro w z1 ⟨ez,sm,rfl,dm⟩)|(refine Qj rfl (k23 _ _ (d3.ext ez) dm) ?_;rintro w z2 ⟨ez2,rfl⟩)|refine QP rfl ?_|refine Ql rfl ?_|refine QR rfl rfl ?_|refine QJ rfl rfl ?_)
 exact⟨.inr rfl,rfl⟩
end
theorem call8(h0:Qa)(ls1:SV)(l1:List (List Ent))(em1:EMx h0 ls1 l1)(ls2:SV)(l2:List (List Ent))(em2:EMx h0 ls2 l2) :
 ∃ v h',Cal FT (@HKt ⟨true⟩) 8 [.sc ls1,.sc ls2] h0 v h'/\v = .sc (.bool true):=@Qoo ⟨true⟩ QcH h0 ls1 ls2 l1 l2 em1 em2
