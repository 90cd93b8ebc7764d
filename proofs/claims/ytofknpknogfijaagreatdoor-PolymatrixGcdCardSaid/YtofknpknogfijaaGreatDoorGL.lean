/- Term,total,dens -/
import Derived.Test.YtofknpknogfijaaGreatDoorGW2
namespace Go.Proofs.YtofknpknogfijaaGreatDoor
open Go.Ab
set_option linter.all false
set_option maxHeartbeats 16000000
set_option maxRecDepth 20000
attribute [local irreducible] Qk wA Xv Xs QC Qu QP Q6
variable [HB]
section
variable {FT:zzA} {HK:zzH} {E:Env} {h:Qa} {K:Env->Qa->Prop} {d:Option Nat} {r:List AOp} {xo:AO}
theorem Qla{a b z0 z1:SV}(hx:Go.Ab.ev E xo=some (.agg [a,b]))(hw:∀ h1,Ext h h1->IsD h1 (.slc h.length 0 1 (some 1)) [(a,b)]->Qk FT HK r (Qw d (some (.sc (.slc h.length 0 1 (some 1)))) E) h1 K) :
  Qk FT HK (⟨d,.bsl 2 [z0,z1] 1 [(0,xo)],none⟩::r) E h K :=
 Qlb hx (hw _ ⟨_,rfl⟩ (.inr ⟨h.length,0,some 1,.cells [a,b] true 2,rfl,by simp,rfl,fun h=>by simp at h,fun _=>⟨_,_,rfl,by simp[cut,prs,ez2]⟩⟩))
end
def JO(c e:Int):Pol:=if c=0 then Yf else if c.natAbs<=cM/\e.natAbs<=eM then ⟨false,[(e,c)]⟩ else YI
theorem Qft(c e:Int):Pok (JO c e):=by
 unfold JO
 split
 ·exact JS
 ·rename_i hc
  split
  ·rename_i h
   exact⟨by simp,⟨by simp,by simpa using hc⟩,by simpa using h.1,by simpa using h.2⟩
  ·exact JK
theorem Qhf(h0:Qa)(c e:Int)(hc:c≠0/\c.natAbs<=cM)(he:e.natAbs<=eM):∃ r h',Cal FT HKt 100 [.sc (.int .i64 c),.sc (.int .i64 e)] h0 r h'/\Ext h0 h'/\Z5 h' r ⟨false,[(e,c)]⟩:=by
 refine Cal.of (F:=Qjg) rfl rfl rfl ?_
 obtain⟨hc0,hc⟩:=hc
 simp only[cM,eM]at hc he
 have k1:=fun H=>Zl H c 1125899906842624 (by omega)
 have k2:=fun H=>Zl H e 1048576 (by omega)
 rw[show decide (c.natAbs<=(1125899906842624:Int).toNat)=true from decide_eq_true hc]at k1
 rw[show decide (e.natAbs<=(1048576:Int).toNat)=true from decide_eq_true he]at k2
 repeat' first|apply Qh|apply Qc|apply Qz|apply QV|apply Qm|apply Qs|apply Qf|(apply Qg;refine Qj rfl ?_)|(apply Qe;first|refine Qp rfl ?_|refine Qq rfl rfl rfl ?_|refine QA rfl rfl rfl rfl ?_)|(apply Qb;first|(apply QQ;intro h4 e4 c4)|(refine Qd rfl (k1 _) ?_;rintro v _ ⟨rfl,rfl⟩)|(refine Qd rfl (k2 _) ?_;rintro v _ ⟨rfl,rfl⟩)|(refine Xp rfl rfl ?_)|(refine Qla rfl ?_;intro h5 e5 i5;have c4_5:=c4.ext e5)|(refine QZ rfl rfl c4_5 ?_;intro h6 w6)|refine QE rfl ?_|refine Qn rfl ?_|refine Qy rfl rfl ?_|refine XX rfl ?_|refine Xk rfl rfl (by omega) ?_)
 exact⟨.inr rfl,QY rfl w6.cel.read ⟨w6.ext (e4.trans e5) (Ge _),_,rfl,i5.wrC w6⟩⟩
theorem Qjc(h0:Qa)(c e:Int):∃ r h',Cal FT HKt 100 [.sc (.int .i64 c),.sc (.int .i64 e)] h0 r h'/\Ext h0 h'/\Z5 h' r (JO c e):=by
 by_cases hc:c=0
 ·have ht:JO c e=Yf:=by unfold JO;rw[if_pos hc]
  rw[ht]
  subst hc
  refine Cal.of (F:=Qjg) rfl rfl rfl ?_
  repeat' first|apply Qh|apply Qc|apply QD|apply Qz|apply Xn|apply Qs|apply Qf|(apply Qg;refine Qi rfl ?_)|(apply Qe;first|refine Qp rfl ?_|refine Qq rfl rfl rfl ?_|refine QA rfl rfl rfl rfl ?_)|(apply Qb;first|(apply QQ;intro h4 e4 c4)|(refine Xp rfl rfl ?_)|(refine QZ rfl rfl c4 ?_;intro h6 w6)|refine Qn rfl ?_|refine XC rfl rfl (by omega) ?_)
  exact⟨.inr rfl,QY rfl w6.cel.read ⟨w6.ext e4 (Ge _),.nilS,rfl,IsD.nil _⟩⟩
 by_cases hok:c.natAbs<=cM/\e.natAbs<=eM
 ·have ht:JO c e=⟨false,[(e,c)]⟩:=by unfold JO;rw[if_neg hc,if_pos hok]
  rw[ht]
  exact Qhf h0 c e ⟨hc,hok.1⟩ hok.2
 ·have ht:JO c e=YI:=by unfold JO;rw[if_neg hc,if_neg hok]
  rw[ht]
  refine Cal.of (F:=Qjg) rfl rfl rfl ?_
  have k1:=fun H=>Zl H c 1125899906842624 (by omega)
  have k2:=fun H=>Zl H e 1048576 (by omega)
  by_cases h1:c.natAbs<=cM
  ·have h2:¬ e.natAbs<=eM:=fun h=>hok ⟨h1,h⟩
   rw[show decide (c.natAbs<=(1125899906842624:Int).toNat)=true from decide_eq_true h1]at k1
   rw[show decide (e.natAbs<=(1048576:Int).toNat)=false from decide_eq_false h2]at k2
   repeat' first|apply Qh|apply Qc|apply QD|apply Qz|apply Xn|apply Qs|apply Qf|(apply Qg;first|refine Qi rfl ?_|refine Qj rfl ?_)|(apply Qe;first|refine Qp rfl ?_|refine Qq rfl rfl rfl ?_|refine QA rfl rfl rfl rfl ?_)|(apply Qb;first|(apply QQ;intro h4 e4 c4)|(refine Qd rfl (k1 _) ?_;rintro v _ ⟨rfl,rfl⟩)|(refine Qd rfl (k2 _) ?_;rintro v _ ⟨rfl,rfl⟩)|(refine Xp rfl rfl ?_)|(refine QZ rfl rfl c4 ?_;intro h6 w6)|refine QE rfl ?_|refine Qn rfl ?_|refine Qy rfl rfl ?_|refine XX rfl ?_|refine YW rfl ?_|refine Xk rfl rfl (by omega) ?_)
   exact⟨.inr rfl,QY rfl w6.cel.read ⟨w6.ext e4 (Ge _),.nilS,rfl,IsD.nil _⟩⟩
  ·rw[show decide (c.natAbs<=(1125899906842624:Int).toNat)=false from decide_eq_false h1]at k1
   repeat' first|apply Qh|apply Qc|apply QD|apply Qz|apply Xn|apply Qs|apply Qf|(apply Qg;first|refine Qi rfl ?_|refine Qj rfl ?_)|(apply Qe;first|refine Qp rfl ?_|refine Qq rfl rfl rfl ?_|refine QA rfl rfl rfl rfl ?_)|(apply Qb;first|(apply QQ;intro h4 e4 c4)|(refine Qd rfl (k1 _) ?_;rintro v _ ⟨rfl,rfl⟩)|(refine Xp rfl rfl ?_)|(refine QZ rfl rfl c4 ?_;intro h6 w6)|refine Xa rfl ?_|refine Qn rfl ?_|refine QK rfl rfl ?_|refine YW rfl ?_|refine Xk rfl rfl (by omega) ?_)
   exact⟨.inr rfl,QY rfl w6.cel.read ⟨w6.ext e4 (Ge _),.nilS,rfl,IsD.nil _⟩⟩
structure TotOk(ts:List Tm)(P:Pol):Prop where
 ok:Pok P
 cs:P.big=false->∀ e,cf P.ts e=S (dl e) ts
theorem TotOk.add{a b:List Tm}{P Q:Pol}(p:TotOk a P)(q:TotOk b Q):TotOk (a++b) (Y7 P Q):=by
 refine⟨Qjf p.ok q.ok,fun hb e=>?_⟩
 have bp:P.big=false:=by
  cases h:P.big with
  | false=>rfl
  | true=>rw[show Y7 P Q=YI by unfold Y7;rw[if_pos (.inl h)]]at hb;cases hb
 have bq:Q.big=false:=by
  cases h:Q.big with
  | false=>rfl
  | true=>rw[show Y7 P Q=YI by unfold Y7;rw[if_pos (.inr h)]]at hb;cases hb
 rw[QaY bp bq]at hb ⊢
 split at hb
 ·rename_i hf
  rw[if_pos hf]
  show cf (mA P.ts Q.ts) e=_
  rw[Qg1,p.cs bp,q.cs bq,qq]
 ·cases hb
theorem Qfs(t:Tm):TotOk [t] (JO t.2 t.1):=by
 refine⟨Qft _ _,fun hb e=>?_⟩
 unfold JO at hb ⊢
 by_cases h0:t.2=0
 ·rw[if_pos h0]
  show (0:Int)=t.2*dl e t.1+0
  rw[h0];simp
 ·rw[if_neg h0]at hb ⊢
  by_cases h1:t.2.natAbs<=cM/\t.1.natAbs<=eM
  ·rw[if_pos h1];rfl
  ·rw[if_neg h1]at hb;cases hb
theorem Qlz:∀(n:Nat) (h0:Qa) (s:SV) (ts:List Tm),ts.length<=n->n<=1000000->IsD h0 s (tms ts)->∃ r h',Cal FT HKt 69 [.sc s] h0 r h'/\Ext h0 h'/\∃ P,Z5 h' r P/\TotOk ts P:=by
 intro n
 induction n with
 | zero =>
  intro h0 s ts hl _ hs
  have:ts=[]:=Gu (by omega)
  subst this
  refine Cal.of (F:=a69) rfl rfl rfl ?_
  have ls:Yv false s=some 0:=hs.len
  repeat' first|apply Qh|apply Qc|apply QD|apply Qz|apply Xn|apply Qs|apply Qf|(apply Qg;refine Qi rfl ?_)|(apply Qe;first|refine Qp rfl ?_|refine Qx rfl rfl ?_|refine Qq rfl rfl rfl ?_|refine QA rfl rfl rfl rfl ?_)|(apply Qb;first|(apply QQ;intro h4 e4 c4)|refine QG rfl ls ?_|(refine Xp rfl rfl ?_)|(refine QZ rfl rfl c4 ?_;intro h6 w6)|refine Qn rfl ?_|refine XC rfl rfl (by omega) ?_)
  exact⟨.inr rfl,QY rfl w6.cel.read ⟨w6.ext e4 (Ge _),Yf,⟨.nilS,rfl,IsD.nil _⟩,JS,fun _ _=>rfl⟩⟩
 | succ n ih =>
  intro h0 s ts hl hn hs
  have ls:=hs.len
  rw[QL]at ls
  by_cases h00:ts.length=0
  ·have:ts=[]:=Gu h00
   subst this
   exact ih h0 s [] (Gs _) (by omega) hs
  ·refine Cal.of (F:=a69) rfl rfl rfl ?_
   by_cases h1:ts.length=1
   ·obtain⟨t,rfl⟩:∃ t,ts=[t]:=List.length_eq_one_iff.1 h1
    have ls:Yv false s=some 1:=ls
    obtain⟨id,off,cap,rfl,rdA⟩:=hs.at (i:=0) (p:=tmP t) rfl
    have k100:=fun H=>Qjc H t.2 t.1
    have rd:=fun H (e:Ext h0 H)=>rd1 (QO e rdA)
    repeat' first|apply Qh|apply Qc|apply QD|apply Qz|apply Xn|apply Qs|apply Qf|apply QU|apply Xl|apply Xm|(apply Qg;first|refine Qi rfl ?_|refine Qj rfl ?_)|(apply Qe;first|apply QR|apply Xu|refine Qp rfl ?_|refine Qx rfl rfl ?_|refine Qq rfl rfl rfl ?_|refine QA rfl rfl rfl rfl ?_)|(apply Qb;first|(apply QQ;intro h4 e4 c4)|refine QG rfl ls ?_|refine QS rfl ?_|refine Xx rfl (rd _ e4).1 ?_|refine Xx rfl (rd _ e4).2 ?_|(refine Qd rfl (k100 _) ?_;rintro v5 h5 ⟨e5,s5,rfl,d5⟩;have c5:=c4.ext e5)|(refine QZ rfl rfl c5 ?_;intro h6 w6)|refine Qn rfl ?_|refine XC rfl rfl (by omega) ?_|refine Xk rfl rfl (by omega) ?_|refine Xt rfl rfl ?_)
    exact⟨.inr rfl,QY rfl w6.cel.read ⟨w6.ext (e4.trans e5) (Ge _),JO t.2 t.1,⟨s5,rfl,d5.wrC w6⟩,Qfs t⟩⟩
   ·have hq:((ts.length:Int))/2=((ts.length/2:Nat):Int):=by omega
    have i1:=fun H (e:Ext h0 H) s' (d:IsD h0 s' ((tms ts).take (ts.length/2)))=>ih H s' (ts.take (ts.length/2)) (by rw[GV];omega) (by omega) (by rw[← List.map_take]at d;exact d.ext e)
    have i2:=fun H (e:Ext h0 H) s' (d:IsD h0 s' ((tms ts).drop (ts.length/2)))=>ih H s' (ts.drop (ts.length/2)) (by rw[GW];omega) (by omega) (by rw[← List.map_drop]at d;exact d.ext e)
    have htd:ts.take (ts.length/2)++ts.drop (ts.length/2)=ts:=List.take_append_drop _ _
    have hle:ts.length/2<=ts.length:=by omega
    have hlm:(tms ts).length=ts.length:=QL ts
    generalize hN:ts.length/2=N at *
    repeat' first|apply Qh|apply Qc|apply Qz|apply QV|apply Qm|apply Qs|apply Qf|apply QU|apply Xl|apply Xm|(apply Qg;refine Qj rfl ?_)|(apply Qe;first|apply QR|apply Xu|refine Ye (by assumption) ?_|refine Qp rfl ?_|refine Qx rfl rfl ?_|refine Qq rfl rfl rfl ?_|refine QA rfl rfl rfl rfl ?_)|(apply Qb;first|(apply QQ;intro h4 e4 c4;have x:=e4)|refine QG rfl ls ?_|(refine QdT rfl rfl (by omega) ?_;rw[hq])|(refine Qgv x hs rfl rfl (by omega) ?_;intro s1 d1)|(refine QcM x hs rfl rfl (by omega) ?_;intro s2 d2)|(refine Qd rfl (i1 _ x s1 d1) ?_;rintro v5 h5 ⟨e5,P,⟨s5,rfl,d5⟩,tP⟩;have c5:=c4.ext e5;replace x:=x.trans e5)|(refine Qd rfl (i2 _ x s2 d2) ?_;rintro v6 h6 ⟨e6,Q,⟨s6,rfl,d6⟩,tQ⟩;have c6:=c5.ext e6;replace d5:=d5.ext e6;replace x:=x.trans e6)|(refine Qd rfl (Qhe _ s5 s6 P Q d5 d6 tP.ok tQ.ok) ?_;rintro v7 h7 ⟨e7,s7,rfl,d7⟩;have c7:=c6.ext e7;replace x:=x.trans e7)|(refine QZ rfl rfl c7 ?_;intro h8 w8)|refine Qn rfl ?_|refine Xk rfl rfl (by omega) ?_)
    exact⟨.inr rfl,QY rfl w8.cel.read ⟨w8.ext x (Ge _),Y7 P Q,⟨s7,rfl,d7.wrC w8⟩,by have:=tP.add tQ;rwa [htd]at this⟩⟩
def XS(ts:List Tm)(st:Nat):Nat:=((hi0 ts-lo0 ts)/st).toNat+1
def JQ(ts:List Tm)(st:Nat):List Int:=(List.range (XS ts st)).map fun i:Nat=>cf ts (lo0 ts+(i:Int)*st)
def I68(h0:Qa)(st q id:Nat)(ts:List Tm)(m:Nat)(E:Env)(h:Qa):Prop:=∃ i,i<=XS ts st/\m=XS ts st-i/\Ext h0 h/\Bi h id (qX (fun i=>cf ts (lo0 ts+(i:Int)*st)) (XS ts st) i) ∧
 E.keep [1,2,5,17,18]=[(1,some (iN st)),(2,some (.sc (.ptr q 0))),(5,some (sN id (XS ts st) (XS ts st))),(17,some (iN (XS ts st))),(18,some (iN i))]
def R68(h0:Qa)(st id:Nat)(ts:List Tm)(ex:Ex)(E:Env)(h:Qa):Prop:=ex = .ex 0/\Ext h0 h/\Bi h id (JQ ts st)/\∃ a b c d e,E=[(1,a),(2,b),(5,some (sN id (XS ts st) (XS ts st))),(17,c),(18,d),(19,e)]
theorem Qia(h0:Qa)(st q id:Nat)(s:SV)(ts:List Tm)(hst:0<st/\st<=2097152)(c2:Cel h0 q (.bool false) s)(hs:IsD h0 s (tms ts))(ca:Can ts)(hl:ts.length<=100000)(hid:h0.length<=id)(hw:0<=hi0 ts-lo0 ts/\hi0 ts-lo0 ts<=1000)(hlo:(lo0 ts).natAbs<=10000000)(m:Nat)(E:Env)(h:Qa)(hI:I68 h0 st q id ts m E h) :
  wA FT HKt QjR (E.keep [1,2,5,17,18]) h (Qu (I68 h0 st q id ts) m (R68 h0 st id ts)):=by
 obtain⟨i,hi,rfl,x,b,hE⟩:=hI
 rw[hE]
 have hN:(XS ts st:Int)<=1001:=by
  have:(hi0 ts-lo0 ts)/(st:Int)<=hi0 ts-lo0 ts:=Hh _ hw.1
  unfold XS;omega
 by_cases hlt:i<XS ts st
 ·have k53:=fun H (y:Ext h0 H)=>Y2 H false s ts (hs.ext y)
  have k62:=fun H (y:Ext h0 H)=>Qc4 H false s ts (lo0 ts+(i:Int)*st) (hs.ext y) ca (by omega)
  have fs:=U2 (f:=fun i:Nat=>cf ts (lo0 ts+(i:Int)*st)) hlt
  have wv:=fun H (y:Ext h H)=>(b.ext y).wr (i:=i) (y:=cf ts (lo0 ts+(i:Int)*st)) (by rw[U3];exact hlt)
  rw[fs]at wv
  have hm:0<=(i:Int)*st/\(i:Int)*st<=1001*2097152:=⟨Ha (by omega) (by omega),Int.mul_le_mul (by omega) (by omega) (by omega) (by omega)⟩
  have hm0:=hm
  obtain⟨Z,hZ⟩:∃ Z,(i:Int)*st=Z:=⟨_,rfl⟩
  rw[hZ]at hm wv
  simp only[hZ]at k62
  generalize cf ts (lo0 ts+Z)=W at *
  have x0:=Ext.refl h
  repeat' first|apply Qh|apply Qc|apply Qz|apply QV|apply Qm|apply Qf|apply QU|apply Xl|apply Xm|(apply Qg;refine Qi rfl ?_)|(apply Qe;first|apply QR|apply Xu|refine Ye (by assumption) ?_|refine QM rfl rfl rfl rfl rfl ?_|refine Q7 rfl rfl rfl rfl rfl rfl ?_)|(apply Qb;first|refine Qv rfl (c2.ext (x.trans x0)) ?_|(refine Qd rfl (k53 _ (x.trans x0)) ?_;rintro v1 h1 ⟨e1,rfl⟩;replace x0:=x0.trans e1)|(refine QdU rfl rfl (by omega) ?_;rw[hZ])|(refine Qd rfl (k62 _ (x.trans x0)) ?_;rintro v2 h2 ⟨e2,rfl⟩;replace x0:=x0.trans e2)|refine QJ (esz:=1) rfl rfl (by omega) ?_|refine QaE rfl rfl (wv _ x0) ?_|refine Qn rfl ?_|refine Q1 rfl rfl (by omega) ?_|refine QH rfl rfl (by omega) ?_)
  exact Xb (j:=XS ts st-(i+1)) (by omega) ⟨i+1,by omega,rfl,Ext.setF (x.trans x0) hid _,(b.ext x0).set,rfl⟩
 ·have:i=XS ts st:=by omega
  subst this
  rw[za]at b
  repeat' first|apply Qh|apply Qc|apply Xc|apply Q5|apply Qf|(apply Qg;refine Qj rfl ?_)|(apply Qe;refine Q7 rfl rfl rfl rfl rfl rfl ?_)|(apply Qb;refine QW rfl rfl (by omega) ?_)
  exact Xj ⟨rfl,x,b,_,_,_,_,_,rfl⟩
theorem Qg9(h0:Qa)(s:SV)(ts:List Tm)(st:Nat)(hst:0<st/\st<=2097152)(hs:IsD h0 s (tms ts))(ca:Can ts)(hl:ts.length<=100000)(hw:0<=hi0 ts-lo0 ts/\hi0 ts-lo0 ts<=1000)(hlo:(lo0 ts).natAbs<=10000000) :
  ∃ r h',Cal FT HKt 68 [.agg [.bool false,s],iN st] h0 r h'/\Ext h0 h'/\∃ id,r=sN id (XS ts st) (XS ts st)/\Bi h' id (JQ ts st):=by
 refine Cal.of (F:=a68) rfl rfl rfl ?_
 have k53:=fun H (y:Ext h0 H)=>Y2 H false s ts (hs.ext y)
 have k54:=fun H (y:Ext h0 H)=>zw H false s ts (hs.ext y) (by omega)
 have hq:(hi0 ts-lo0 ts)/(st:Int)+1=((XS ts st:Nat):Int):=by
  have:0<=(hi0 ts-lo0 ts)/(st:Int):=Int.ediv_nonneg hw.1 (by omega)
  unfold XS;omega
 have hN:(XS ts st:Int)<=1001:=by
  have:(hi0 ts-lo0 ts)/(st:Int)<=hi0 ts-lo0 ts:=Hh _ hw.1
  omega
 have hhi:(hi0 ts).natAbs<=10001000:=by omega
 have rl:=fun h1 q id (c2:Cel h1 q (.bool false) s) (y:Ext h0 h1) (hid:h1.length<=id)=>Qia h1 st q id s ts hst c2 (hs.ext y) ca hl hid hw hlo
 have rg:0<=(hi0 ts-lo0 ts)/(st:Int)/\(hi0 ts-lo0 ts)/(st:Int)<=1001:=⟨Int.ediv_nonneg hw.1 (by omega),by have:=Hh (st:Int) hw.1;omega⟩
 repeat' first|apply Qh|apply Qc|apply Qz|apply Qf|apply QU|apply Xl|apply Xm|(apply Qe;first|apply QR|apply Xu|refine Ye (by assumption) ?_|refine Qx rfl rfl ?_|refine Qq rfl rfl rfl ?_|refine QM rfl rfl rfl rfl rfl ?_)|(apply Qb;first|(refine Qr rfl ?_;intro h1 e1 c1;have x:=e1)|refine Qv rfl c1 ?_|(refine Qd rfl (k54 _ x) ?_;rintro v2 h2 ⟨e2,rfl⟩;replace x:=x.trans e2;replace c1:=c1.ext e2)|(refine Qd rfl (k53 _ x) ?_;rintro v3 h3 ⟨e3,rfl⟩;replace x:=x.trans e3;replace c1:=c1.ext e3)|refine QdT rfl rfl (by omega) ?_|(refine Q1 rfl rfl (by omega) ?_;rw[hq])|(have z:=hq;refine Qgx rfl rfl (by omega) ?_;intro h5 e5 b5;have c5:=c1.ext e5;have x5:=x.trans e5)|refine Qn rfl ?_|refine Yp rfl rfl (by omega) ?_|refine QG rfl rfl ?_)
 have hx:=c1.lt
 refine XJ (I68 h3 st h0.length h3.length ts) (XS ts st) (R68 h3 st h3.length ts) ⟨0,Gs _,rfl,e5,by rw[y9];exact b5,rfl⟩ (rl h3 h0.length h3.length c1 x (Ge _)) ?_
 rintro ex E' h6 ⟨rfl,x6,b6,_,_,_,_,_,rfl⟩
 repeat' first|apply Qh|apply Qc|apply Q8|apply Qs|apply Qf|(apply Qe;refine Qp rfl ?_)|(apply Qb;refine Qn rfl ?_)
 exact⟨.inr rfl,x.trans x6,h3.length,rfl,b6⟩
end Go.Proofs.YtofknpknogfijaaGreatDoor
namespace Go.Proofs.YtofknpknogfijaaGreatDoor
open Go.Ab
set_option linter.all false
variable [HB]
theorem QcY(l:List Tm)(e:Int):cf (shT l) e=cf l (e+lo0 l):=by
 unfold shT
 generalize lo0 l=low
 induction l with
 | nil=>rfl
 | cons t l ih =>
  rw[G8,YT,YT,ih]
  have:dl e (t.1-low)=dl (e+low) t.1:=by
   by_cases h:t.1=e+low
   ·rw[h,show e+low-low=e by omega,Yl,Yl]
   ·rw[Ze h,Ze (by omega)]
  rw[this]
theorem cf_sg(l:List Tm):∃ c:Int,(c=1∨c = -1)/\∀ e,cf (sgT l) e=c*cf l e:=by
 unfold sgT
 split
 ·refine⟨-1,.inr rfl,fun e=>?_⟩
  show S (dl e) _ = -1*S (dl e) l
  rw[S_ng];omega
 ·exact⟨1,.inl rfl,fun e=>(G5 _).symm⟩
theorem QkW{p:Pol}(hb:p.big=false)(h0:p.ts≠[]):∃ c:Int,(c=1∨c = -1)/\∀ e,cf (XP p).ts e=c*cf p.ts (e - -lo0 p.ts):=by
 obtain⟨c,hc,h⟩:=cf_sg p.ts
 refine⟨c,hc,fun e=>?_⟩
 unfold XP
 rw[if_neg (by rw[hb];simp[h0])]
 show cf (shT (sgT p.ts)) e=_
 rw[QcY,h,UY,show e - -lo0 p.ts=e+lo0 p.ts by omega]
theorem sg_ne{l:List Tm}(h:l≠[]):sgT l≠[]:=by
 unfold sgT
 split
 ·simpa using h
 ·exact h
theorem QkV{p:Pol}(k:Pok p)(hb:p.big=false)(h0:p.ts≠[]):Nf (cf (XP p).ts):=by
 have e:XP p=⟨false,shT (sgT p.ts)⟩:=by unfold XP;rw[if_neg (by rw[hb];simp[h0])]
 rw[e]
 have cs:=Qg4 k.can
 refine⟨fun e he=>?_,?_⟩
 ·rw[QcY]at he
  obtain⟨t,ht,h1⟩:=Z2 he
  have:=XF cs t ht
  omega
 ·show 0<cf (shT (sgT p.ts)) 0
  rw[QcY,Hw]
  have h1:=QjE p.ts
  have h2:=YV cs (sg_ne h0)
  rw[Qg3 cs]at h2 ⊢
  omega
theorem yr(p:Pol):(XP p).big=p.big:=by
 unfold XP
 split
 ·rfl
 ·rename_i h
  cases hb:p.big with
  | true=>exact absurd (.inl hb) h
  | false=>rfl
theorem QiD{p:Pol}(k:Pok p)(h0:p.ts≠[]){M:Int}(hr:∀ t∈p.ts,0<=t.1/\t.1<=M):∀ t∈(XP p).ts,0<=t.1/\t.1<=M:=by
 unfold XP
 split
 ·exact hr
 ·intro t ht
  obtain⟨u,hu,rfl⟩:=GA.1 (show t∈(sgT p.ts).map _ from ht)
  obtain⟨v,hv,e1,e2⟩:=UD hu
  have h1:=hr v hv
  have h2:=XF k.can v hv
  obtain⟨w,hw,e3⟩:=X7 h0
  have h3:=hr w hw
  show 0<=u.1-lo0 (sgT p.ts)/\u.1-lo0 (sgT p.ts)<=M
  rw[UY]
  omega
theorem qd{ts:List Tm}{st:Nat}:(JQ ts st).length=XS ts st:=by simp[JQ]
theorem QcX{ts:List Tm}{st i:Nat}(h:i<XS ts st):(JQ ts st).getD i 0=cf ts (lo0 ts+(i:Int)*st):=by
 unfold JQ
 rw[Gf,Gj,Gw h];rfl
theorem yI{ts:List Tm}{st:Nat}(ca:Can ts)(h0:ts≠[])(hst:0<st)(hd:∀ t∈ts,(st:Int) ∣ t.1-lo0 ts):((XS ts st:Int)-1)*st=hi0 ts-lo0 ts:=by
 obtain⟨t,ht,e⟩:=YH h0
 have h1:=hd t ht
 rw[e]at h1
 have h2:0<=hi0 ts-lo0 ts:=by have:=zR ca;omega
 have h3:0<=(hi0 ts-lo0 ts)/(st:Int):=Int.ediv_nonneg h2 (by omega)
 have:(XS ts st:Int)-1=(hi0 ts-lo0 ts)/(st:Int):=by unfold XS;omega
 rw[this,Int.ediv_mul_cancel h1]
theorem QaP{ts:List Tm}{st:Nat}(ca:Can ts)(h0:ts≠[])(hb:∀ t∈ts,t.2.natAbs<=cM)(hst:0<st)(hd:∀ t∈ts,(st:Int) ∣ t.1-lo0 ts):Lst (JQ ts st):=by
 have hN:0<XS ts st:=by unfold XS;omega
 refine⟨by rw[qd];exact hN,?_,?_,fun x hx=>?_⟩
 ·rw[QcX hN,Int.natCast_zero,GY,G2]
  exact YV ca h0
 ·rw[qd,QcX (by omega)]
  have:=yI ca h0 hst hd
  rw[show (((XS ts st-1:Nat):Nat):Int)=(XS ts st:Int)-1 by omega,this,show lo0 ts+(hi0 ts-lo0 ts)=hi0 ts by omega]
  exact qf ca h0
 ·obtain⟨i,-,rfl⟩:=GA.1 hx
  exact Vd ca hb _
theorem QgX{ts:List Tm}{st:Nat}(ca:Can ts)(h0:ts≠[])(hst:0<st)(hd:∀ t∈ts,(st:Int) ∣ t.1-lo0 ts)(e:Int):cf ts e=stF st (coF (JQ ts st)) (e-lo0 ts):=by
 unfold stF
 split
 ·rename_i hk
  obtain⟨k,hk⟩:=hk
  have hs0:(st:Int)≠0:=by omega
  rw[hk,Int.mul_ediv_cancel_left _ hs0]
  have hl:=yI ca h0 hst hd
  have ee:e=lo0 ts+k*st:=by rw[GX k];omega
  unfold coF
  by_cases hk0:0<=k
  ·rw[if_pos hk0]
   by_cases hkN:k.toNat<XS ts st
   ·rw[QcX hkN,show ((k.toNat:Nat):Int)=k by omega,← ee]
   ·rw[Gf,Gg (by rw[qd];omega)]
    refine XV fun t ht he=>?_
    have h1:=XM ca t ht
    have h2:((XS ts st:Int)-1+1)*st<=k*st:=Gy (by omega) (by omega)
    rw[Ho]at h2
    omega
  ·rw[if_neg hk0]
   refine XV fun t ht he=>?_
   have h1:=XF ca t ht
   have h2:k*(st:Int)<=(-1)*st:=Gy (by omega) (by omega)
   omega
 ·rename_i hk
  exact XV fun t ht he=>hk (by rw[← he];exact hd t ht)
def Qb1(p q:List Tm):List Int:=(shL (lo0 p) p++shL (lo0 q) q).map (·.1)
def X1(p q:List Tm):Nat:=max (Q2 (Qb1 p q)) 1
theorem Qa9(p q:List Tm):0<X1 p q:=by unfold X1;omega
theorem Qba{p q:List Tm}:(∀ t∈p,(X1 p q:Int) ∣ t.1-lo0 p)/\∀ t∈q,(X1 p q:Int) ∣ t.1-lo0 q:=by
 have key:∀ x∈Qb1 p q,(X1 p q:Int) ∣ x:=fun x hx=>by
  have h:=(YB (Qb1 p q) 0).2 x hx
  unfold X1
  rcases Nat.eq_zero_or_pos (Q2 (Qb1 p q)) with h0|h0
  ·rw[h0];exact Int.one_dvd x
  ·rw[show max (Q2 (Qb1 p q)) 1=Q2 (Qb1 p q) by omega];exact h
 refine⟨fun t ht=>key _ ?_,fun t ht=>key _ ?_⟩
 ·refine GA.2 ⟨(t.1-lo0 p,t.2),GD.2 (.inl ?_),rfl⟩
  exact GA.2 ⟨t,ht,rfl⟩
 ·refine GA.2 ⟨(t.1-lo0 q,t.2),GD.2 (.inr ?_),rfl⟩
  exact GA.2 ⟨t,ht,rfl⟩
def Jf(st:Nat)(R:List Int)(n:Nat):List Tm:=(List.range n).map fun i:Nat=>((i:Int)*st,R.getD i 0)
theorem Vx{st:Nat}{R:List Int}{n:Nat}:Jf st R (n+1)=Jf st R n++[((n:Int)*st,R.getD n 0)]:=by
 unfold Jf
 rw[List.range_succ,List.map_append];rfl
theorem Qdf{st:Nat}(hst:0<st){R:List Int}(e:Int):∀ n,S (dl e) (Jf st R n)=if (st:Int) ∣ e/\0<=e/(st:Int)/\e/(st:Int)<n then R.getD (e/(st:Int)).toNat 0 else 0
 | 0=>by rw[if_neg (by omega)];rfl
 | n+1=>by
  rw[Vx,qq,Qdf hst e n]
  show _+(R.getD n 0*dl e ((n:Int)*st)+0)=_
  by_cases h:(n:Int)*st=e
  ·subst h
   rw[Yl,Int.mul_ediv_cancel _ (by omega),if_neg (by omega),if_pos ⟨Hv _ _,by omega,by omega⟩,Int.toNat_natCast]
   omega
  ·rw[Ze h,GE,G2,G2]
   have hne:(st:Int) ∣ e->e/(st:Int)≠n:=fun hd h2=>h (by rw[← h2,Int.ediv_mul_cancel hd])
   by_cases h2:(st:Int) ∣ e/\0<=e/(st:Int)/\e/(st:Int)<n
   ·rw[if_pos h2,if_pos ⟨h2.1,h2.2.1,by omega⟩]
   ·rw[if_neg h2,if_neg fun h3=>h2 ⟨h3.1,h3.2.1,by have:=hne h3.1;omega⟩]
theorem QhR{st:Nat}(hst:0<st)(R:List Int)(e:Int):S (dl e) (Jf st R R.length)=stF st (coF R) e:=by
 rw[Qdf hst]
 unfold stF coF
 by_cases hd:(st:Int) ∣ e
 ·rw[if_pos hd]
  by_cases h0:0<=e/(st:Int)
  ·rw[if_pos h0]
   by_cases h1:e/(st:Int)<R.length
   ·rw[if_pos ⟨hd,h0,h1⟩]
   ·rw[if_neg fun h=>h1 h.2.2,Gf,Gg (by omega)];rfl
  ·rw[if_neg h0,if_neg fun h=>h0 h.2.1]
 ·rw[if_neg hd,if_neg fun h=>hd h.1]
structure GcdR(p q G:Pol):Prop where
 ok:Pok G
 nb:G.big=false
 nf:Nf (cf G.ts)
 gcd:IsGcd (cf p.ts) (cf q.ts) (cf G.ts)
 rng:∀ t∈G.ts,0<=t.1/\t.1<=300
theorem QiU{p q:Pol}(kp:Pok p)(kq:Pok q)(p0:p.ts≠[])(q0:q.ts≠[]){R:List Int}(cd:CDof (coF (JQ p.ts (X1 p.ts q.ts))) (coF (JQ q.ts (X1 p.ts q.ts))) (coF R)){P:Pol}(tP:TotOk (Jf (X1 p.ts q.ts) R R.length) P)(hb:P.big=false)(hr:∀ t∈P.ts,0<=t.1/\t.1<=300):GcdR p q (XP P):=by
 obtain⟨dp,dq⟩:=Qba (p:=p.ts) (q:=q.ts)
 have hst:=Qa9 p.ts q.ts
 generalize X1 p.ts q.ts=st at *
 have la:=QaP kp.can p0 kp.cf hst dp
 have g:=cd.gcd hst ⟨(0:Nat),by rw[ya];exact la.first⟩
 have ep:cf p.ts=fun e=>stF st (coF (JQ p.ts st)) (e-lo0 p.ts):=funext (QgX kp.can p0 hst dp)
 have eq:cf q.ts=fun e=>stF st (coF (JQ q.ts st)) (e-lo0 q.ts):=funext (QgX kq.can q0 hst dq)
 have eP:cf P.ts=stF st (coF R):=funext fun e=>by rw[tP.cs hb,QhR hst]
 have P0:P.ts≠[]:=fun h=>by
  have h1:=(g.units (lo0 p.ts) (lo0 q.ts) 0 1 (.inl rfl)).left
  rw[← ep,← eP,h]at h1
  exact YV kp.can p0 (h1.zero (fun e=>by show 1*cf [] _=0;rfl) _)
 obtain⟨c,hc,hn⟩:=QkW hb P0
 have sm:Sml P:=fun t ht=>by have:=hr t ht;omega
 refine⟨Qgc tP.ok sm,by rw[yr];exact hb,QkV tP.ok hb P0,?_,QiD tP.ok P0 hr⟩
 have h1:=g.units (lo0 p.ts) (lo0 q.ts) (-lo0 P.ts) c hc
 rw[← ep,← eq,← eP]at h1
 have e1:cf (XP P).ts=fun e=>c*cf P.ts (e - -lo0 P.ts):=funext hn
 rw[e1]
 exact h1
set_option maxHeartbeats 16000000
set_option maxRecDepth 20000
attribute [local irreducible] Qk wA Xv Xs QC Qu QP Q6
noncomputable def Yd(p q:Pol):Pol×Int:=open Classical in
 if p.big=true∨q.big=true then (Yf,9) else
 match q.ts with
 | []=>(Yf,2)
 | b :: q' => if p.ts = [] then (Yf, 0) else if q' = [] then U8 p.ts b else
   match dvR p.ts (b::q') cM eM with
   | some r=>(⟨false,r⟩,0)
   | none=>(Yf,10)
structure Sb(h0 h:Qa)(q2 q3 q4:Nat)(bp bq:Bool)(sp sq:SV):Prop where
 e:Ext h0 h
 c2:Cel h q2 (.bool bp) sp
 c3:Cel h q3 (.bool bq) sq
 c4:Cel h q4 (.bool false) .nilS
theorem Sb.ext{h0 h h':Qa}{q2 q3 q4:Nat}{bp bq:Bool}{sp sq:SV}(st:Sb h0 h q2 q3 q4 bp bq sp sq)(he:Ext h h'):Sb h0 h' q2 q3 q4 bp bq sp sq :=
 ⟨st.e.trans he,st.c2.ext he,st.c3.ext he,st.c4.ext he⟩
theorem Qbd{P Q:List Tm}{r:List Tm}{N Ln:Nat} :
  (∀ k<((smL (fun e=>cf P e-mc r Q e) (lo0 P) N).drop (Ln+1)).length,((smL (fun e=>cf P e-mc r Q e) (lo0 P) N).drop (Ln+1)).getD k 0=0)↔∀ k:Nat,Ln<k->k<N->rk P Q r k=0:=by
 rw[GW,Za]
 constructor
 ·intro h k h1 h2
  have:=h (k-(Ln+1)) (by omega)
  rw[Gf,GG,show Ln+1+(k-(Ln+1))=k by omega,Uh h2]at this
  exact this
 ·intro h k hk
  rw[Gf,GG,Uh (by omega)]
  exact h (Ln+1+k) (by omega) (by omega)
theorem QgU{P Q r:List Tm}{N Ln:Nat}(hN:(N:Int)=hi0 P-lo0 P+1)(hL:(Ln:Int)=dvN P Q)(h1:dvL P Q cM eM (Ln+1)=some r)(h2:∀ k:Nat,Ln<k->k<N->rk P Q r k=0):dvR P Q cM eM=some r:=by
 unfold dvR
 rw[if_neg (by omega),show (dvN P Q).toNat=Ln by omega,h1,Gi,if_pos fun k a b=>h2 k a (by omega)]
theorem Qe9{P Q:List Tm}{Ln:Nat}(hL:(Ln:Int)=dvN P Q)(h1:dvL P Q cM eM (Ln+1)=none):dvR P Q cM eM=none:=by
 unfold dvR
 rw[if_neg (by omega),show (dvN P Q).toNat=Ln by omega,h1];rfl
theorem Qe8{P Q r:List Tm}{N Ln:Nat}(hN:(N:Int)=hi0 P-lo0 P+1)(hL:(Ln:Int)=dvN P Q)(h1:dvL P Q cM eM (Ln+1)=some r)(h2:¬ ∀ k:Nat,Ln<k->k<N->rk P Q r k=0):dvR P Q cM eM=none:=by
 unfold dvR
 rw[if_neg (by omega),show (dvN P Q).toNat=Ln by omega,h1,Gi,if_neg fun h=>h2 fun k a b=>h k a (by omega)]
theorem Qc5(h0:Qa)(sp sq:SV)(P Q:Pol)(hp:IsD h0 sp (tms P.ts))(hq:IsD h0 sq (tms Q.ts))(kp:Pok P)(kq:Pok Q) :
  ∃ r h',Cal FT HKt 30 [.agg [.bool P.big,sp],.agg [.bool Q.big,sq]] h0 r h'/\Ext h0 h'/\Qfj h' r (Yd P Q).1 (Yd P Q).2:=by
 refine Cal.of (F:=a30) rfl rfl rfl ?_
 have lp:=hp.len
 have lq:=hq.len
 rw[QL]at lp lq
 by_cases hbp:P.big=true
 ·have e:Yd P Q=(Yf,9):=by unfold Yd;rw[if_pos (.inl hbp)]
  rw[e,hbp]
  repeat' first|apply Qh|apply Qc|apply QD|apply Qz|apply Xn|apply Qs|apply Qf|(apply Qg;refine Qi rfl ?_)|(apply Qe;first|refine Qx rfl rfl ?_|refine Qq rfl rfl rfl ?_|refine QA rfl rfl rfl rfl ?_)|(apply Qb;first|(have z:=e2;apply QQ;intro h3 e3 c3;have b3:Sb h0 h3 h0.length h1.length h2.length true Q.big sp sq:=⟨e1.trans (e2.trans e3),(c1.ext e2).ext e3,c2.ext e3,c3⟩)|(have z:=e1;refine Qr rfl ?_;intro h2 e2 c2)|(refine Qr rfl ?_;intro h1 e1 c1)|refine QB rfl b3.c2 ?_|(refine Xp rfl rfl ?_)|(have c4:=b3.c4;refine QZ rfl rfl c4 ?_;intro h4 w4)|refine Xa rfl ?_|refine Qn rfl ?_|refine QK rfl rfl ?_|refine Xt rfl rfl ?_)
  exact⟨.inr rfl,XL rfl w4.cel.read rfl ⟨w4.ext b3.e (Gh e1.len e2.len),.nilS,rfl,IsD.nil _⟩⟩
 have hbp':P.big=false:=by simpa using hbp
 rw[hbp']
 by_cases hbq:Q.big=true
 ·have e:Yd P Q=(Yf,9):=by unfold Yd;rw[if_pos (.inr hbq)]
  rw[e,hbq]
  repeat' first|apply Qh|apply Qc|apply QD|apply Qz|apply Xn|apply Qs|apply Qf|(apply Qg;refine Qi rfl ?_)|(apply Qe;first|refine Qx rfl rfl ?_|refine Qq rfl rfl rfl ?_|refine QA rfl rfl rfl rfl ?_)|(apply Qb;first|(have z:=e2;apply QQ;intro h3 e3 c3;have b3:Sb h0 h3 h0.length h1.length h2.length false true sp sq:=⟨e1.trans (e2.trans e3),(c1.ext e2).ext e3,c2.ext e3,c3⟩)|(have z:=e1;refine Qr rfl ?_;intro h2 e2 c2)|(refine Qr rfl ?_;intro h1 e1 c1)|refine QB rfl b3.c2 ?_|refine QB rfl b3.c3 ?_|(refine Xp rfl rfl ?_)|(have c4:=b3.c4;refine QZ rfl rfl c4 ?_;intro h4 w4)|refine QE rfl ?_|refine Qn rfl ?_|refine Qy rfl rfl ?_|refine Xt rfl rfl ?_)
  exact⟨.inr rfl,XL rfl w4.cel.read rfl ⟨w4.ext b3.e (Gh e1.len e2.len),.nilS,rfl,IsD.nil _⟩⟩
 have hbq':Q.big=false:=by simpa using hbq
 rw[hbq']
 have nb:¬(P.big=true∨Q.big=true):=fun h=>h.elim hbp hbq
 cases hqe:Q.ts with
 | nil =>
  have e:Yd P Q=(Yf,2):=by unfold Yd;rw[if_neg nb,hqe]
  rw[e]
  have lq0:Yv false sq=some 0:=by rw[lq,hqe];rfl
  repeat' first|apply Qh|apply Qc|apply QD|apply Qz|apply Xn|apply Qs|apply Qf|(apply Qg;first|refine Qi rfl ?_|refine Qj rfl ?_)|(apply Qe;first|refine Qx rfl rfl ?_|refine Qq rfl rfl rfl ?_|refine QA rfl rfl rfl rfl ?_)|(apply Qb;first|(have z:=e2;apply QQ;intro h3 e3 c3;have b3:Sb h0 h3 h0.length h1.length h2.length false false sp sq:=⟨e1.trans (e2.trans e3),(c1.ext e2).ext e3,c2.ext e3,c3⟩)|(have z:=e1;refine Qr rfl ?_;intro h2 e2 c2)|(refine Qr rfl ?_;intro h1 e1 c1)|refine QB rfl b3.c2 ?_|refine QB rfl b3.c3 ?_|refine Qt rfl b3.c3 ?_|refine QG rfl lq0 ?_|(refine Xp rfl rfl ?_)|(have c4:=b3.c4;refine QZ rfl rfl c4 ?_;intro h4 w4)|refine QE rfl ?_|refine Qn rfl ?_|refine Qy rfl rfl ?_|refine XC rfl rfl (by omega) ?_|refine Xt rfl rfl ?_)
  exact⟨.inr rfl,XL rfl w4.cel.read rfl ⟨w4.ext b3.e (Gh e1.len e2.len),.nilS,rfl,IsD.nil _⟩⟩
 | cons b q' =>
 have lqp:0<Q.ts.length:=by rw[hqe];simp
 have plen:=kp.len
 have qlen:=kq.len
 have hbm:b∈Q.ts:=by rw[hqe];exact .head _
 by_cases hpe:P.ts=[]
 ·have e:Yd P Q=(Yf,0):=by unfold Yd;rw[if_neg nb,hqe];simp only[if_pos hpe]
  rw[e]
  have lp0:Yv false sp=some 0:=by rw[lp,hpe];rfl
  repeat' first|apply Qh|apply Qc|apply QD|apply Qz|apply Xn|apply Qs|apply Qf|(apply Qg;first|refine Qi rfl ?_|refine Qj rfl ?_)|(apply Qe;first|refine Qx rfl rfl ?_|refine Qq rfl rfl rfl ?_|refine QA rfl rfl rfl rfl ?_)|(apply Qb;first|(have z:=e2;apply QQ;intro h3 e3 c3;have b3:Sb h0 h3 h0.length h1.length h2.length false false sp sq:=⟨e1.trans (e2.trans e3),(c1.ext e2).ext e3,c2.ext e3,c3⟩)|(have z:=e1;refine Qr rfl ?_;intro h2 e2 c2)|(refine Qr rfl ?_;intro h1 e1 c1)|refine QB rfl b3.c2 ?_|refine QB rfl b3.c3 ?_|refine Qt rfl b3.c3 ?_|refine Qt rfl b3.c2 ?_|refine QG rfl lp0 ?_|refine QG rfl lq ?_|(refine Xp rfl rfl ?_)|(have c4:=b3.c4;refine QZ rfl rfl c4 ?_;intro h4 w4)|refine QE rfl ?_|refine Qn rfl ?_|refine Qy rfl rfl ?_|refine XC rfl rfl (by omega) ?_|refine Xk rfl rfl (by omega) ?_|refine Xt rfl rfl ?_)
  exact⟨.inr rfl,XL rfl w4.cel.read rfl ⟨w4.ext b3.e (Gh e1.len e2.len),.nilS,rfl,IsD.nil _⟩⟩
 have lpp:0<P.ts.length:=List.length_pos_iff.2 hpe
 by_cases hq1:q'=[]
 ·have e:Yd P Q=U8 P.ts b:=by unfold Yd;rw[if_neg nb,hqe];simp only[if_neg hpe,if_pos hq1]
  rw[e]
  have lq1:Yv false sq=some 1:=by rw[lq,hqe,hq1];rfl
  have hql1:Q.ts.length=1:=by rw[hqe,hq1];rfl
  obtain⟨idq,offq,capq,eq,rq⟩:=hq.at (i:=0) (p:=tmP b) (by rw[hqe];rfl)
  rw[QL,hql1]at eq
  subst eq
  have k36:=fun H (e:Ext h0 H)=>Qly H sp false P.ts b (hp.ext e) (fun t ht=>⟨kp.cf t ht,kp.ex t ht⟩) plen ⟨kq.can.nz b hbm,kq.cf b hbm,kq.ex b hbm⟩
  generalize U8 P.ts b=D at *
  repeat' first|apply Qh|apply Qc|apply QD|apply Qz|apply Xn|apply Qs|apply Qf|apply QU|apply Xl|apply Xm|(apply Qg;first|refine Qi rfl ?_|refine Qj rfl ?_)|(apply Qe;first|apply QR|apply Xu|refine Qx rfl rfl ?_|refine Qq rfl rfl rfl ?_|refine QA rfl rfl rfl rfl ?_)|(apply Qb;first|(have z:=e2;apply QQ;intro h3 e3 c3;have b3:Sb h0 h3 h0.length h1.length h2.length false false sp _:=⟨e1.trans (e2.trans e3),(c1.ext e2).ext e3,c2.ext e3,c3⟩;have rq3:=QO b3.e rq)|(have z:=e1;refine Qr rfl ?_;intro h2 e2 c2)|(refine Qr rfl ?_;intro h1 e1 c1)|refine QB rfl b3.c2 ?_|refine QB rfl b3.c3 ?_|refine Qt rfl b3.c3 ?_|refine Qt rfl b3.c2 ?_|refine QG rfl lp ?_|refine QG rfl lq1 ?_|refine Qv rfl b3.c2 ?_|refine QJ (esz:=2) rfl rfl (by omega) ?_|refine XN rfl rq3 ?_|(refine Qd rfl (k36 h3 b3.e) ?_;rintro r h4 ⟨e4,s,rfl,is4⟩;have b4:=b3.ext e4)|(have c4:=b4.c4;refine QZ rfl rfl c4 ?_;intro h5 w5)|refine QE rfl ?_|refine Qn rfl ?_|refine Qy rfl rfl ?_|refine XC rfl rfl (by omega) ?_|refine Xk rfl rfl (by omega) ?_|refine Xt rfl rfl ?_)
  exact⟨.inr rfl,XL rfl w5.cel.read rfl ⟨w5.ext b4.e (Gh e1.len e2.len),s,rfl,is4.wrC w5⟩⟩
 have e:Yd P Q=match dvR P.ts Q.ts cM eM with
  | some r=>(⟨false,r⟩,0)
  | none=>(Yf,10):=by unfold Yd;rw[if_neg nb,hqe];simp only[if_neg hpe,if_neg hq1]
 have lq2:2<=Q.ts.length:=by
  rw[hqe]
  cases q' with
  | nil=>exact absurd rfl hq1
  | cons a b=>simp
 have kpl:=kp.lo
 have kql:=kq.lo
 have k27p:=fun H (e:Ext h0 H)=>Y2 H false sp P.ts (hp.ext e)
 have k27q:=fun H (e:Ext h0 H)=>Y2 H false sq Q.ts (hq.ext e)
 have k28p:=fun H (e:Ext h0 H)=>zw H false sp P.ts (hp.ext e) plen
 have k28q:=fun H (e:Ext h0 H)=>zw H false sq Q.ts (hq.ext e) qlen
 have hdn:dvN P.ts Q.ts=hi0 P.ts-lo0 P.ts-(hi0 Q.ts-lo0 Q.ts):=rfl
 by_cases hneg:dvN P.ts Q.ts<0
 ·have e2:dvR P.ts Q.ts cM eM=none:=by unfold dvR;rw[if_pos hneg]
  rw[e2]at e
  rw[e]
  rw[hdn]at hneg
  repeat' first|apply Qh|apply Qc|apply QD|apply Qz|apply QV|apply Qm|apply Qs|apply Qf|apply QU|apply Xl|apply Xm|(apply Qg;first|refine Qi rfl ?_|refine Qj rfl ?_)|(apply Qe;first|apply QR|apply Xu|refine Ye (by assumption) ?_|refine Qx rfl rfl ?_|refine Qq rfl rfl rfl ?_|refine QA rfl rfl rfl rfl ?_|refine QM rfl rfl rfl rfl rfl ?_)|(apply Qb;first|(have z:=e2;apply QQ;intro h3 e3 c3;have b3:Sb h0 h3 h0.length h1.length h2.length false false sp sq:=⟨e1.trans (e2.trans e3),(c1.ext e2).ext e3,c2.ext e3,c3⟩)|(have z:=e1;refine Qr rfl ?_;intro h2 e2 c2)|(refine Qr rfl ?_;intro h1 e1 c1)|refine QB rfl b3.c2 ?_|refine QB rfl b3.c3 ?_|refine Qt rfl b3.c3 ?_|refine Qt rfl b3.c2 ?_|refine QG rfl lp ?_|refine QG rfl lq ?_|refine Qv rfl b3.c2 ?_|(refine Qd rfl (k28p h3 b3.e) ?_;rintro r h5 ⟨e5,rfl⟩;have b5:=b3.ext e5)|refine Qv rfl b5.c2 ?_|(refine Qd rfl (k27p h5 b5.e) ?_;rintro r h6 ⟨e6,rfl⟩;have b6:=b5.ext e6)|refine Qv rfl b6.c3 ?_|(refine Qd rfl (k28q h6 b6.e) ?_;rintro r h7 ⟨e7,rfl⟩;have b7:=b6.ext e7)|refine Qv rfl b7.c3 ?_|(refine Qd rfl (k27q h7 b7.e) ?_;rintro r h8 ⟨e8,rfl⟩;have b8:=b7.ext e8)|(refine Xp rfl rfl ?_)|(have c4:=b8.c4;refine QZ rfl rfl c4 ?_;intro h9 w9)|refine QE rfl ?_|refine Qn rfl ?_|refine Qy rfl rfl ?_|refine Yp rfl rfl (by omega) ?_|refine QH rfl rfl (by omega) ?_|refine Xk rfl rfl (by omega) ?_|refine Xt rfl rfl ?_)
  exact⟨.inr rfl,XL rfl w9.cel.read rfl ⟨w9.ext b8.e (Gh e1.len e2.len),.nilS,rfl,IsD.nil _⟩⟩
 obtain⟨Ln,hL⟩:∃ n:Nat,(n:Int)=dvN P.ts Q.ts:=⟨(dvN P.ts Q.ts).toNat,by omega⟩
 obtain⟨N,hN⟩:∃ n:Nat,(n:Int)=hi0 P.ts-lo0 P.ts+1:=⟨(hi0 P.ts-lo0 P.ts+1).toNat,by omega⟩
 have hL2:=hL
 rw[hdn]at hL
 repeat' first|apply Qh|apply Qc|apply Qz|apply QV|apply Qm|apply Qf|apply QU|apply Xl|apply Xm|(apply Qg;refine Qj rfl ?_)|(apply Qe;first|apply QR|apply Xu|refine Ye (by assumption) ?_|refine Qq rfl rfl rfl ?_|refine QA rfl rfl rfl rfl ?_|refine QM rfl rfl rfl rfl rfl ?_|refine Xh rfl rfl rfl rfl rfl rfl rfl rfl ?_)|(apply Qb;first|(have z:=e2;apply QQ;intro h3 e3 c3;have b3:Sb h0 h3 h0.length h1.length h2.length false false sp sq:=⟨e1.trans (e2.trans e3),(c1.ext e2).ext e3,c2.ext e3,c3⟩;have l4:=Gh e1.len e2.len)|(have z:=e1;refine Qr rfl ?_;intro h2 e2 c2)|(refine Qr rfl ?_;intro h1 e1 c1)|refine QB rfl b3.c2 ?_|refine QB rfl b3.c3 ?_|refine Qt rfl b3.c3 ?_|refine Qt rfl b3.c2 ?_|refine QG rfl lp ?_|refine QG rfl lq ?_|refine Qv rfl b3.c2 ?_|(refine Qd rfl (k28p h3 b3.e) ?_;rintro r h5 ⟨e5,rfl⟩;have b5:=b3.ext e5)|refine Qv rfl b5.c2 ?_|(refine Qd rfl (k27p h5 b5.e) ?_;rintro r h6 ⟨e6,rfl⟩;have b6:=b5.ext e6)|refine Qv rfl b6.c3 ?_|(refine Qd rfl (k28q h6 b6.e) ?_;rintro r h7 ⟨e7,rfl⟩;have b7:=b6.ext e7)|refine Qv rfl b7.c3 ?_|(refine Qd rfl (k27q h7 b7.e) ?_;rintro r h8 ⟨e8,rfl⟩;have b8:=b7.ext e8)|(have z:=e8;refine Yp rfl rfl (by omega) ?_;rw[← hL])|refine Qv rfl b8.c2 ?_|(refine Qd rfl (k28p h8 b8.e) ?_;rintro r h9 ⟨e9,rfl⟩;have b9:=b8.ext e9)|refine Qv rfl b9.c2 ?_|(refine Qd rfl (k27p h9 b9.e) ?_;rintro r hA ⟨eA,rfl⟩;have bA:=b9.ext eA)|(have z:=eA;refine Q1 rfl rfl (by omega) ?_;rw[← hN])|(refine zW bA.e rfl rfl (by simp only[Yh];omega) ?_;intro S hB oB eB xB lB;have bB:=bA.ext eB)|refine Qt rfl bB.c2 ?_|refine QE rfl ?_|refine Qn rfl ?_|refine Qy rfl rfl ?_|refine Yp rfl rfl (by omega) ?_|refine QW rfl rfl (by omega) ?_|refine Xk rfl rfl (by omega) ?_|refine Xt rfl rfl ?_)
 have sB:Sa h0 hB h0.length h1.length h2.length sp sq S (smL (fun e=>cf (P.ts.take 0) e) (lo0 P.ts) N):=by
  refine⟨bB.e,bB.c2,bB.c3,bB.c4,?_⟩
  have:(smL (fun e=>cf (P.ts.take 0) e) (lo0 P.ts) N).map wdP=List.replicate (N:Int).toNat (SV.int IntKind.u64 0,SV.int IntKind.u64 0):=by
   refine List.ext_getElem (by simp[smL]) fun k h1 h2=>?_
   simp only[smL,List.take_zero,List.map_map,List.getElem_map,List.getElem_replicate]
   rfl
  rw[this]
  exact oB.weaken bA.e.len
 refine YK (I30a h0 h0.length h1.length h2.length sp sq S P.ts N Ln) (cK [2,3,4,6,7,75,76,77] P.ts.length 77) (R30a h0 h0.length h1.length h2.length sp sq S P.ts N Ln) ⟨0,Gs _,sB,rfl⟩ (QfK h0 h0.length h1.length h2.length sp sq S P.ts N Ln hp kp.can (fun t ht=>⟨kp.cf t ht,kp.ex t ht⟩) plen (fun t ht=>by have:=XM kp.can t ht;omega) (by simp only[eM];omega)) ?_
 rintro ex E' hC ⟨rfl,_,_,_,_,sC,rfl⟩
 repeat' first|apply Qh|apply Qc|apply Qz|apply Q8|apply Qf|(apply Qe;first|refine Q7 rfl rfl rfl rfl rfl rfl ?_|refine Xh rfl rfl rfl rfl rfl rfl rfl rfl ?_)|(apply Qb;first|(apply QQ;intro hD eD cD;have sD:=sC.ext eD)|refine Qn rfl ?_|refine Q1 rfl rfl (by omega) ?_)
 have m2:=sC.c2.lt
 have m3:=sC.c3.lt
 have m4:=sC.c4.lt
 have mE:=sC.e.len
 have stD:St30 h0 hD h0.length h1.length h2.length hC.length sp sq S .nilS (smL (fun e=>cf P.ts e-mc [] Q.ts e) (lo0 P.ts) N) []:=by
  refine⟨?_,cD,.inl ⟨rfl,rfl⟩,fun j => .inl (fun o n c e=>by cases e)⟩
  have:smL (fun e=>cf P.ts e-mc [] Q.ts e) (lo0 P.ts) N=smL (fun e=>cf P.ts e) (lo0 P.ts) N:=Y4 fun e=>by simp only[QcD];omega
  rw[this];exact sD
 refine YK (I30b h0 h0.length h1.length h2.length hC.length sp sq S P.ts Q.ts N Ln) (cK [2,3,4,6,7,10,93,94] (Ln+1) 94) (R30b h0 h0.length h1.length h2.length hC.length sp sq S P.ts Q.ts N Ln) ⟨0,[],.nilS,Gs _,rfl,stD,rfl⟩ (QfJ h0 h0.length h1.length h2.length hC.length sp sq S P Q N Ln hp hq kp kq b q' hqe hN hL2 l4 ⟨mE,by omega,by omega,by omega⟩) ?_
 rintro ex E' hE (⟨rfl,r,s,_,_,_,hdv,st,rfl⟩|⟨rfl,hdv,xE,c4E,rfl⟩)
 ·have hq0:Q.ts≠[]:=by rw[hqe];simp
  generalize hvs:smL (fun e=>cf P.ts e-mc r Q.ts e) (lo0 P.ts) N=vs at *
  have hvl:vs.length=N:=by rw[← hvs,Za]
  have hsl:∀ s',IsD hE s' ((vs.map wdP).drop ((Ln:Int)+1).toNat)->IsD hE s' ((vs.drop (Ln+1)).map wdP)/\Yv false s'=some (((vs.drop (Ln+1)).length:Nat):Int):=fun s' h=>by
   rw[show ((Ln:Int)+1).toNat=Ln+1 by omega,← List.map_drop]at h
   exact⟨h,by have:=h.len;rwa [Gp]at this⟩
  repeat' first|apply Qh|apply Qc|apply Qz|apply Q8|apply Qf|(apply Qe;refine QM rfl rfl rfl rfl rfl ?_)|(apply Qb;first|(refine k_slD st.a.o rfl rfl (by rw[Gp];omega) ?_;intro s' is';obtain⟨is2,ls2⟩:=hsl s' is')|refine QG rfl ls2 ?_|refine Qn rfl ?_|refine Q1 rfl rfl (by omega) ?_)
  refine YK (I30d h0 hE h2.length hC.length s' (vs.drop (Ln+1))) (cK [4,10,170,171,172] (vs.drop (Ln+1)).length 172) (R30d h0 hE h2.length hC.length (vs.drop (Ln+1))) ⟨0,Gs _,fun k hk=>absurd hk (Nat.not_lt_zero _),Ext.refl _,rfl⟩ (QfH h0 hE h2.length hC.length s' (vs.drop (Ln+1)) is2 st.a.e st.a.c4 l4 (fun v hv=>by
   have:=List.mem_of_mem_drop hv
   rw[← hvs]at this
   obtain⟨k,hk,rfl⟩:=GA.1 this
   exact Qbh kp kq hq0 hdv (by omega) _) (by rw[GW];omega)) ?_
  rintro ex E' hF (⟨rfl,_,_,_,_,hz,xF,rfl⟩|⟨rfl,hnz,xF,c4F,rfl⟩)
  ·have cXF:=st.cX.ext xF
   have c4F:=st.a.c4.ext xF
   repeat' first|apply Qh|apply Qc|apply Q8|apply Qs|apply Qf|(apply Qe;refine Qx rfl rfl ?_)|(apply Qb;first|refine Qv rfl cXF ?_|(refine QZ rfl rfl c4F ?_;intro hG wG)|refine Qn rfl ?_)
   rw[← hvs,Qbd]at hz
   rw[e,QgU hN hL2 hdv hz]
   exact⟨.inr rfl,XL rfl wG.cel.read rfl ⟨wG.ext (st.a.e.trans xF) l4,s,rfl,((st.os.ext xF).wrC wG).is⟩⟩
  ·repeat' first|apply QD|apply Xn
   rw[← hvs,Qbd]at hnz
   rw[e,Qe8 hN hL2 hdv hnz]
   exact⟨.inr rfl,XL rfl c4F.read rfl ⟨xF,.nilS,rfl,IsD.nil _⟩⟩
 ·repeat' first|apply QD|apply Xn
  rw[e,Qe9 hL2 hdv]
  exact⟨.inr rfl,XL rfl c4E.read rfl ⟨xE,.nilS,rfl,IsD.nil _⟩⟩
end Go.Proofs.YtofknpknogfijaaGreatDoor
namespace Go.Proofs.YtofknpknogfijaaGreatDoor
open Go.Ab
set_option linter.all false
variable [HB]
theorem U5{p s q:List Tm}(hp:Can p)(hq:Can q)(h0:q≠[])(hs:Can s)(hs0:s≠[])(hm:∀ e,cf p e=mc s q e):p≠[]/\lo0 p=lo0 s+lo0 q/\hi0 p=hi0 s+hi0 q:=by
 have hp0:p≠[]:=fun e=>by
  have h1:=hm (lo0 s+lo0 q)
  rw[y5 hs hq,e]at h1
  exact GN (YV hs hs0) (YV hq h0) h1.symm
 refine⟨hp0,?_,?_⟩
 ·have h1:cf p (lo0 s+lo0 q)≠0:=by
   rw[hm,y5 hs hq];exact GN (YV hs hs0) (YV hq h0)
  obtain⟨t,t1,t2⟩:=Z2 h1
  have h2:=XF hp t t1
  have h3:=YV hp hp0
  rw[hm]at h3
  obtain⟨a,a1,b,b1,e⟩:=QbA h3
  have:=XF hs a a1
  have:=XF hq b b1
  omega
 ·have h1:cf p (hi0 s+hi0 q)≠0:=by
   rw[hm,Qaw hs hq];exact GN (qf hs hs0) (qf hq h0)
  obtain⟨t,t1,t2⟩:=Z2 h1
  have h2:=XM hp t t1
  have h3:=qf hp hp0
  rw[hm]at h3
  obtain⟨a,a1,b,b1,e⟩:=QbA h3
  have:=XM hs a a1
  have:=XM hq b b1
  omega
theorem QcZ{b:Tm}(hb:b.2≠0):∀ {s:List Tm},(∀ t∈s,b.2 ∣ t.2)->∀ e,b.2*cf (s.map (dvT b)) e=cf s (e+b.1)
 | [],_,e=>by simp[cf,S]
 | t::s,h,e=>by
  have ih:=QcZ hb (s:=s) (fun u hu=>h u (.tail _ hu)) e
  rw[G8,YT,YT,Hj,ih]
  congr 1
  simp only[dvT]
  rw[← GB,Hq (h t (.head _))]
  congr 1
  by_cases hh:t.1=e+b.1
  ·rw[hh,Yl,show e+b.1-b.1=e by omega,Yl]
  ·rw[Ze hh,Ze (by omega)]
theorem Qea{b:Tm}(hb:b.2≠0){s:List Tm}(hs:Can s)(h:∀ t∈s,b.2 ∣ t.2):Can (s.map (dvT b)):=by
 refine⟨List.pairwise_map.2 (hs.asc.imp fun {x y} hxy=>by simp only[dvT];omega),fun t ht=>?_⟩
 obtain⟨u,hu,rfl⟩:=GA.1 ht
 intro e
 have h1:=Int.ediv_mul_cancel (h u hu)
 have e':u.2/b.2=0:=e
 rw[e']at h1
 exact hs.nz u hu (by omega)
theorem y4(r:List Tm)(b:Tm)(e:Int):mc r [b] e=b.2*cf r (e-b.1):=by rw[yy,Qav]
theorem QcV{P:Pol}{b:Tm}(kp:Pok P)(hb:b.2≠0)(h:∀ t∈P.ts,Qb8 b t):Pok ⟨false,P.ts.map (dvT b)⟩/\∀ e,mc (P.ts.map (dvT b)) [b] e=cf P.ts e:=by
 refine⟨⟨by simp,Qea hb kp.can fun t ht=>(h t ht).1,fun t ht=>?_,fun t ht=>?_⟩,fun e=>?_⟩
 ·obtain⟨u,hu,rfl⟩:=GA.1 ht
  have:=kp.cf u hu
  have h2:(u.2/b.2).natAbs<=u.2.natAbs:=by rw[← Int.tdiv_eq_ediv_of_dvd (h u hu).1,Int.natAbs_tdiv];exact Nat.div_le_self _ _
  exact Gh h2 this
 ·obtain⟨u,hu,rfl⟩:=GA.1 ht
  exact(h u hu).2
 ·rw[y4,QcZ hb (fun t ht=>(h t ht).1),show e-b.1+b.1=e by omega]
theorem Vs{s p:List Tm}{b:Tm}(hs:Can s)(hp:Can p)(hb:b.2≠0)(hx:∀ t∈p,t.1.natAbs<=eM)(hm:∀ e,cf s e=mc p [b] e):(∀ t∈s,Qb8 b t)/\s.map (dvT b)=p:=by
 have key:∀ t∈s,Qb8 b t:=fun t ht=>by
  have h1:=hm t.1
  rw[YQ hs ht,y4]at h1
  refine⟨⟨_,h1⟩,?_⟩
  have h2:cf p (t.1-b.1)≠0:=fun e=>by rw[e,GE]at h1;exact hs.nz t ht h1
  obtain⟨u,hu,e⟩:=Z2 h2
  rw[← e];exact hx u hu
 refine⟨key,Can.ext (Qea hb hs fun t ht=>(key t ht).1) hp fun e=>?_⟩
 have h1:=QcZ hb (fun t ht=>(key t ht).1) e
 rw[hm,y4,show e+b.1-b.1=e by omega]at h1
 exact Int.eq_of_mul_eq_mul_left hb h1
theorem QcW{P Q:Pol}(kp:Pok P)(kq:Pok Q)(hP:P.big=false)(hQ:Q.big=false)(q0:Q.ts≠[]) :
  ((Yd P Q).2=0/\Pok (Yd P Q).1/\(Yd P Q).1.big=false/\∀ e,mc (Yd P Q).1.ts Q.ts e=cf P.ts e)∨Yd P Q=(Yf,10):=by
 have nb:¬(P.big=true∨Q.big=true):=by simp[hP,hQ]
 cases hq:Q.ts with
 | nil=>exact absurd hq q0
 | cons b q' =>
 have hbm:b∈Q.ts:=by rw[hq];exact .head _
 have bnz:=kq.can.nz b hbm
 by_cases p0:P.ts=[]
 ·have e:Yd P Q=(Yf,0):=by unfold Yd;rw[if_neg nb,hq];simp only[if_pos p0]
  rw[e]
  exact .inl ⟨rfl,JS,rfl,fun e=>by rw[p0];rfl⟩
 by_cases q1:q'=[]
 ·have e:Yd P Q=U8 P.ts b:=by unfold Yd;rw[if_neg nb,hq];simp only[if_neg p0,if_pos q1]
  rw[e]
  subst q1
  unfold U8
  by_cases h:∀ t∈P.ts,Qb8 b t
  ·rw[if_pos h]
   obtain⟨a,c⟩:=QcV kp bnz h
   exact .inl ⟨rfl,a,rfl,c⟩
  ·rw[if_neg h];exact .inr rfl
 have e:Yd P Q=match dvR P.ts Q.ts cM eM with
  | some r=>(⟨false,r⟩,0)
  | none=>(Yf,10):=by unfold Yd;rw[if_neg nb,hq];simp only[if_neg p0,if_neg q1];try (cases dvR P.ts (b::q') cM eM <;> rfl)
 rw[e]
 cases hd:dvR P.ts Q.ts cM eM with
 | none=>exact .inr rfl
 | some r =>
  obtain⟨a,b,c⟩:=QgS kp.can kq.can q0 hd
  rw[← hq]
  exact .inl ⟨rfl,⟨by simp,a,fun t ht=>(b t ht).1,fun t ht=>(b t ht).2⟩,rfl,c⟩
theorem qJ{S P Q:Pol}(ks:Pok S)(kp:Pok P)(kq:Pok Q)(hS:S.big=false)(hP:P.big=false)(hQ:Q.big=false)(q0:Q.ts≠[])(hm:∀ e,cf S.ts e=mc P.ts Q.ts e):Yd S Q=(P,0):=by
 have nb:¬(S.big=true∨Q.big=true):=by simp[hS,hQ]
 cases hq:Q.ts with
 | nil=>exact absurd hq q0
 | cons b q' =>
 have hbm:b∈Q.ts:=by rw[hq];exact .head _
 have bnz:=kq.can.nz b hbm
 by_cases p0:P.ts=[]
 ·have s0:S.ts=[]:=Can.ext ks.can .nil fun e=>by rw[hm,p0];rfl
  unfold Yd
  rw[if_neg nb,hq]
  simp only[if_pos s0]
  cases P;simp_all [Yf]
 obtain⟨s0,-,-⟩:=U5 ks.can kq.can q0 kp.can p0 hm
 by_cases q1:q'=[]
 ·have e:Yd S Q=U8 S.ts b:=by unfold Yd;rw[if_neg nb,hq];simp only[if_neg s0,if_pos q1]
  rw[e]
  subst q1
  rw[hq]at hm
  obtain⟨h1,h2⟩:=Vs ks.can kp.can bnz kp.ex hm
  unfold U8
  rw[if_pos h1,h2]
  cases P;simp_all
 have e:Yd S Q=match dvR S.ts Q.ts cM eM with
  | some r=>(⟨false,r⟩,0)
  | none=>(Yf,10):=by unfold Yd;rw[if_neg nb,hq];simp only[if_neg s0,if_neg q1];try (cases dvR S.ts (b::q') cM eM <;> rfl)
 rw[e,Qb7 ks.can kq.can q0 kp.can p0 (fun t ht=>⟨kp.cf t ht,kp.ex t ht⟩) hm]
 cases P;simp_all
theorem QiK{P Q:Pol}(kp:Pok P)(kq:Pok Q)(h:(Y6 P Q).big=false):∀ e,cf (Y6 P Q).ts e=mc P.ts Q.ts e:=fun e=>by
 unfold Y6 at h ⊢
 split
 ·rename_i h1;rw[if_pos h1]at h;simp[YI]at h
 rename_i h1
 rw[if_neg h1]at h
 split
 ·rename_i h2
  rcases h2 with h2|h2
  ·rw[h2];rfl
  ·rw[h2,yx];rfl
 rename_i h2
 rw[if_neg h2]at h
 split
 ·rename_i h3;rw[if_pos h3]at h;simp[YI]at h
 rename_i h3
 rw[if_neg h3]at h
 split
 ·exact Qi0 (Qat kp.can kq.can) e
 ·rename_i h4;rw[if_neg h4]at h;simp[YI]at h
set_option maxHeartbeats 2000000
theorem zq(l:List Tm)(e:Int):mulT l UQ e=cf l e:=by
 induction l with
 | nil=>rfl
 | cons t l ih =>
  rw[YT,← ih]
  show t.2*UQ (e-t.1)+_=_
  congr 2
  unfold UQ dl
  by_cases h:t.1=e
  ·rw[if_pos (by omega),if_pos h]
  ·rw[if_neg (by omega),if_neg h]
theorem Qfh{a b:List Tm}(hab:∀ e,cf a e=cf b e)(f:Int->Int)(e:Int):mulT a f e=mulT b f e:=by
 obtain⟨a',a1,a2⟩:=JL (a++scT (-1) b)
 have hz:∀ e,mulT a' UQ e=0:=fun e=>by
  rw[a2,XH,Yi,zq,zq,hab];omega
 have hall:∀ u∈a',u.2=0:=by
  refine Classical.byContradiction fun h=>?_
  obtain⟨t,ht,b1,b2,-⟩:=ZY zr0 (g:=UQ) (j:=0) (by decide) (fun e he=>Qan (by omega)) a' a1 (Classical.byContradiction fun h2=>h fun u hu=>Decidable.byContradiction fun h3=>h2 ⟨u,hu,h3⟩)
  exact b2 (hz _)
 have h0:mulT a' f e=0:=by
  clear a1 a2 hz
  induction a' with
  | nil=>rfl
  | cons t s ih =>
   simp only[mulT]
   rw[hall t (.head _),ih fun u hu=>hall u (.tail _ hu)];simp
 rw[a2,XH,Yi]at h0
 omega
theorem zr{d p:Int->Int}(h:Dv d p):∃ S:List Tm,Can S/\∀ e,p e=mulT S d e:=by
 obtain⟨s,hs⟩:=h
 obtain⟨s',a1,a2⟩:=JL s
 refine⟨s'.filter fun t=>decide (t.2≠0),⟨a1.filter _,fun t ht=>by simpa using (List.mem_filter.1 ht).2⟩,fun e=>?_⟩
 rw[hs,← a2]
 clear a1 a2
 induction s' with
 | nil=>rfl
 | cons t l ih =>
  by_cases h0:t.2=0
  ·rw[List.filter_cons_of_neg (by simpa using h0),← ih]
   show t.2*d (e-t.1)+_=_
   rw[h0,GY,Hw]
  ·rw[List.filter_cons_of_pos (by simpa using h0)]
   show t.2*d (e-t.1)+mulT l d e=t.2*d (e-t.1)+_
   rw[ih]
theorem Zp{a b:Int}(hb:b≠0):a.natAbs<=(a*b).natAbs:=by
 rw[He];exact Nat.le_mul_of_pos_right _ (by omega)
theorem QcA{a b:Int}{A B:Nat}(ha:a.natAbs<=A)(hb:b.natAbs<=B):(a*b).natAbs<=A*B:=by
 rw[He];exact Nat.mul_le_mul ha hb
theorem Qae{P x y a b:Int}{A:Nat}(hP:P.natAbs<=48)(E:P=x*a+y*b)(hx:x.natAbs<=A)(ha:a.natAbs<=48)(hb:b≠0):y.natAbs<=48+A*48:=by
 have h1:=Zp (a:=y) hb
 have h2:=QcA hx ha
 generalize x*a=u at *
 generalize y*b=v at *
 omega
theorem Qlh{s g P:Nat->Int}{m n:Nat}(hmn:m+n<=4)(hs:∀ i,m<i->s i=0)(hg:∀ j,n<j->g j=0)(s0:s 0≠0)(sm:s m≠0)(g0:g 0≠0)(gn:g n≠0)(hP:∀ k,(P k).natAbs<=48)
  (E0:P 0=s 0*g 0) (E1:P 1=s 0*g 1+s 1*g 0) (E2:P 2=s 0*g 2+s 1*g 1+s 2*g 0) (E3:P 3=s 0*g 3+s 1*g 2+s 2*g 1+s 3*g 0) (E4:P 4=s 0*g 4+s 1*g 3+s 2*g 2+s 3*g 1+s 4*g 0) (i:Nat):(s i).natAbs<=300000000:=by
 have b0:(s 0).natAbs<=48:=Gh (Zp g0) (by rw[← E0];exact hP 0)
 have c0:(g 0).natAbs<=48:=Gh (Zp s0) (by rw[GX,← E0];exact hP 0)
 have hz:∀ j,2<=j->n<=1->g j=0:=fun j h1 h2=>hg j (Nat.lt_of_le_of_lt h2 h1)
 have cs:n=0∨n=1∨(m=0/\n=2)∨(m=0/\n=3)∨(m=0/\n=4)∨(m=1/\n=2)∨(m=1/\n=3)∨(m=2/\n=2):=by clear E0 E1 E2 E3 E4;omega
 have ci:i=0∨i=1∨i=2∨i=3∨i=4∨m<i:=by clear E0 E1 E2 E3 E4;omega
 have hm:n=1->m=0∨m=1∨m=2∨m=3:=fun h=>by clear E0 E1 E2 E3 E4;omega
 by_cases hn:n<=1
 ·rw[hz 2 (by decide) hn]at E2 E3 E4
  rw[hz 3 (by decide) hn]at E3 E4
  rw[hz 4 (by decide) hn]at E4
  simp only[GE,G2,Hw]at E2 E3 E4
  have c1:(g 1).natAbs<=48:=by
   by_cases h1:n=1
   ·rw[h1]at gn
    have top:(s m*g 1).natAbs<=48:=by
     rcases hm h1 with rfl|rfl|rfl|rfl
     ·rw[hs 1 (by decide),GY,G2]at E1;rw[← E1];exact hP 1
     ·rw[hs 2 (by decide),GY,G2]at E2;rw[← E2];exact hP 2
     ·rw[hs 3 (by decide),GY,G2]at E3;rw[← E3];exact hP 3
     ·rw[hs 4 (by decide),GY,G2]at E4;rw[← E4];exact hP 4
    exact Gh (Zp sm) (by rw[GX];exact top)
   ·rw[hg 1 (Nat.lt_of_le_of_ne hn h1)];decide
  have d1:=Qae (hP 1) E1 b0 c1 g0
  have d2:=Qae (hP 2) E2 d1 c1 g0
  have d3:=Qae (hP 3) E3 d2 c1 g0
  have d4:=Qae (hP 4) E4 d3 c1 g0
  rcases ci with rfl|rfl|rfl|rfl|rfl|h
  ·exact Gh b0 (by decide)
  ·exact Gh d1 (by decide)
  ·exact Gh d2 (by decide)
  ·exact Gh d3 (by decide)
  ·exact Gh d4 (by decide)
  ·rw[hs i h];decide
 ·by_cases hi:m<i
  ·rw[hs i hi];decide
  have l0:m=0->(s i).natAbs<=300000000:=fun h=>by
   have:i=0:=by clear E0 E1 E2 E3 E4;omega
   rw[this];exact Gh b0 (by decide)
  have l1:m=1->(s 1).natAbs<=48->(s i).natAbs<=300000000:=fun h h2=>by
   have:i=0∨i=1:=by clear E0 E1 E2 E3 E4;omega
   rcases this with h3|h3 <;> rw[h3]
   ·exact Gh b0 (by decide)
   ·exact Gh h2 (by decide)
  rcases cs with h|h|⟨h,-⟩|⟨h,-⟩|⟨h,-⟩|⟨rfl,rfl⟩|⟨rfl,rfl⟩|⟨rfl,rfl⟩
  ·exact absurd (by rw[h];decide) hn
  ·exact absurd (by rw[h];decide) hn
  ·exact l0 h
  ·exact l0 h
  ·exact l0 h
  ·rw[hg 3 (by decide),hs 2 (by decide),hs 3 (by decide)]at E3
   simp only[GY,GE,G2,Hw]at E3
   exact l1 rfl (Gh (Zp gn) (by rw[← E3];exact hP 3))
  ·rw[hg 4 (by decide),hs 2 (by decide),hs 3 (by decide),hs 4 (by decide)]at E4
   simp only[GY,GE,G2,Hw]at E4
   exact l1 rfl (Gh (Zp gn) (by rw[← E4];exact hP 4))
  ·rw[hg 4 (by decide),hg 3 (by decide),hs 3 (by decide),hs 4 (by decide)]at E4
   simp only[GY,GE,G2,Hw]at E4
   have b2:(s 2).natAbs<=48:=Gh (Zp gn) (by rw[← E4];exact hP 4)
   have c2:(g 2).natAbs<=48:=Gh (Zp sm) (by rw[GX,← E4];exact hP 4)
   have d1:(s 1).natAbs<=4656:=by
    by_cases h1:g 1=0
    ·rw[h1,GE,Hw]at E1
     exact Gh (Gh (Zp g0) (by rw[← E1];exact hP 1)) (by decide)
    ·refine Gh (Zp h1) ?_
     have h3:=QcA b0 c2
     have h4:=QcA b2 c0
     have h5:=hP 2
     clear E0 E1 E3 E4
     generalize s 0*g 2=u at *
     generalize s 1*g 1=v at *
     generalize s 2*g 0=w at *
     omega
   have:i=0∨i=1∨i=2:=by clear E0 E1 E2 E3 E4;omega
   rcases this with rfl|rfl|rfl
   ·exact Gh b0 (by decide)
   ·exact Gh d1 (by decide)
   ·exact Gh b2 (by decide)
structure Five(p:List Tm):Prop where
 can:Can p
 ne:p≠[]
 bd:∀ t∈p,t.2.natAbs<=48
 w:hi0 p-lo0 p<=4
theorem QbX{p S Q:List Tm}(k:Five p)(cS:Can S)(cQ:Can Q)(hm:∀ e,cf p e=mc S Q e):S≠[]/\Q≠[]/\lo0 p=lo0 S+lo0 Q/\hi0 p=hi0 S+hi0 Q/\∀ t∈S,t.2.natAbs<=300000000:=by
 have S0:S≠[]:=fun h=>YV k.can k.ne (by rw[hm,h];rfl)
 have Q0:Q≠[]:=fun h=>YV k.can k.ne (by rw[hm,h,yx])
 obtain⟨-,el,eh⟩:=U5 k.can cQ Q0 cS S0 hm
 refine⟨S0,Q0,el,eh,fun t ht=>?_⟩
 have lS:=zR cS
 have lQ:=zR cQ
 have w:=k.w
 have eq:=fun i:Nat=>Qfh (a:=S) (b:=(List.range 5).map fun k:Nat=>(lo0 S+(k:Int),cf S (lo0 S+(k:Int)))) (fun e=>by
  rw[← zq (List.map _ _),Qam (cf S) (lo0 S) 5 e]
  by_cases h:lo0 S<=e/\e<lo0 S+(5:Nat)
  ·rw[if_pos h]
  ·rw[if_neg h]
   exact XV fun t ht he=>h (by have:=XF cS t ht;have:=XM cS t ht;omega)) (cf Q) (lo0 p+i)
 have ex:∀ i:Nat,cf p (lo0 p+i)=cf S (lo0 S)*cf Q (lo0 Q+i)+(cf S (lo0 S+1)*cf Q (lo0 Q+i-1)+(cf S (lo0 S+2)*cf Q (lo0 Q+i-2)+(cf S (lo0 S+3)*cf Q (lo0 Q+i-3)+cf S (lo0 S+4)*cf Q (lo0 Q+i-4)))):=fun i=>by
  rw[hm,Zn fun _=>rfl,eq i]
  show cf S (lo0 S+(0:Nat))*cf Q (lo0 p+i-(lo0 S+(0:Nat)))+(cf S (lo0 S+(1:Nat))*cf Q (lo0 p+i-(lo0 S+(1:Nat)))+(cf S (lo0 S+(2:Nat))*cf Q (lo0 p+i-(lo0 S+(2:Nat)))+(cf S (lo0 S+(3:Nat))*cf Q (lo0 p+i-(lo0 S+(3:Nat)))+(cf S (lo0 S+(4:Nat))*cf Q (lo0 p+i-(lo0 S+(4:Nat)))+0))))=_
  rw[el,show lo0 S+lo0 Q+(i:Int)-(lo0 S+(0:Nat))=lo0 Q+i by omega,show lo0 S+lo0 Q+(i:Int)-(lo0 S+(1:Nat))=lo0 Q+i-1 by omega,show lo0 S+lo0 Q+(i:Int)-(lo0 S+(2:Nat))=lo0 Q+i-2 by omega,show lo0 S+lo0 Q+(i:Int)-(lo0 S+(3:Nat))=lo0 Q+i-3 by omega,show lo0 S+lo0 Q+(i:Int)-(lo0 S+(4:Nat))=lo0 Q+i-4 by omega]
  simp
 have zS:∀ e,e<lo0 S∨hi0 S<e->cf S e=0:=fun e h=>XV fun t ht he=>by have:=XF cS t ht;have:=XM cS t ht;omega
 have zQ:∀ e,e<lo0 Q∨hi0 Q<e->cf Q e=0:=fun e h=>XV fun t ht he=>by have:=XF cQ t ht;have:=XM cQ t ht;omega
 have key:=Qlh (s:=fun i=>cf S (lo0 S+(i:Nat))) (g:=fun i=>cf Q (lo0 Q+(i:Nat))) (P:=fun i=>cf p (lo0 p+(i:Nat))) (m:=(hi0 S-lo0 S).toNat) (n:=(hi0 Q-lo0 Q).toNat) (by omega)
  (fun i hi=>zS _ (by omega)) (fun j hj=>zQ _ (by omega)) (by simpa using YV cS S0) (by
   show cf S (lo0 S+((hi0 S-lo0 S).toNat:Nat))≠0
   rw[show lo0 S+((hi0 S-lo0 S).toNat:Int)=hi0 S by omega];exact qf cS S0) (by simpa using YV cQ Q0) (by
   show cf Q (lo0 Q+((hi0 Q-lo0 Q).toNat:Nat))≠0
   rw[show lo0 Q+((hi0 Q-lo0 Q).toNat:Int)=hi0 Q by omega];exact qf cQ Q0) (fun i=>Vd k.can k.bd _)
  (by have:=ex 0;rw[zQ (lo0 Q+(0:Nat)-1) (by omega),zQ (lo0 Q+(0:Nat)-2) (by omega),zQ (lo0 Q+(0:Nat)-3) (by omega),zQ (lo0 Q+(0:Nat)-4) (by omega)]at this;simpa using this)
  (by have:=ex 1;rw[zQ (lo0 Q+(1:Nat)-2) (by omega),zQ (lo0 Q+(1:Nat)-3) (by omega),zQ (lo0 Q+(1:Nat)-4) (by omega),show lo0 Q+((1:Nat):Int)-1=lo0 Q by omega]at this;simpa using this)
  (by have:=ex 2;rw[zQ (lo0 Q+(2:Nat)-3) (by omega),zQ (lo0 Q+(2:Nat)-4) (by omega),show lo0 Q+((2:Nat):Int)-1=lo0 Q+1 by omega,show lo0 Q+((2:Nat):Int)-2=lo0 Q by omega]at this;simpa [Int.add_assoc]using this)
  (by have:=ex 3;rw[zQ (lo0 Q+(3:Nat)-4) (by omega),show lo0 Q+((3:Nat):Int)-1=lo0 Q+2 by omega,show lo0 Q+((3:Nat):Int)-2=lo0 Q+1 by omega,show lo0 Q+((3:Nat):Int)-3=lo0 Q by omega]at this;simpa [Int.add_assoc]using this)
  (by have:=ex 4;rw[show lo0 Q+((4:Nat):Int)-1=lo0 Q+3 by omega,show lo0 Q+((4:Nat):Int)-2=lo0 Q+2 by omega,show lo0 Q+((4:Nat):Int)-3=lo0 Q+1 by omega,show lo0 Q+((4:Nat):Int)-4=lo0 Q by omega]at this;simpa [Int.add_assoc]using this)
  (t.1-lo0 S).toNat
 have:=XF cS t ht
 rwa [show lo0 S+((t.1-lo0 S).toNat:Int)=t.1 by omega,YQ cS ht]at key
end Go.Proofs.YtofknpknogfijaaGreatDoor
namespace Go.Proofs.YtofknpknogfijaaGreatDoor
open Go.Ab
set_option linter.all false
set_option maxHeartbeats 16000000
set_option maxRecDepth 20000
attribute [local irreducible] Qk wA Xv Xs QC Qu QP Q6
variable [HB]
def lfA(p c:Nat)(m:List Nat)(i:Nat):Int:=lfM p (ofM p (c:Int)*m.getD i 0%p)
theorem VM{p c:Nat}{m:List Nat}:(List.range m.length).map (lfA p c m)=YO p c m:=by
 unfold YO
 apply Gr
 intro j
 rw[Gj,Gj]
 rcases Gt j m.length with h|h
 ·rw[Gw h,Gc h]
  show some (lfA p c m j)=_
  unfold lfA
  rw[Gf,Gc h];rfl
 ·rw[Gg (by simpa using h),Gg h];rfl
def I67a(p c q11 id:Nat)(t:SV)(m:List Nat)(a0 a1 a6 a8 a9 a61 a62 a63:AV)(hb:Qa)(k:Nat)(E:Env)(h:Qa):Prop:=∃ j,j<=m.length/\k=m.length-j/\Ext hb h/\Bi h id (qX (lfA p c m) m.length j)/\(∀ i,i<j->(lfA p c m i).natAbs<=cM) ∧
 E.keep [0,1,6,7,8,9,11,13,61,62,63,79,80,81]=[(0,some a0),(1,some a1),(6,some a6),(7,some (iN c)),(8,some a8),(9,some a9),(11,some (.sc (.ptr q11 0))),(13,some (sN id m.length m.length)),(61,some a61),(62,some a62),(63,some a63),(79,some (.sc t)),(80,some (iN m.length)),(81,some (iN j))]
def R67a(p c id:Nat)(m:List Nat)(a0 a1 a6 a8 a9 a61 a62 a63:AV)(hb:Qa)(ex:Ex)(E:Env)(h:Qa):Prop:=Ext hb h ∧
 ((ex = .ex 2 ∧ Bi h id (YO p c m) ∧ (∀ x ∈ YO p c m, x.natAbs ≤ cM) ∧
   ∃ a b d e f,E=[(0,some a0),(1,some a1),(6,some a6),(7,some (iN c)),(8,some a8),(9,some a9),(11,a),(13,some (sN id m.length m.length)),(61,some a61),(62,some a62),(63,some a63),(79,b),(80,d),(81,e),(82,f)]) ∨
  (ex = .ex 1/\∃ a b d e f g,E=[(0,some a0),(1,some a1),(6,some a6),(7,some (iN c)),(8,some a8),(9,some a9),(11,a),(13,b),(61,some a61),(62,some a62),(63,some a63),(79,d),(80,e),(81,f),(108,g)]))
theorem QfE(p g c q11 id:Nat)(t:SV)(m:List Nat)(a0 a1 a6 a8 a9 a61 a62 a63:AV)(h0 hb:Qa)(gf:GF p)(hc:c<=cM)(hm:∀ x∈m,x<p)(hl:m.length<=1000000)(o:Own h0 hb t (us m))(c2:Cel hb q11 (.int .u64 (p:Nat)) (.int .u64 (g:Nat)))(hid:hb.length<=id)(k:Nat)(E:Env)(h:Qa)(hI:I67a p c q11 id t m a0 a1 a6 a8 a9 a61 a62 a63 hb k E h) :
  wA FT HKt QjT (E.keep [0,1,6,7,8,9,11,13,61,62,63,79,80,81]) h (Qu (I67a p c q11 id t m a0 a1 a6 a8 a9 a61 a62 a63 hb) k (R67a p c id m a0 a1 a6 a8 a9 a61 a62 a63 hb)):=by
 obtain⟨j,hj,rfl,x,b,hall,hE⟩:=hI
 rw[hE]
 have plo:=gf.lo
 have phi:=gf.hi
 by_cases hlt:j<m.length
 ·have hget:(us m)[j]?=some (.int .u64 ((m.getD j 0:Nat):Int)):=by
   rw[Gj,Gf,Gc hlt];rfl
  obtain⟨tid,tcap,rfl,rd0⟩:=o.rd hget
  have rd:=QO x rd0
  have hol:(us m).length=m.length:=by simp
  have hmp:=hm _ (Zi hlt)
  simp only[cM]at hc
  have k99:=fun H=>Qc1 H p g (c:Int) (by omega) (by omega)
  have hof:ofM p (c:Int)<p:=Qga (by omega)
  have k98:=fun H=>qj H p g (ofM p (c:Int)) (m.getD j 0) ⟨by omega,by omega⟩ (by omega) (by omega)
  have hmd:ofM p (c:Int)*m.getD j 0%p<p:=Hf _ (by omega)
  have k97:=fun H=>Qlq H p g (ofM p (c:Int)*m.getD j 0%p) (by omega) hmd
  have fs:=U2 (f:=lfA p c m) hlt
  have wv:=fun h' (y:Ext h h')=>(b.ext y).wr (i:=j) (y:=lfA p c m j) (by rw[U3];exact hlt)
  rw[fs]at wv
  have r2:=fun h' (y:Ext h h')=>(((b.ext y).set (ys:=qX (lfA p c m) m.length (j+1)))).rd (QiV hlt)
  have hlf:(lfA p c m j).natAbs<9223372036854775808:=by unfold lfA lfM;split <;> omega
  have hcM:cM=1125899906842624:=rfl
  have nx:(lfA p c m j).natAbs<=cM->∀ i,i<j+1->(lfA p c m i).natAbs<=cM:=fun h i hi=>by
   by_cases e:i=j
   ·subst e;exact h
   ·exact hall i (by omega)
  have eL:lfM p (ofM p (c:Int)*m.getD j 0%p)=lfA p c m j:=rfl
  rw[eL]at k97
  generalize hL:lfA p c m j=L at *
  generalize ofM p (c:Int)*m.getD j 0%p=T at *
  generalize ofM p (c:Int)=C at *
  generalize m.getD j 0=Y at *
  have x0:=Ext.refl h
  have c2h:=c2.ext x
  by_cases h1:L > 1125899906842624
  ·repeat' first|apply Qh|apply Qc|apply Xc|apply Qz|apply Qm|apply Q5|apply Qf|apply QU|apply Xl|apply Xm|(refine JU ?_ ?_;rfl)|(apply Qg;refine Qi rfl ?_)|(apply Qe;first|apply QR|apply Xu|refine Ye (by assumption) ?_|refine yf rfl rfl rfl rfl rfl rfl rfl rfl rfl rfl rfl rfl rfl rfl rfl ?_|refine VZ rfl rfl rfl rfl rfl rfl rfl rfl rfl rfl rfl rfl rfl rfl rfl rfl ?_)|(apply Qb;first|refine Qv rfl (c2h.ext x0) ?_|refine QJ (esz:=1) rfl rfl (by omega) ?_|refine Xx rfl rd ?_|(refine Qd rfl (k99 _) ?_;rintro v1 h1' ⟨x1,rfl⟩;replace x0:=x0.trans x1)|(refine Qd rfl (k98 _) ?_;rintro v2 h2 ⟨x2,rfl⟩;replace x0:=x0.trans x2)|(refine Qd rfl (k97 _) ?_;rintro v3 h3 ⟨x3,rfl⟩;replace x0:=x0.trans x3)|refine QaE rfl rfl (wv _ x0) ?_|refine Xx rfl (r2 _ x0) ?_|refine Xa rfl ?_|refine Qn rfl ?_|refine QK rfl rfl ?_|refine QH rfl rfl (by omega) ?_|refine X9 rfl rfl (by omega) ?_)
   exact Xj ⟨Ext.setF (x.trans x0) hid _,.inr ⟨rfl,_,_,_,_,_,_,rfl⟩⟩
  by_cases h2:L < -1125899906842624
  ·repeat' first|apply Qh|apply Qc|apply Xc|apply Qz|apply Qm|apply Q5|apply Qf|apply QU|apply Xl|apply Xm|(refine JU ?_ ?_;rfl)|(apply Qg;refine Qi rfl ?_)|(apply Qe;first|apply QR|apply Xu|refine Ye (by assumption) ?_|refine yf rfl rfl rfl rfl rfl rfl rfl rfl rfl rfl rfl rfl rfl rfl rfl ?_|refine VZ rfl rfl rfl rfl rfl rfl rfl rfl rfl rfl rfl rfl rfl rfl rfl rfl ?_)|(apply Qb;first|refine Qv rfl (c2h.ext x0) ?_|refine QJ (esz:=1) rfl rfl (by omega) ?_|refine Xx rfl rd ?_|(refine Qd rfl (k99 _) ?_;rintro v1 h1' ⟨x1,rfl⟩;replace x0:=x0.trans x1)|(refine Qd rfl (k98 _) ?_;rintro v2 h2' ⟨x2,rfl⟩;replace x0:=x0.trans x2)|(refine Qd rfl (k97 _) ?_;rintro v3 h3 ⟨x3,rfl⟩;replace x0:=x0.trans x3)|refine QaE rfl rfl (wv _ x0) ?_|refine Xx rfl (r2 _ x0) ?_|refine QE rfl ?_|refine Qn rfl ?_|refine Qy rfl rfl ?_|refine QH rfl rfl (by omega) ?_|refine XY rfl rfl (by omega) ?_)
   exact Xj ⟨Ext.setF (x.trans x0) hid _,.inr ⟨rfl,_,_,_,_,_,_,rfl⟩⟩
  repeat' first|apply Qh|apply Qc|apply Qz|apply QV|apply Qm|apply Qf|apply QU|apply Xl|apply Xm|(apply Qg;first|refine Qi rfl ?_|refine Qj rfl ?_)|(apply Qe;first|apply QR|apply Xu|refine Ye (by assumption) ?_|refine Uf rfl rfl rfl rfl rfl rfl rfl rfl rfl rfl rfl rfl rfl rfl ?_|refine yf rfl rfl rfl rfl rfl rfl rfl rfl rfl rfl rfl rfl rfl rfl rfl ?_|refine VZ rfl rfl rfl rfl rfl rfl rfl rfl rfl rfl rfl rfl rfl rfl rfl rfl ?_)|(apply Qb;first|refine Qv rfl (c2h.ext x0) ?_|refine QJ (esz:=1) rfl rfl (by omega) ?_|refine Xx rfl rd ?_|(refine Qd rfl (k99 _) ?_;rintro v1 h1' ⟨x1,rfl⟩;replace x0:=x0.trans x1)|(refine Qd rfl (k98 _) ?_;rintro v2 h2' ⟨x2,rfl⟩;replace x0:=x0.trans x2)|(refine Qd rfl (k97 _) ?_;rintro v3 h3 ⟨x3,rfl⟩;replace x0:=x0.trans x3)|refine QaE rfl rfl (wv _ x0) ?_|refine Xx rfl (r2 _ x0) ?_|refine QE rfl ?_|refine Qn rfl ?_|refine Qy rfl rfl ?_|refine Q1 rfl rfl (by omega) ?_|refine QH rfl rfl (by omega) ?_|refine QW rfl rfl (by omega) ?_|refine XY rfl rfl (by omega) ?_)
  exact Xb (j:=m.length-(j+1)) (by omega) ⟨j+1,by omega,rfl,Ext.setF (x.trans x0) hid _,(b.ext x0).set,nx (by omega),rfl⟩
 ·have:j=m.length:=by omega
  subst this
  rw[za,VM]at b
  repeat' first|apply Qh|apply Qc|apply Xc|apply Q5|apply Qf|(apply Qg;refine Qj rfl ?_)|(apply Qe;refine yf rfl rfl rfl rfl rfl rfl rfl rfl rfl rfl rfl rfl rfl rfl rfl ?_)|(apply Qb;refine QW rfl rfl (by omega) ?_)
  refine Xj ⟨x,.inl ⟨rfl,b,fun y hy=>?_,_,_,_,_,_,rfl⟩⟩
  rw[← VM]at hy
  obtain⟨i,hi,rfl⟩:=GA.1 hy
  exact hall i (Hl.1 hi)
def Vp(zs:List Int)(F:Nat)(j:Nat):List Int:=(List.range zs.length).map fun k=>if k<j then zs.getD k 0*(F:Int) else zs.getD k 0
theorem J1{zs:List Int}{F j:Nat}:(Vp zs F j).length=zs.length:=by simp[Vp]
theorem J2{zs:List Int}{F j k:Nat}(h:k<zs.length):(Vp zs F j)[k]?=some (if k<j then zs.getD k 0*(F:Int) else zs.getD k 0):=by
 unfold Vp
 rw[Gj,Gw h];rfl
theorem QeT{zs:List Int}{F:Nat}:Vp zs F 0=zs:=by
 apply Gr
 intro k
 rcases Gt k zs.length with h|h
 ·rw[J2 h,if_neg (by omega),Gf,Gc h];rfl
 ·rw[Gg (by rw[J1];exact h),Gg h]
theorem Qgf{zs:List Int}{F j:Nat}(h:j<zs.length):(Vp zs F j).set j (zs.getD j 0*(F:Int))=Vp zs F (j+1):=by
 apply Gr
 intro k
 rw[G7,J1]
 by_cases e:j=k
 ·subst e
  rw[if_pos rfl,if_pos h,J2 h,if_pos (by omega)]
 ·rw[if_neg e]
  rcases Gt k zs.length with h2|h2
  ·rw[J2 h2,J2 h2]
   by_cases h3:k<j
   ·rw[if_pos h3,if_pos (by omega)]
   ·rw[if_neg h3,if_neg (by omega)]
  ·rw[Gg (by rw[J1];exact h2),Gg (by rw[J1];exact h2)]
theorem QeU{zs:List Int}{F:Nat}:Vp zs F zs.length=zs.map fun x=>x*(F:Int):=by
 rw[← VJ fun x=>x*(F:Int)]
 unfold Vp
 refine Ht fun k hk=>?_
 rw[if_pos (Hl.1 hk)]
def I67b(F id:Nat)(zs:List Int)(hb:Qa)(k:Nat)(E:Env)(h:Qa):Prop:=∃ j,j<=zs.length/\k=zs.length-j/\Ext hb h/\Bi h id (Vp zs F j)/\(∀ i,i<j->(zs.getD i 0*(F:Int)).natAbs<=cM) ∧
 E.keep [6,13,132,133,134]=[(6,some (iN F)),(13,some (sN id zs.length zs.length)),(132,some (sN id zs.length zs.length)),(133,some (iN zs.length)),(134,some (iN j))]
def R67b(F id:Nat)(zs:List Int)(hb:Qa)(ex:Ex)(E:Env)(h:Qa):Prop:=Ext hb h ∧
 ((ex = .ex 4 ∧ Bi h id (zs.map fun x => x * (F : Int)) ∧ (∀ x ∈ zs.map fun x => x * (F : Int), x.natAbs ≤ cM) ∧ ∃ a b c d e, E = [(6, a), (13, some (sN id zs.length zs.length)), (132, b), (133, c), (134, d), (135, e)]) ∨
  (ex = .rt/\E=[(4,some (.sc .nilS)),(5,some (.sc (.bool false)))]))
theorem QfD(F id:Nat)(zs:List Int)(hb:Qa)(hF:0<F)(hz:∀ x∈zs,x.natAbs<=cM)(hid:hb.length<=id)(hl:zs.length<=1000000)(k:Nat)(E:Env)(h:Qa)(hI:I67b F id zs hb k E h) :
  wA FT HKt QjS (E.keep [6,13,132,133,134]) h (Qu (I67b F id zs hb) k (R67b F id zs hb)):=by
 obtain⟨j,hj,rfl,x,b,hall,hE⟩:=hI
 rw[hE]
 by_cases hlt:j<zs.length
 ·have rd:=b.rd (i:=j) (x:=zs.getD j 0) (by rw[J2 hlt,if_neg (by omega)])
  have hzb:=hz _ (Yc hlt)
  simp only[cM]at hzb
  have wv:=b.wr (i:=j) (y:=zs.getD j 0*(F:Int)) (by rw[J1];exact hlt)
  rw[Qgf hlt]at wv
  have nx:(zs.getD j 0*(F:Int)).natAbs<=cM->∀ i,i<j+1->(zs.getD i 0*(F:Int)).natAbs<=cM:=fun h i hi=>by
   by_cases e:i=j
   ·subst e;exact h
   ·exact hall i (by omega)
  have hq:(1125899906842624:Int)/(F:Int)=((1125899906842624/F:Nat):Int):=rfl
  have hmul:(zs.getD j 0).natAbs<=1125899906842624/F->(zs.getD j 0*(F:Int)).natAbs<=1125899906842624:=fun h=>by
   rw[He,GL]
   exact Gh (Gz F h) (Nat.div_mul_le_self _ _)
  have hQ:1125899906842624/F<=1125899906842624:=Nat.div_le_self _ _
  generalize 1125899906842624/F=Q at *
  generalize zs.getD j 0=Z at *
  have hmx:max Z (-Z)=(Z.natAbs:Int):=by omega
  by_cases hbig:Q<Z.natAbs
  ·repeat' first|apply Qh|apply Qc|apply QD|apply Qz|apply Xn|apply Qm|apply Qs|apply Qf|(apply Qg;refine Qi rfl ?_)|(apply Qe;first|refine Qx rfl rfl ?_|refine Q7 rfl rfl rfl rfl rfl rfl ?_|refine Xr rfl rfl rfl rfl rfl rfl rfl ?_|refine Xh rfl rfl rfl rfl rfl rfl rfl rfl ?_)|(apply Qb;first|refine QJ (esz:=1) rfl rfl (by omega) ?_|refine Xx rfl rd ?_|(refine QdV rfl rfl ?_;rw[hmx])|(refine QdT rfl rfl (by omega) ?_;rw[hq])|refine Qn rfl ?_|refine Zy rfl (by omega) ?_|refine QH rfl rfl (by omega) ?_|refine X9 rfl rfl (by omega) ?_)
   exact Zf ⟨x,.inr ⟨rfl,rfl⟩⟩
  ·have hm:=hmul (by omega)
   repeat' first|apply Qh|apply Qc|apply Qz|apply QV|apply Qm|apply Qf|(apply Qg;first|refine Qi rfl ?_|refine Qj rfl ?_)|(apply Qe;first|refine QM rfl rfl rfl rfl rfl ?_|refine Q7 rfl rfl rfl rfl rfl rfl ?_|refine Xr rfl rfl rfl rfl rfl rfl rfl ?_|refine Xh rfl rfl rfl rfl rfl rfl rfl rfl ?_)|(apply Qb;first|refine QJ (esz:=1) rfl rfl (by omega) ?_|refine Xx rfl rd ?_|(refine QdV rfl rfl ?_;rw[hmx])|(refine QdT rfl rfl (by omega) ?_;rw[hq])|refine QdU rfl rfl (by omega) ?_|refine QaE rfl rfl wv ?_|refine Qn rfl ?_|refine Q1 rfl rfl (by omega) ?_|refine Zy rfl (by omega) ?_|refine QH rfl rfl (by omega) ?_|refine XY rfl rfl (by omega) ?_)
   exact Xb (j:=zs.length-(j+1)) (by omega) ⟨j+1,by omega,rfl,Ext.setF x hid _,b.set,nx hm,rfl⟩
 ·have:j=zs.length:=by omega
  subst this
  rw[QeU]at b
  repeat' first|apply Qh|apply Qc|apply Xc|apply Q5|apply Qf|(apply Qg;refine Qj rfl ?_)|(apply Qe;refine Q7 rfl rfl rfl rfl rfl rfl ?_)|(apply Qb;refine QW rfl rfl (by omega) ?_)
  refine Xj ⟨x,.inl ⟨rfl,b,fun y hy=>?_,_,_,_,_,_,rfl⟩⟩
  obtain⟨z,hz',rfl⟩:=GA.1 hy
  obtain⟨i,hi,rfl⟩:=List.mem_iff_getElem.1 hz'
  have:=hall i hi
  rwa [Gf,Gc hi]at this
theorem QdE{low:Int}{xs:List Int}(h:∀ x∈xs,x.natAbs<=cM)(hl:xs.length<=1000000)(hw : -1000000<=low/\low<=40000):(ofP low xs).big=false/\Pok (ofP low xs)/\∀ e,cf (ofP low xs).ts e=coF xs (e-low):=by
 obtain⟨r,hr,-,-,h4⟩:=VH (low:=low) h (by simp only[eM];omega) fun i hi=>by simp only[eM];omega
 refine⟨by rw[hr],Qar _ _,fun e=>?_⟩
 rw[hr]
 show cf r e=_
 rw[h4]
 unfold coF
 by_cases h0:0<=e-low
 ·rw[if_pos h0]
  by_cases h1:e<low+xs.length
  ·rw[if_pos ⟨by omega,h1⟩]
  ·rw[if_neg fun h=>h1 h.2,Gf,Gg (by omega)];rfl
 ·rw[if_neg h0,if_neg fun h=>h0 (by omega)]
theorem Qli{P Q:Pol}(kp:Pok P)(kq:Pok Q)(bp:P.big=false)(bq:Q.big=false)(q0:Q.ts≠[])(h:(Yd P Q).2=0):Dv (cf Q.ts) (cf P.ts):=by
 rcases QcW kp kq bp bq q0 with ⟨-,-,-,hm⟩|hd
 ·exact⟨(Yd P Q).1.ts,fun e=>by rw[← hm,Zn fun _=>rfl]⟩
 ·rw[hd]at h;cases h
theorem Qb6{low:Int}{xs zs:List Int}(hx:∀ x∈xs,x.natAbs<=cM)(hz:∀ x∈zs,x.natAbs<=cM)(lx:xs.length<=1000000)(lz:zs.length<=1000000)(hw : -1000000<=low/\low<=40000)(hne:∃ e,coF zs e≠0)(h:(Yd (ofP low xs) (ofP 0 zs)).2=0):Dv (coF zs) (coF xs):=by
 obtain⟨b1,k1,c1⟩:=QdE hx lx hw
 obtain⟨b2,k2,c2⟩:=QdE hz lz (low:=0) (by decide)
 have e2:cf (ofP 0 zs).ts=coF zs:=funext fun e=>by rw[c2,Int.sub_zero]
 have e1:cf (ofP low xs).ts=fun e=>coF xs (e-low):=funext c1
 have:=Qli k1 k2 b1 b2 (fun h0=>by
  obtain⟨e,he⟩:=hne
  rw[← e2,h0]at he
  exact he rfl) h
 rw[e1,e2]at this
 exact this.unshift
def Res67(B:Nat)(a b:List Int)(E:Env)(h:Qa):Prop:=(∃ s,E=[(4,some (.sc s)),(5,some (.sc (.bool false)))])∨∃ s R,E=[(4,some (.sc s)),(5,some (.sc (.bool true)))]/\IsInts h s R/\R.length<=B/\(∀ x∈R,x.natAbs<=cM)/\CDof (coF a) (coF b) (coF R)
def E67(F c q8 q9 i:Nat)(sA sB s:SV):Env:=[(0,some (.sc sA)),(1,some (.sc sB)),(6,some (iN F)),(7,some (iN c)),(8,some (.sc (.ptr q8 0))),(9,some (.sc (.ptr q9 0))),(61,some (.sc s)),(62,some (.sc (.int .i64 8))),(63,some (iN i))]
def I67(F c q8 q9:Nat)(sA sB s:SV)(hb:Qa)(m:Nat)(E:Env)(h:Qa):Prop:=∃ i,i<=8/\m=8-i/\Ext hb h/\E.keep [0,1,6,7,8,9,61,62,63]=E67 F c q8 q9 i sA sB s
def R67(B:Nat)(a b:List Int)(hb:Qa)(ex:Ex)(E:Env)(h:Qa):Prop:=Ext hb h/\((ex = .ex 0/\∃ k0 k1 k6 k7 k8 k9 k61 k62 k63 k64,E=[(0,k0),(1,k1),(6,k6),(7,k7),(8,k8),(9,k9),(61,k61),(62,k62),(63,k63),(64,k64)])∨(ex = .rt/\Res67 B a b E h))
theorem Qkn(m:List Nat):(us m).length=m.length:=by simp
theorem Qib(B:Nat)(hB:B<=1000000)(F c q8 q9:Nat)(sA sB s sp sq:SV)(a b:List Int)(lowA lowB:Int)(hb:Qa)(ka:Lst a)(kb:Lst b)(la:a.length<=B)(lb:b.length<=B)(hF:F=Nat.gcd (Q2 a) (Q2 b))(hcc:0<c/\c<=cM)(iA:IsInts hb sA (scL a))(iB:IsInts hb sB (scL b))(wA' : -1000000<=lowA/\lowA<=40000)(wB' : -1000000<=lowB/\lowB<=40000)(c8:Cel hb q8 (.bool (ofP lowA (scL a)).big) sp)(d8:IsD hb sp (tms (ofP lowA (scL a)).ts))(c9:Cel hb q9 (.bool (ofP lowB (scL b)).big) sq)(d9:IsD hb sq (tms (ofP lowB (scL b)).ts))(ds:IsD hb s (fPg fldsg))(m:Nat)(E:Env)(h:Qa)(hI:I67 F c q8 q9 sA sB s hb m E h) :
  wA FT HKt QjU (E.keep [0,1,6,7,8,9,61,62,63]) h (Qu (I67 F c q8 q9 sA sB s hb) m (R67 B a b hb)):=by
 obtain⟨i,hi,rfl,x,hE⟩:=hI
 rw[hE]
 have l8:fldsg.length=8:=by decide
 by_cases hlt:i<8
 ·obtain⟨⟨p,g⟩,hf⟩:∃ f,fldsg[i]?=some f:=⟨_,Gc (by omega)⟩
  have gf:GF p:=QgJ (p,g) (Gl hf)
  have plo:=gf.lo
  have phi:=gf.hi
  obtain⟨fid,foff,fcap,e1,rd0⟩:=ds.at (i:=i) (p:=(SV.int .u64 (p:Int),SV.int .u64 (g:Int))) (by rw[Gj,hf];rfl)
  have e1:s = .slc fid foff 8 fcap:=by rw[e1,Gp,l8]
  subst e1
  have rd:=QO x rd0
  have sa:=ka.sc
  have sb:=kb.sc
  have hB1:=ka.ne
  have lsa:(scL a).length=a.length:=by simp
  have lsb:(scL b).length=b.length:=by simp
  have bA:∀ y∈scL a,y.natAbs<p:=fun y hy=>by have:=sa.bd y hy;simp only[cM]at this;omega
  have bB:∀ y∈scL b,y.natAbs<p:=fun y hy=>by have:=sb.bd y hy;simp only[cM]at this;omega
  have k96:=fun H (e:Ext h H)=>Qlr H B hB p g gf sA sB (scL a) (scL b) ((IsSl.ext iA x).ext e) ((IsSl.ext iB x).ext e) ⟨sa.ne,by omega⟩ ⟨sb.ne,by omega⟩ bA bB sa.last sb.last
  have hFb:(F:Int).natAbs<=cM:=by
   rw[GL,hF]
   exact Gh (Nat.le_of_dvd ka.pos (Nat.gcd_dvd_left _ _)) (Gh (U9 (Yc ka.ne) ka.first) (ka.bd _ (Yc ka.ne)))
  have hF0:0<F:=by rw[hF];exact Nat.gcd_pos_of_pos_left _ ka.pos
  unfold E67
  repeat' first|apply Qh|apply Qc|apply QD|apply Qz|apply Xn|apply Qm|apply Qs|apply Qf|(apply Qg;first|refine Qi rfl ?_|refine Qj rfl ?_)|(apply Qe;first|refine Qx rfl rfl ?_|refine XO rfl rfl rfl rfl rfl rfl rfl rfl rfl rfl ?_|refine qu rfl rfl rfl rfl rfl rfl rfl rfl rfl rfl rfl ?_|refine yg rfl rfl rfl rfl rfl rfl rfl rfl rfl rfl rfl rfl ?_|refine Uf rfl rfl rfl rfl rfl rfl rfl rfl rfl rfl rfl rfl rfl rfl ?_)|(apply Qb;first|refine QJ (esz:=2) rfl rfl (by omega) ?_|refine XN rfl rd ?_|(refine QT rfl ?_;intro h1 x1 c1)|refine Qv rfl c1 ?_|(refine Qd rfl (k96 h1 x1) ?_;rintro v2 h2 ⟨x2,t,m,rfl,eu,lm,om⟩;have lt:=om.len;rw[Qkn]at lt)|refine QG rfl lt ?_|(refine Qgz rfl ?_;intro h3 x3 i3)|(refine Qgx rfl rfl (by omega) ?_;intro h3 x3 b3)|refine Qn rfl ?_|refine QH rfl rfl (by omega) ?_|refine Qgy rfl rfl (fun hc=>?_) (fun hc=>?_))
  ·have hm1:m.length=1:=by omega
   refine Zf ⟨((x.trans x1).trans x2).trans x3,.inr ⟨rfl,.inr ⟨_,_,rfl,i3,by show 1<=B;omega,fun y hy=>?_,?_⟩⟩⟩
   ·rw[List.mem_singleton]at hy
    rw[hy];exact hFb
   ·rw[hF];exact Qll gf ka kb eu hm1
  ·refine XJ (I67a p c h.length h2.length t m _ _ _ _ _ _ _ _ h2) m.length (R67a p c h2.length m _ _ _ _ _ _ _ _ h2) ⟨0,Gs _,rfl,x3,by rw[y9];exact b3,fun i hi=>absurd hi (Nat.not_lt_zero i),rfl⟩ (QfE p g c h.length h2.length t m _ _ _ _ _ _ _ _ h1 h2 gf hcc.2 eu.lt (by omega) om (c1.ext x2) (Ge _)) ?_
   rintro ex E' h4 ⟨x4,⟨rfl,b4,bd4,_,_,_,_,_,rfl⟩|⟨rfl,_,_,_,_,_,_,rfl⟩⟩
   ·have hLl:(YO p c m).length=m.length:=by simp[YO]
    have hLp:=VL gf hcc eu
    have fin:=Qlm gf ka kb eu hcc
    rw[← hF]at fin
    have hdv:∀ y∈YO p c m,((Q2 (YO p c m):Nat):Int) ∣ y:=(YB (YO p c m) 0).2
    have hne:∃ e,coF (scL (YO p c m)) e≠0:=(Qbe hLp).ne
    have hZb:∀ y∈scL (YO p c m),y.natAbs<=cM:=fun y hy=>by
     obtain⟨e,rfl⟩:=Uq hy
     have h1:=yQ hLp e
     have h2:=Vk hLp h1
     have h3:=QaR (l:=YO p c m) (p:=fun x=>x.natAbs<=cM) (by decide) bd4 e
     omega
    have i4:IsInts h4 (.slc h2.length 0 m.length (some m.length)) (YO p c m):=by have:=b4.ints (c:=some m.length);rwa [hLl]at this
    generalize YO p c m=L at *
    have hsl:m.length=(scL L).length:=by rw[Gp,hLl]
    have k93:=Qc3 h4 _ L i4 (by omega) bd4
    have k94:=Qc2 h4 _ L (Q2 L) i4 hLp hdv (by omega) bd4
    have eS:(L.map fun x=>x/((Q2 L:Nat):Int))=scL L:=rfl
    rw[eS,hLl,hsl]at k94
    rw[hsl]at k93
    have k20:=fun H id (B:Bi H id (scL L))=>yc H 0 (by decide) (.slc id 0 (scL L).length (some (scL L).length)) (scL L) (by omega) B.ints fun y hy=>by have:=hZb y hy;simp only[cM]at this;omega
    have kQ:=Qar 0 (scL L)
    have dA:=Qb6 sa.bd hZb (by omega) (by omega) wA' hne
    have dB:=Qb6 sb.bd hZb (by omega) (by omega) wB' hne
    have fin2:=fun h1 h2=>fin (dA h1) (dB h2)
    clear fin dA dB
    have hml:(scL L).length<=B:=by omega
    clear eS hdv hLp
    rw[hsl]
    generalize scL L=Z at *
    have kP:=Qar lowA (scL a)
    have kP2:=Qar lowB (scL b)
    have xb4:=((x.trans x1).trans x2).trans x4
    generalize ofP lowA (scL a)=P at *
    generalize ofP lowB (scL b)=P2 at *
    generalize ofP 0 Z=Q at *
    have k30a:=fun H s1 (e:Ext hb H) (d:IsD H s1 (tms Q.ts))=>Qc5 H sp s1 P Q (d8.ext e) d kP kQ
    have k30b:=fun H s1 (e:Ext hb H) (d:IsD H s1 (tms Q.ts))=>Qc5 H sq s1 P2 Q (d9.ext e) d kP2 kQ
    generalize hD1:(Yd P Q).2=D1 at *
    generalize hD2:(Yd P2 Q).2=D2 at *
    generalize (Yd P Q).1=R1 at *
    generalize (Yd P2 Q).1=R2 at *
    repeat' first|apply Qh|apply Qc|apply Xc|apply Qz|apply Q8|apply Qm|apply Q5|apply Qf|(apply Qg;first|refine Qi rfl ?_|refine Qj rfl ?_)|(apply Qe;first|refine QM rfl rfl rfl rfl rfl ?_|refine Xd rfl rfl rfl rfl rfl rfl rfl rfl rfl ?_|refine XO rfl rfl rfl rfl rfl rfl rfl rfl rfl rfl ?_|refine qu rfl rfl rfl rfl rfl rfl rfl rfl rfl rfl rfl ?_|refine yg rfl rfl rfl rfl rfl rfl rfl rfl rfl rfl rfl rfl ?_)|(apply Qb;first|(refine Qd rfl k93 ?_;rintro v5 hz5 ⟨ez5,rfl⟩;subst hz5)|(refine Qd rfl k94 ?_;rintro v5 h5 ⟨x5,id5,l5,rfl,b5⟩)|(refine Qd rfl (k20 h5 id5 b5) ?_;rintro v6 h6 ⟨x6,s6,rfl,d6⟩)|(have z:=x10;refine QT rfl ?_;intro h11 x11 c11)|(have z:=x8;refine QT rfl ?_;intro h9 x9 c9')|(refine QT rfl ?_;intro h7 x7 c7)|(have z:=x9;refine Qv rfl (c9.ext ((((xb4.trans x5).trans (x6.trans x7)).trans x8).trans x9)) ?_)|(have z:=x9;refine Qv rfl ((c7.ext x8).ext x9) ?_)|refine Qv rfl (c8.ext ((xb4.trans x5).trans (x6.trans x7))) ?_|refine Qv rfl c7 ?_|(refine Qd rfl (k30b h9 s6 ((((xb4.trans x5).trans (x6.trans x7)).trans x8).trans x9) (((d6.ext x7).ext x8).ext x9)) ?_;rintro v10 h10 ⟨x10,s10,rfl,d10⟩)|(refine Qd rfl (k30a h7 s6 ((xb4.trans x5).trans (x6.trans x7)) (d6.ext x7)) ?_;rintro v8 h8 ⟨x8,s8,rfl,d8'⟩)|refine QG rfl rfl ?_|refine Qn rfl ?_|refine Q1 rfl rfl (by omega) ?_|refine Qgw rfl rfl (fun hc=>?_) (fun hc=>?_)|refine Xt rfl rfl ?_)
    ·exact Xb (j:=8-(i+1)) (by omega) ⟨i+1,by omega,rfl,(((xb4.trans x5).trans (x6.trans x7)).trans x8).trans x9,rfl⟩
    ·exact Xb (j:=8-(i+1)) (by omega) ⟨i+1,by omega,rfl,(((((xb4.trans x5).trans (x6.trans x7)).trans x8).trans x9).trans x10).trans x11,rfl⟩
    ·have z1:D1=0:=by omega
     have z2:D2=0:=by omega
     have xx:=(((((x5.trans x6).trans x7).trans x8).trans x9).trans x10).trans x11
     refine XJ (I67b F id5 Z h4) Z.length (R67b F id5 Z h4) ⟨0,Gs _,rfl,xx,by rw[QeT];exact b5.ext ((((((x6.trans x7).trans x8).trans x9).trans x10).trans x11)),fun i hi=>absurd hi (Nat.not_lt_zero i),rfl⟩ (QfD F id5 Z h4 hF0 hZb l5 (by omega)) ?_
     rintro ex E' h12 ⟨x12,⟨rfl,b12,bd12,_,_,_,_,_,rfl⟩|⟨rfl,rfl⟩⟩
     ·repeat' first|apply Qh|apply Qc|apply QD|apply Q8|apply Xn|apply Qs|apply Qf|(apply Qe;refine Qx rfl rfl ?_)|(apply Qb;refine Qn rfl ?_)
      have i12:=b12.ints (c:=some Z.length)
      rw[Gp]at i12
      exact Zf ⟨xb4.trans x12,.inr ⟨rfl,.inr ⟨_,_,rfl,i12,by rw[Gp];exact hml,bd12,fin2 z1 z2⟩⟩⟩
     ·repeat' first|apply QD|apply Xn
      exact Zf ⟨xb4.trans x12,.inr ⟨rfl,.inl ⟨_,rfl⟩⟩⟩
   ·repeat' first|apply Qc|apply Xc|apply Q8|apply Qf|(refine JU ?_ ?_;rfl)|(apply Qe;refine Xd rfl rfl rfl rfl rfl rfl rfl rfl rfl ?_)|(apply Qb;first|refine Qn rfl ?_|refine Q1 rfl rfl (by omega) ?_)
    exact Xb (j:=8-(i+1)) (by omega) ⟨i+1,by omega,rfl,((x.trans x1).trans x2).trans x4,rfl⟩
 ·have:i=8:=by omega
  subst this
  unfold E67
  repeat' first|apply Qh|apply Qc|apply Xc|apply Q5|apply Qf|(apply Qg;refine Qj rfl ?_)|(apply Qe;refine XO rfl rfl rfl rfl rfl rfl rfl rfl rfl rfl ?_)|(apply Qb;refine QW rfl rfl (by omega) ?_)
  exact Xj ⟨x,.inl ⟨rfl,_,_,_,_,_,_,_,_,_,_,rfl⟩⟩
theorem QlA(h0:Qa)(B:Nat)(hB:B<=2000)(sa sb:SV)(a b:List Int)(ia:IsInts h0 sa a)(ib:IsInts h0 sb b)(ka:Lst a)(kb:Lst b)(la:a.length<=B)(lb:b.length<=B) :
  ∃ r h',Cal FT HKt 67 [.sc sa,.sc sb] h0 r h'/\Ext h0 h'/\((∃ s,r = .tup [.sc s,.sc (.bool false)])∨∃ s R,r = .tup [.sc s,.sc (.bool true)]/\IsInts h' s R/\R.length<=B/\(∀ x∈R,x.natAbs<=cM)/\CDof (coF a) (coF b) (coF R)):=by
 refine Cal.of (F:=a67) rfl rfl rfl ?_
 have lsa:(scL a).length=a.length:=by simp
 have lsb:(scL b).length=b.length:=by simp
 have kas:=ka.sc
 have kbs:=kb.sc
 have pa:=ka.pos
 have pb:=kb.pos
 have na:=ka.ne
 have nb:=kb.ne
 have da:=(YB a 0).2
 have db:=(YB b 0).2
 have cla:Q2 a<=cM:=Gh (U9 (Yc ka.ne) ka.first) (ka.bd _ (Yc ka.ne))
 have clb:Q2 b<=cM:=Gh (U9 (Yc kb.ne) kb.first) (kb.bd _ (Yc kb.ne))
 simp only[cM]at cla clb
 have k93a:=Qc3 h0 sa a ia (by omega) ka.bd
 have k93b:=fun H (e:Ext h0 H)=>Qc3 H sb b (IsSl.ext ib e) (by omega) kb.bd
 have k66:=fun H=>QaT H ((Q2 a:Nat):Int) ((Q2 b:Nat):Int) (by omega) (by omega)
 simp only[GL]at k66
 have k94a:=Qc2 h0 sa a (Q2 a) ia pa da (by omega) ka.bd
 have k94b:=fun H (e:Ext h0 H)=>Qc2 H sb b (Q2 b) (IsSl.ext ib e) pb db (by omega) kb.bd
 have hlead:=QiP kas kbs
 have ba:=kas.bd
 have bb:=kbs.bd
 have ea:(a.map fun x=>x/((Q2 a:Nat):Int))=scL a:=rfl
 have eb:(b.map fun x=>x/((Q2 b:Nat):Int))=scL b:=rfl
 rw[ea]at k94a
 simp only[eb]at k94b
 have ga:(scL a)[a.length-1]?=some ((scL a).getD (a.length-1) 0):=by
  rw[Gf,Gc (by omega)];rfl
 have gb:(scL b)[b.length-1]?=some ((scL b).getD (b.length-1) 0):=by
  rw[Gf,Gc (by omega)];rfl
 have xa:=ba _ (Yc (show a.length-1<(scL a).length by omega))
 have xb:=bb _ (Yc (show b.length-1<(scL b).length by omega))
 simp only[cM]at xa xb
 have k66b:=fun H=>QaT H ((scL a).getD (a.length-1) 0) ((scL b).getD (b.length-1) 0) (by omega) (by omega)
 have elead:Nat.gcd ((scL a).getD (a.length-1) 0).natAbs ((scL b).getD (b.length-1) 0).natAbs=QeY (scL a) (scL b):=by unfold QeY;rw[lsa,lsb]
 rw[elead]at k66b
 have e1a:((a.length:Int)-1)=((a.length-1:Nat):Int):=by omega
 have e1b:((b.length:Int)-1)=((b.length-1:Nat):Int):=by omega
 have td:∀ n:Nat,(-(n:Int)).tdiv 2 = -((n/2:Nat):Int):=fun n=>by
  rw[Int.neg_tdiv,Int.tdiv_eq_ediv_of_nonneg (by omega)];omega
 have ta:=td a.length
 have tb':=td b.length
 have rl:=fun hb q8 q9 sA sB s sp sq=>Qib B (by omega) (Nat.gcd (Q2 a) (Q2 b)) (QeY (scL a) (scL b)) q8 q9 sA sB s sp sq a b (-((a.length/2:Nat):Int)) (-((b.length/2:Nat):Int)) hb ka kb la lb rfl hlead
 have ra : -1000000 ≤ -((a.length/2:Nat):Int) ∧ -((a.length/2:Nat):Int)<=40000:=by omega
 have rb : -1000000 ≤ -((b.length/2:Nat):Int) ∧ -((b.length/2:Nat):Int)<=40000:=by omega
 have wa:∀ x∈scL a,-9223372036854775808<=x/\x<=9223372036854775807:=fun x hx=>by have:=ba x hx;simp only[cM]at this;omega
 have wb:∀ x∈scL b,-9223372036854775808<=x/\x<=9223372036854775807:=fun x hx=>by have:=bb x hx;simp only[cM]at this;omega
 have k20a:=fun H id (c:Bi H id (scL a))=>yc H (-((a.length/2:Nat):Int)) (by omega) (.slc id 0 a.length (some a.length)) (scL a) (by omega) (by have:=c.ints (c:=some a.length);rwa [lsa]at this) wa
 have k20b:=fun H id (c:Bi H id (scL b))=>yc H (-((b.length/2:Nat):Int)) (by omega) (.slc id 0 b.length (some b.length)) (scL b) (by omega) (by have:=c.ints (c:=some b.length);rwa [lsb]at this) wb
 have k95:=fun H=>Qi3 H 8 rfl
 clear hlead elead
 generalize QeY (scL a) (scL b)=c at *
 generalize Nat.gcd (Q2 a) (Q2 b)=F at *
 generalize (scL a).getD (a.length-1) 0=la1 at *
 generalize (scL b).getD (b.length-1) 0=lb1 at *
 repeat' first|apply Qh|apply Qc|apply Qz|apply Qm|apply Qf|apply QU|apply Xl|apply Xm|apply QhM|(apply Qe;first|apply QR|refine Qx rfl rfl ?_|refine Qq rfl rfl rfl ?_|refine QA rfl rfl rfl rfl ?_|refine Q7 rfl rfl rfl rfl rfl rfl ?_|refine Xd rfl rfl rfl rfl rfl rfl rfl rfl rfl ?_)|(apply Qb;first|(refine Qd rfl k93a ?_;rintro v1 hz1 ⟨ez1,rfl⟩;subst hz1)|(have z:=b2;refine Qd rfl (k93b _ x1) ?_;rintro v1 hz1 ⟨ez1,rfl⟩;subst hz1)|(refine Qd rfl (k93b _ (Ext.refl h0)) ?_;rintro v1 hz1 ⟨ez1,rfl⟩;subst hz1)|(refine Qd rfl (k66 _) ?_;rintro v1 hz1 ⟨ez1,rfl⟩;subst hz1)|(refine Qd rfl k94a ?_;rintro v2 h1 ⟨x1,ida,l1,rfl,b2⟩)|(refine Qd rfl (k94b _ x1) ?_;rintro v2 h2 ⟨x2,idb,l2,rfl,b3⟩;have b2':=b2.ext x2;have xx:=x1.trans x2)|(have z:=c7;apply QQ;intro h8 x8 c8)|(have z:=d6;apply QQ;intro h7 x7 c7)|refine QG rfl rfl ?_|(refine Yp rfl rfl (by omega) ?_;rw[e1a])|(refine Yp rfl rfl (by omega) ?_;rw[e1b])|refine QJ (esz:=1) rfl rfl (by omega) ?_|refine Xx rfl (b2'.rd ga) ?_|refine Xx rfl (b3.rd gb) ?_|(refine Qd rfl (k66b _) ?_;rintro v1 hz1 ⟨ez1,rfl⟩;subst hz1)|(refine Zy rfl (by omega) ?_)|(refine QaD rfl rfl ⟨by decide,by rw[ta];omega,by rw[ta];omega⟩ ?_;rw[ta])|(refine QaD rfl rfl ⟨by decide,by rw[tb'];omega,by rw[tb'];omega⟩ ?_;rw[tb'])|(refine Qd rfl (k20a h2 ida b2') ?_;rintro v5 h5 ⟨x5,s5,rfl,d5⟩)|(refine Qd rfl (k20b h5 idb (b3.ext x5)) ?_;rintro v6 h6 ⟨x6,s6,rfl,d6⟩)|(have z:=w9;refine QZ rfl rfl (w9.keep c8 (by have:=c7.lt;omega)) ?_;intro h10 w10)|(refine QZ rfl rfl (c7.ext x8) ?_;intro h9 w9)|(refine Qd rfl (k95 _) ?_;rintro v11 h11 ⟨x11,s11,rfl,o11⟩;have l11:Yv false s11=some 8:=OwnD.len8 o11)|refine QG rfl l11 ?_|refine Qn rfl ?_)
 have n7:=c7.lt
 have n2:=x5.len
 have n5:=x6.len
 have n6:=xx.len
 have e510:Ext h5 h10:=w10.ext (w9.ext ((x6.trans x7).trans x8) n5) (by omega)
 have e610:Ext h6 h10:=w10.ext (w9.ext (x7.trans x8) (Ge _)) (by omega)
 have e2:Ext h2 h11:=(x5.trans e510).trans x11
 have iA:IsInts h11 (.slc ida 0 a.length (some a.length)) (scL a):=by have:=(b2'.ext e2).ints (c:=some a.length);rwa [lsa]at this
 have iB:IsInts h11 (.slc idb 0 b.length (some b.length)) (scL b):=by have:=(b3.ext e2).ints (c:=some b.length);rwa [lsb]at this
 have c8f:Cel h11 h6.length (.bool (ofP (-((a.length/2:Nat):Int)) (scL a)).big) s5:=(w10.keep w9.cel (by omega)).ext x11
 have c9f:Cel h11 h7.length (.bool (ofP (-((b.length/2:Nat):Int)) (scL b)).big) s6:=w10.cel.ext x11
 have xf:Ext h0 h11:=xx.trans e2
 refine XJ (I67 F c h6.length h7.length (.slc ida 0 a.length (some a.length)) (.slc idb 0 b.length (some b.length)) s11 h11) 8 (R67 B a b h11) ⟨0,by omega,rfl,Ext.refl _,rfl⟩ (rl h11 h6.length h7.length _ _ s11 s5 s6 iA iB ra rb c8f (d5.ext (e510.trans x11)) c9f (d6.ext (e610.trans x11)) o11.is) ?_
 rintro ex E' h12 ⟨x12,⟨rfl,_,_,_,_,_,_,_,_,_,_,rfl⟩|⟨rfl,hr⟩⟩
 ·repeat' first|apply Qh|apply Qc|apply Q8|apply Qs|apply Qf|(apply Qe;refine Qx rfl rfl ?_)|(apply Qb;refine Qn rfl ?_)
  exact⟨.inr rfl,xf.trans x12,.inl ⟨_,rfl⟩⟩
 ·rcases hr with ⟨s,rfl⟩|⟨s,R,rfl,i12,lR,bR,cd⟩
  ·repeat' first|apply QD|apply Xn
   exact⟨.inr rfl,xf.trans x12,.inl ⟨_,rfl⟩⟩
  ·repeat' first|apply QD|apply Xn
   exact⟨.inr rfl,xf.trans x12,.inr ⟨s,R,rfl,i12,lR,bR,cd⟩⟩
def I29a(q2 q3 q4:Nat)(s:SV)(l:List Tm)(hb:Qa)(m:Nat)(E:Env)(h:Qa):Prop:=∃ i,i<=l.length/\m=l.length-i/\Ext hb h ∧
 E.keep [2,3,4,6,41,42,43]=[(2,some (.sc (.ptr q2 0))),(3,some (.sc (.ptr q3 0))),(4,some (.sc (.ptr q4 0))),(6,some (iN (Q2 ((l.map (·.1)).take i)))),(41,some (.sc s)),(42,some (iN l.length)),(43,some (iN i))]
def R29a(q2 q3 q4:Nat)(l:List Tm)(hb:Qa)(ex:Ex)(E:Env)(h:Qa):Prop:=ex = .ex 1/\Ext hb h/\∃ a b c d,E=[(2,some (.sc (.ptr q2 0))),(3,some (.sc (.ptr q3 0))),(4,some (.sc (.ptr q4 0))),(6,some (iN (Q2 (l.map (·.1))))),(41,a),(42,b),(43,c),(44,d)]
theorem QfM(q2 q3 q4:Nat)(s:SV)(l:List Tm)(hb:Qa)(hs:IsD hb s (tms l))(hl:l.length<=1000000)(he:∀ t∈l,t.1.natAbs<=1000)(m:Nat)(E:Env)(h:Qa)(hI:I29a q2 q3 q4 s l hb m E h) :
  wA FT HKt Qj6 (E.keep [2,3,4,6,41,42,43]) h (Qu (I29a q2 q3 q4 s l hb) m (R29a q2 q3 q4 l hb)):=by
 obtain⟨i,hi,rfl,x,hE⟩:=hI
 rw[hE]
 by_cases hlt:i<l.length
 ·obtain⟨t,ht⟩:∃ t,l[i]?=some t:=⟨_,Gc hlt⟩
  obtain⟨id,off,cap,e1,rd0⟩:=hs.at (i:=i) (p:=tmP t) (by rw[Gj,ht];rfl)
  rw[QL]at e1
  subst e1
  have rd:=QO x rd0
  have htb:=he t (Gl ht)
  have hx:(l.map (·.1))[i]?=some t.1:=by rw[Gj,ht];rfl
  have hc:Q2 ((l.map (·.1)).take i)<=1000:=yJ _ _ _ (Gs _) fun y hy=>by
   obtain⟨u,hu,rfl⟩:=GA.1 (List.mem_of_mem_take hy)
   exact he u hu
  have k66:=fun H=>QaT H ((Q2 ((l.map (·.1)).take i):Nat):Int) t.1 (by omega) (by omega)
  rw[GL,← Va hx]at k66
  generalize Q2 ((l.map (·.1)).take i)=c at *
  generalize hc1:Q2 ((l.map (·.1)).take (i+1))=c1 at *
  repeat' first|apply Qh|apply Qc|apply Qz|apply QV|apply Qm|apply Qf|(apply Qg;refine Qi rfl ?_)|(apply Qe;first|refine Xr rfl rfl rfl rfl rfl rfl rfl ?_|refine Xh rfl rfl rfl rfl rfl rfl rfl rfl ?_)|(apply Qb;first|refine QJ (esz:=2) rfl rfl (by omega) ?_|refine XN rfl rd ?_|(refine QT rfl ?_;intro h1 x1 c8)|refine QS rfl ?_|refine QB rfl c8 ?_|(refine Qd rfl (k66 _) ?_;rintro v1 hz1 ⟨ez1,rfl⟩;subst hz1)|refine Qn rfl ?_|refine Q1 rfl rfl (by omega) ?_|refine QH rfl rfl (by omega) ?_)
  exact Xb (j:=l.length-(i+1)) (by omega) ⟨i+1,by omega,rfl,x.trans x1,by rw[hc1];rfl⟩
 ·have:i=l.length:=by omega
  subst this
  rw[show (l.map (·.1)).take l.length=l.map (·.1) from Gx (by simp)]
  repeat' first|apply Qh|apply Qc|apply Xc|apply Q5|apply Qf|(apply Qg;refine Qj rfl ?_)|(apply Qe;refine Xh rfl rfl rfl rfl rfl rfl rfl rfl ?_)|(apply Qb;refine QW rfl rfl (by omega) ?_)
  exact Xj ⟨rfl,x,_,_,_,_,rfl⟩
def I29b(q4 st:Nat)(s9:SV)(R:List Int)(h0 hb:Qa)(m:Nat)(E:Env)(h:Qa):Prop:=∃ i s,i<=R.length/\m=R.length-i/\Ext hb h/\OwnD hb h s (tms (Jf st R i)) ∧
 E.keep [4,6,11,70,71,72]=[(4,some (.sc (.ptr q4 0))),(6,some (iN st)),(11,some (.sc s)),(70,some (.sc s9)),(71,some (iN R.length)),(72,some (iN i))]
def R29b(q4 st:Nat)(R:List Int)(hb:Qa)(ex:Ex)(E:Env)(h:Qa):Prop:=ex = .ex 3/\Ext hb h/\∃ s,OwnD hb h s (tms (Jf st R R.length))/\∃ a b c d e,E=[(4,some (.sc (.ptr q4 0))),(6,a),(11,some (.sc s)),(70,b),(71,c),(72,d),(73,e)]
theorem QfL(q4 st:Nat)(s9:SV)(R:List Int)(h0 hb:Qa)(hst:st<=1000)(i9:IsInts hb s9 R)(hl:R.length<=2000)(m:Nat)(E:Env)(h:Qa)(hI:I29b q4 st s9 R h0 hb m E h) :
  wA FT HKt Qj5 (E.keep [4,6,11,70,71,72]) h (Qu (I29b q4 st s9 R h0 hb) m (R29b q4 st R hb)):=by
 obtain⟨i,s,hi,rfl,x,o,hE⟩:=hI
 rw[hE]
 by_cases hlt:i<R.length
 ·obtain⟨c,hx⟩:∃ c,R[i]?=some c:=⟨_,Gc hlt⟩
  obtain⟨id,off,cap,rfl,rd0⟩:=IsInts.at i9 hx
  have rd:=QO x rd0
  have hx2:R.getD i 0=c:=by rw[Gf,hx];rfl
  have st1:=Vx (st:=st) (R:=R) (n:=i)
  rw[hx2]at st1
  have hm:0<=(i:Int)*st/\(i:Int)*st<=2000*1000:=⟨Ha (by omega) (by omega),Int.mul_le_mul (by omega) (by omega) (by omega) (by omega)⟩
  have ll:(tms (Jf st R i)).length=i:=by simp[Jf]
  have e2:tms (Jf st R (i+1))=tms (Jf st R i)++[(SV.int .i64 ((i:Int)*st),SV.int .i64 c)]:=by
   rw[st1];simp[tmP]
  generalize tms (Jf st R i)=T at *
  repeat' first|apply Qh|apply Qc|apply Qz|apply QV|apply Qm|apply Qf|(apply Qg;refine Qi rfl ?_)|(apply Qe;first|refine Q7 rfl rfl rfl rfl rfl rfl ?_|refine Xr rfl rfl rfl rfl rfl rfl rfl ?_|refine Xh rfl rfl rfl rfl rfl rfl rfl rfl ?_)|(apply Qb;first|refine QJ (esz:=1) rfl rfl (by omega) ?_|refine Xx rfl rd ?_|refine QdU rfl rfl (by omega) ?_|refine Xp rfl rfl ?_|(refine QaI rfl ?_;intro h4 x4 s4)|(refine Us (x.trans x4) (o.ext x4) rfl rfl s4 (by unfold Yh;omega) ?_;intro s5 h5 o5 x5 fr5 l5)|refine Qn rfl ?_|refine Q1 rfl rfl (by omega) ?_|refine QH rfl rfl (by omega) ?_)
  exact Xb (j:=R.length-(i+1)) (by omega) ⟨i+1,s5,by omega,rfl,x5,by rw[e2];exact o5,rfl⟩
 ·have:i=R.length:=by omega
  subst this
  repeat' first|apply Qh|apply Qc|apply Xc|apply Q5|apply Qf|(apply Qg;refine Qj rfl ?_)|(apply Qe;refine Xr rfl rfl rfl rfl rfl rfl rfl ?_)|(apply Qb;refine QW rfl rfl (by omega) ?_)
  exact Xj ⟨rfl,x,s,o,_,_,_,_,_,rfl⟩
def Qfk(p q:Pol)(G:Pol)(e:Int):Prop:=e=9∨(e=0/\((p.ts=[]/\G=XP q)∨(p.ts≠[]/\q.ts=[]/\G=XP p)∨(p.ts≠[]/\q.ts≠[]/\GcdR p q G)))
structure Gsm(p:Pol):Prop where
 k:Pok p
 b:p.big=false
 s:Sml p
 w:hi0 p.ts-lo0 p.ts<=300
theorem Gsm.len{p:Pol}(g:Gsm p):p.ts.length<=601:=ZF (lo := -300) g.k.can fun t ht=>by have:=g.s t ht;omega
theorem QhQ{st:Nat}(hst:0<st){R:List Int}{P:Pol}(tP:TotOk (Jf st R R.length) P){M:Int}(hM:((R.length:Int)-1)*st<=M):∀ t∈P.ts,0<=t.1/\t.1<=M:=fun t ht=>by
 have hb:P.big=false:=by
  cases h:P.big with
  | false=>rfl
  | true=>rw[tP.ok.big h]at ht;cases ht
 have h1:=YQ tP.ok.can ht
 rw[tP.cs hb,Qdf hst]at h1
 by_cases h:(st:Int) ∣ t.1/\0<=t.1/(st:Int)/\t.1/(st:Int)<R.length
 ·obtain⟨hd,h2,h3⟩:=h
  have e:=Int.ediv_mul_cancel hd
  have h4:0<=t.1/(st:Int)*st:=Ha h2 (by omega)
  have h5:t.1/(st:Int)*st<=((R.length:Int)-1)*st:=Gy (by omega) (by omega)
  omega
 ·rw[if_neg h]at h1
  exact absurd h1.symm (tP.ok.can.nz t ht)
structure G29(q2 q3 q4:Nat)(sp sq:SV)(h0 h:Qa):Prop where
 x:Ext h0 h
 c2:Cel h q2 (.bool false) sp
 c3:Cel h q3 (.bool false) sq
 c4:Cel h q4 (.bool false) .nilS
 l4:h0.length<=q4
theorem G29.ext{q2 q3 q4:Nat}{sp sq:SV}{h0 h h':Qa}(u:G29 q2 q3 q4 sp sq h0 h)(e:Ext h h'):G29 q2 q3 q4 sp sq h0 h':=⟨u.x.trans e,u.c2.ext e,u.c3.ext e,u.c4.ext e,u.l4⟩
theorem Qeb(h0:Qa)(sp sq:SV)(p q:Pol)(hp:IsD h0 sp (tms p.ts))(hq:IsD h0 sq (tms q.ts))(gp:Gsm p)(gq:Gsm q)(hz:p.ts=[]∨q.ts=[]) :
  ∃ r h',Cal FT HKt 29 [.agg [.bool p.big,sp],.agg [.bool q.big,sq]] h0 r h'/\Ext h0 h'/\∃ G e,Qfj h' r G e/\Qfk p q G e:=by
 refine Cal.of (F:=a29) rfl rfl rfl ?_
 have lp:=gp.len
 have lq:=gq.len
 have k39p:=fun H=>zx H p.big sp
 have k39q:=fun H=>zx H q.big sq
 have k14p:=fun H (e:Ext h0 H)=>zy H p.big sp p.ts (hp.ext e)
 have k14q:=fun H (e:Ext h0 H)=>zy H q.big sq q.ts (hq.ext e)
 have k25p:=fun H (e:Ext h0 H)=>Vf H sp p (hp.ext e) gp.k gp.s (by omega)
 have k25q:=fun H (e:Ext h0 H)=>Vf H sq q (hq.ext e) gq.k gq.s (by omega)
 rw[gp.b]at k39p k14p k25p
 rw[gq.b]at k39q k14q k25q
 rw[gp.b,gq.b]
 by_cases p0:p.ts=[]
 ·rw[show decide (p.ts=[])=true from decide_eq_true p0]at k14p
  repeat' first|apply Qh|apply Qc|apply QD|apply Qz|apply Xn|apply Qs|apply Qf|(apply Qg;first|refine Qi rfl ?_|refine Qj rfl ?_)|(apply Qe;first|refine Qx rfl rfl ?_|refine Qq rfl rfl rfl ?_|refine QA rfl rfl rfl rfl ?_)|(apply Qb;first|(have z:=e2;apply QQ;intro h3 e3 c4;have u:G29 h0.length h1.length h2.length sp sq h0 h3:=⟨(e1.trans e2).trans e3,(c2.ext e2).ext e3,c3.ext e3,c4,by have:=e1.len;have:=e2.len;omega⟩)|(have z:=e1;refine Qr rfl ?_;intro h2 e2 c3)|(refine Qr rfl ?_;intro h1 e1 c2)|refine Qv rfl u.c2 ?_|refine Qv rfl u.c3 ?_|(refine Qd rfl (k39p _) ?_;rintro v h4 ⟨e4,rfl⟩;replace u:=u.ext e4)|(refine Qd rfl (k39q _) ?_;rintro v h4 ⟨e4,rfl⟩;replace u:=u.ext e4)|(refine Qd rfl (k14p _ u.x) ?_;rintro v h4 ⟨e4,rfl⟩;replace u:=u.ext e4)|(refine Qd rfl (k25q _ u.x) ?_;rintro v h4 ⟨e4,s4,rfl,d4⟩;replace u:=u.ext e4)|(refine QZ rfl rfl u.c4 ?_;intro h5 w5)|refine QE rfl ?_|refine Qn rfl ?_|refine Qy rfl rfl ?_)
  exact⟨.inr rfl,XL rfl w5.cel.read rfl ⟨w5.ext u.x u.l4,XP q,0,⟨s4,rfl,d4.wrC w5⟩,.inr ⟨rfl,.inl ⟨p0,rfl⟩⟩⟩⟩
 ·have q0:q.ts=[]:=hz.resolve_left p0
  rw[show decide (p.ts=[])=false from decide_eq_false p0]at k14p
  rw[show decide (q.ts=[])=true from decide_eq_true q0]at k14q
  repeat' first|apply Qh|apply Qc|apply QD|apply Qz|apply Xn|apply Qs|apply Qf|(apply Qg;first|refine Qi rfl ?_|refine Qj rfl ?_)|(apply Qe;first|refine Qx rfl rfl ?_|refine Qq rfl rfl rfl ?_|refine QA rfl rfl rfl rfl ?_)|(apply Qb;first|(have z:=e2;apply QQ;intro h3 e3 c4;have u:G29 h0.length h1.length h2.length sp sq h0 h3:=⟨(e1.trans e2).trans e3,(c2.ext e2).ext e3,c3.ext e3,c4,by have:=e1.len;have:=e2.len;omega⟩)|(have z:=e1;refine Qr rfl ?_;intro h2 e2 c3)|(refine Qr rfl ?_;intro h1 e1 c2)|refine Qv rfl u.c2 ?_|refine Qv rfl u.c3 ?_|(refine Qd rfl (k39p _) ?_;rintro v h4 ⟨e4,rfl⟩;replace u:=u.ext e4)|(refine Qd rfl (k39q _) ?_;rintro v h4 ⟨e4,rfl⟩;replace u:=u.ext e4)|(refine Qd rfl (k14p _ u.x) ?_;rintro v h4 ⟨e4,rfl⟩;replace u:=u.ext e4)|(refine Qd rfl (k14q _ u.x) ?_;rintro v h4 ⟨e4,rfl⟩;replace u:=u.ext e4)|(refine Qd rfl (k25p _ u.x) ?_;rintro v h4 ⟨e4,s4,rfl,d4⟩;replace u:=u.ext e4)|(refine QZ rfl rfl u.c4 ?_;intro h5 w5)|refine QE rfl ?_|refine Qn rfl ?_|refine Qy rfl rfl ?_)
  exact⟨.inr rfl,XL rfl w5.cel.read rfl ⟨w5.ext u.x u.l4,XP p,0,⟨s4,rfl,d4.wrC w5⟩,.inr ⟨rfl,.inr (.inl ⟨p0,q0,rfl⟩)⟩⟩⟩
structure Stp(p:Prop):Prop where
 out:p
theorem Uj{low:Int}{l:List Tm}:(shL low l).length=l.length:=by simp[shL]
theorem Qi5(h0:Qa)(sp sq:SV)(p q:Pol)(hp:IsD h0 sp (tms p.ts))(hq:IsD h0 sq (tms q.ts))(gp:Gsm p)(gq:Gsm q)(p0:p.ts≠[])(q0:q.ts≠[]) :
  ∃ r h',Cal FT HKt 29 [.agg [.bool p.big,sp],.agg [.bool q.big,sq]] h0 r h'/\Ext h0 h'/\∃ G e,Qfj h' r G e/\Qfk p q G e:=by
 refine Cal.of (F:=a29) rfl rfl rfl ?_
 have lp:=gp.len
 have lq:=gq.len
 have cap:=gp.k.can
 have caq:=gq.k.can
 obtain⟨dp,dq⟩:=Qba (p:=p.ts) (q:=q.ts)
 have hst:=Qa9 p.ts q.ts
 have lap:=QaP cap p0 gp.k.cf hst dp
 have laq:=QaP caq q0 gq.k.cf hst dq
 have lastp:=yI cap p0 hst dp
 have lastq:=yI caq q0 hst dq
 have wp0:=gp.w
 have wq0:=gq.w
 have hlp:=zR cap
 have hlq:=zR caq
 have sp1:(lo0 p.ts).natAbs<=300:=by obtain⟨t,ht,e⟩:=X7 p0;rw[← e];exact gp.s t ht
 have sq1:(lo0 q.ts).natAbs<=300:=by obtain⟨t,ht,e⟩:=X7 q0;rw[← e];exact gq.s t ht
 have eexp:∀ t∈shL (lo0 p.ts) p.ts++shL (lo0 q.ts) q.ts,t.1.natAbs<=1000:=fun t ht=>by
  rcases GD.1 ht with h|h <;> obtain⟨u,hu,rfl⟩:=GA.1 h
  ·have:=gp.s u hu
   show (u.1-lo0 p.ts).natAbs<=1000
   omega
  ·have:=gq.s u hu
   show (u.1-lo0 q.ts).natAbs<=1000
   omega
 have hmax:max ((Q2 ((shL (lo0 p.ts) p.ts++shL (lo0 q.ts) q.ts).map (·.1)):Nat):Int) 1=((X1 p.ts q.ts:Nat):Int):=by
  unfold X1 Qb1;omega
 have st1:X1 p.ts q.ts<=1000:=by
  have:Q2 (Qb1 p.ts q.ts)<=1000:=yJ _ _ _ (Gs _) fun y hy=>by
   obtain⟨u,hu,rfl⟩:=GA.1 hy
   exact eexp u hu
  unfold X1;omega
 have fin:=fun (R:List Int) cd (P:Pol) tP hb hr=>QiU (R:=R) (P:=P) gp.k gq.k p0 q0 cd tP hb hr
 have llen:(shL (lo0 p.ts) p.ts++shL (lo0 q.ts) q.ts).length=p.ts.length+q.ts.length:=by rw[GK,Uj,Uj]
 have tapp:tms (shL (lo0 p.ts) p.ts)++tms (shL (lo0 q.ts) q.ts)=tms (shL (lo0 p.ts) p.ts++shL (lo0 q.ts) q.ts):=(List.map_append ..).symm
 have tl1:(tms (shL (lo0 p.ts) p.ts)).length=p.ts.length:=by rw[QL,Uj]
 have tl2:(tms (shL (lo0 q.ts) q.ts)).length=q.ts.length:=by rw[QL,Uj]
 have k39p:=fun H=>zx H p.big sp
 have k39q:=fun H=>zx H q.big sq
 have k14p:=fun H (e:Ext h0 H)=>zy H p.big sp p.ts (hp.ext e)
 have k14q:=fun H (e:Ext h0 H)=>zy H q.big sq q.ts (hq.ext e)
 have k53p:=fun H (e:Ext h0 H)=>Y2 H p.big sp p.ts (hp.ext e)
 have k53q:=fun H (e:Ext h0 H)=>Y2 H q.big sq q.ts (hq.ext e)
 have k65p:=fun H (e:Ext h0 H)=>Qha H p.big sp p.ts (lo0 p.ts) (by omega) (hp.ext e) cap (by omega) fun t ht=>by have:=gp.s t ht;omega
 have k65q:=fun H (e:Ext h0 H)=>Qha H q.big sq q.ts (lo0 q.ts) (by omega) (hq.ext e) caq (by omega) fun t ht=>by have:=gq.s t ht;omega
 have k68p:=fun H (e:Ext h0 H)=>Qg9 H sp p.ts (X1 p.ts q.ts) ⟨hst,by omega⟩ (hp.ext e) cap (by omega) ⟨by omega,by omega⟩ (by omega)
 have k68q:=fun H (e:Ext h0 H)=>Qg9 H sq q.ts (X1 p.ts q.ts) ⟨hst,by omega⟩ (hq.ext e) caq (by omega) ⟨by omega,by omega⟩ (by omega)
 rw[gp.b]at k39p k14p k53p k65p
 rw[gq.b]at k39q k14q k53q k65q
 rw[gp.b,gq.b]
 rw[show decide (p.ts=[])=false from decide_eq_false p0]at k14p
 rw[show decide (q.ts=[])=false from decide_eq_false q0]at k14q
 have rla:=fun hb q2 q3 q4 s d=>QfM q2 q3 q4 s (shL (lo0 p.ts) p.ts++shL (lo0 q.ts) q.ts) hb d (by omega) eexp
 have nb:((max (XS p.ts (X1 p.ts q.ts)) (XS q.ts (X1 p.ts q.ts)):Nat):Int)*X1 p.ts q.ts<=300+X1 p.ts q.ts:=by
  rw[Int.sub_mul,G5]at lastp lastq
  rcases Nat.le_total (XS p.ts (X1 p.ts q.ts)) (XS q.ts (X1 p.ts q.ts)) with h|h
  ·rw[Nat.max_eq_right h];omega
  ·rw[Nat.max_eq_left h];omega
 have bp:XS p.ts (X1 p.ts q.ts)<=301:=by
  have:(hi0 p.ts-lo0 p.ts)/(X1 p.ts q.ts:Int)<=hi0 p.ts-lo0 p.ts:=Hh _ (by omega)
  unfold XS;omega
 have bq:XS q.ts (X1 p.ts q.ts)<=301:=by
  have:(hi0 q.ts-lo0 q.ts)/(X1 p.ts q.ts:Int)<=hi0 q.ts-lo0 q.ts:=Hh _ (by omega)
  unfold XS;omega
 have ldp:=qd (ts:=p.ts) (st:=X1 p.ts q.ts)
 have ldq:=qd (ts:=q.ts) (st:=X1 p.ts q.ts)
 have k67:=fun H id1 id2 (b1:Bi H id1 (JQ p.ts (X1 p.ts q.ts))) (b2:Bi H id2 (JQ q.ts (X1 p.ts q.ts)))=>QlA H (max (XS p.ts (X1 p.ts q.ts)) (XS q.ts (X1 p.ts q.ts))) (by omega) (.slc id1 0 (XS p.ts (X1 p.ts q.ts)) (some (XS p.ts (X1 p.ts q.ts)))) (.slc id2 0 (XS q.ts (X1 p.ts q.ts)) (some (XS q.ts (X1 p.ts q.ts)))) (JQ p.ts (X1 p.ts q.ts)) (JQ q.ts (X1 p.ts q.ts)) (by have:=b1.ints (c:=some (XS p.ts (X1 p.ts q.ts)));rwa [ldp]at this) (by have:=b2.ints (c:=some (XS q.ts (X1 p.ts q.ts)));rwa [ldq]at this) lap laq (by omega) (by omega)
 have hB:max (XS p.ts (X1 p.ts q.ts)) (XS q.ts (X1 p.ts q.ts))<=301:=by omega
 clear lap laq lastp lastq ldp ldq dp dq
 generalize max (XS p.ts (X1 p.ts q.ts)) (XS q.ts (X1 p.ts q.ts))=B at *
 generalize XS p.ts (X1 p.ts q.ts)=N1 at *
 generalize XS q.ts (X1 p.ts q.ts)=N2 at *
 generalize JQ p.ts (X1 p.ts q.ts)=D1 at *
 generalize JQ q.ts (X1 p.ts q.ts)=D2 at *
 generalize X1 p.ts q.ts=st at *
 generalize tms (shL (lo0 p.ts) p.ts)=T1 at *
 generalize tms (shL (lo0 q.ts) q.ts)=T2 at *
 generalize shL (lo0 p.ts) p.ts++shL (lo0 q.ts) q.ts=L at *
 repeat' first|apply Qh|apply Qc|apply Qz|apply QV|apply Qm|apply Qf|apply QU|apply Xl|apply Xm|(apply Qg;refine Qj rfl ?_)|(apply Qe;first|apply QR|apply Xu|refine Ye (by assumption) ?_|refine Qq rfl rfl rfl ?_|refine QA rfl rfl rfl rfl ?_|refine Xr rfl rfl rfl rfl rfl rfl rfl ?_)|(apply Qb;first|(have z:=e2;apply QQ;intro h3 e3 c4;have u:G29 h0.length h1.length h2.length sp sq h0 h3:=⟨(e1.trans e2).trans e3,(c2.ext e2).ext e3,c3.ext e3,c4,by have:=e1.len;have:=e2.len;omega⟩)|(have z:=e1;refine Qr rfl ?_;intro h2 e2 c3)|(refine Qr rfl ?_;intro h1 e1 c2)|refine Qv rfl u.c2 ?_|refine Qv rfl u.c3 ?_|(refine Qd rfl (k39p _) ?_;rintro v h4 ⟨e4,rfl⟩;replace u:=u.ext e4)|(refine Qd rfl (k39q _) ?_;rintro v h4 ⟨e4,rfl⟩;replace u:=u.ext e4)|(refine Qd rfl (k14p _ u.x) ?_;rintro v h4 ⟨e4,rfl⟩;replace u:=u.ext e4)|(refine Qd rfl (k14q _ u.x) ?_;rintro v h4 ⟨e4,rfl⟩;replace u:=u.ext e4)|(refine Qd rfl (k53p _ u.x) ?_;rintro v hA ⟨eA,rfl⟩;replace u:=u.ext eA;have uA:=u)|(refine Qd rfl (k65p _ u.x) ?_;rintro v h5 ⟨e5,s5,rfl,o5⟩;replace u:=u.ext e5)|(refine Qd rfl (k53q _ u.x) ?_;rintro v h6 ⟨e6,rfl⟩;replace u:=u.ext e6;replace o5:=o5.ext e6)|(refine Qd rfl (k65q _ u.x) ?_;rintro v h7 ⟨e7,s7,rfl,o7⟩;replace u:=u.ext e7;replace o5:=o5.ext e7;have eA7:=(e5.trans e6).trans e7)|(refine QiS eA7 o5 rfl rfl o7.is (by unfold Yh;omega) ?_;intro s8 h8 o8 e8 f8 l8;have u8:=uA.ext e8;rw[tapp]at o8;have ll8:Yv false s8=some (L.length:Int):=by have:=o8.is.len;rwa [QL]at this)|refine QG rfl ll8 ?_|refine QE rfl ?_|refine Qn rfl ?_|refine Qy rfl rfl ?_)
 refine XJ (I29a h0.length h1.length h2.length s8 L h8) L.length (R29a h0.length h1.length h2.length L h8) ⟨0,Gs _,rfl,Ext.refl _,rfl⟩ (rla h8 h0.length h1.length h2.length s8 o8.is) ?_
 rintro ex E' h9 ⟨rfl,x9,_,_,_,_,rfl⟩
 have u9:=u8.ext x9
 clear u
 have rlb:=fun hb q4 s9 (R:List Int) i9 (hl:R.length<=2000)=>QfL q4 st s9 R hb hb st1 i9 hl
 repeat' first|apply Qh|apply Qc|apply Q8|apply Qf|apply QU|apply Xl|(apply Qe;first|apply QR|apply Xu|refine Ye (by assumption) ?_|refine QA rfl rfl rfl rfl ?_)|(apply Qb;first|(refine QdV rfl rfl ?_;rw[hmax])|refine Qv rfl u9.c2 ?_|refine Qv rfl u9.c3 ?_|(refine Qd rfl (k68p _ u9.x) ?_;rintro v h10 ⟨e10,id1,rfl,b10⟩;replace u9:=u9.ext e10)|(refine Qd rfl (k68q _ u9.x) ?_;rintro v h11 ⟨e11,id2,rfl,b11⟩;replace u9:=u9.ext e11)|(refine Qd rfl (k67 _ id1 id2 (b10.ext e11) b11) ?_;rintro v h12 ⟨e12,hor⟩;replace u9:=u9.ext e12;apply Stp.out)|refine Qn rfl ?_)
 refine⟨?_⟩
 rcases hor with ⟨s12,rfl⟩|⟨s12,R,rfl,i12,lR,bR,cd⟩
 ·repeat' first|apply Qh|apply Qc|apply QD|apply Qs|apply Qf|apply Xl|apply Xm|(apply Qg;refine Qi rfl ?_)|(apply Qe;first|apply QR|apply Xu|refine Qx rfl rfl ?_|refine QA rfl rfl rfl rfl ?_)|(apply Qb;first|(refine Xp rfl rfl ?_)|(refine QZ rfl rfl u9.c4 ?_;intro h13 w13)|refine Qn rfl ?_|refine YW rfl ?_|refine Xt rfl rfl ?_)
  exact⟨.inr rfl,XL rfl w13.cel.read rfl ⟨w13.ext u9.x u9.l4,Yf,9,⟨.nilS,rfl,IsD.nil _⟩,.inl rfl⟩⟩
 ·repeat' first|apply Qh|apply Qc|apply Qz|apply Qm|apply Qf|apply Xl|apply Xm|(apply Qg;refine Qj rfl ?_)|(apply Qe;first|apply QR|apply Xu|refine QA rfl rfl rfl rfl ?_|refine Q7 rfl rfl rfl rfl rfl rfl ?_)|(apply Qb;first|refine QG rfl (IsSl.len i12) ?_|(refine zW (Ext.refl _) rfl rfl ⟨by decide,by omega,by unfold Yh;omega⟩ ?_;intro s14 h14 o14 x14 x14' l14)|refine Qn rfl ?_|refine XX rfl ?_|refine Xt rfl rfl ?_)
  refine XJ (I29b h2.length st s12 R h12 h12) R.length (R29b h2.length st R h12) ⟨0,s14,Gs _,rfl,x14,o14,rfl⟩ (rlb h12 h2.length s12 R i12 (by omega)) ?_
  rintro ex E' h15 ⟨rfl,x15,s15,o15,_,_,_,_,_,rfl⟩
  have u15:=u9.ext x15
  have hM:((R.length:Int)-1)*st<=300:=by
   have h1:(R.length:Int)*st<=(B:Int)*st:=Gy (by omega) (by omega)
   rw[Int.sub_mul,G5];omega
  have k69:=Qlz R.length h15 s15 (Jf st R R.length) (by simp[Jf]) (by omega) o15.is
  have k39:=fun H b s=>zx H b s
  have rng:=fun P (tP:TotOk (Jf st R R.length) P)=>QhQ hst tP hM
  have fin2:=fun P (tP:TotOk (Jf st R R.length) P) hb=>fin R cd P tP hb (rng P tP)
  have k25:=fun H s P (d:IsD H s (tms P.ts)) (tP:TotOk (Jf st R R.length) P)=>Vf H s P d tP.ok (fun t ht=>by have:=rng P tP t ht;omega) (Gh (ZF (lo:=0) (n:=301) tP.ok.can fun t ht=>by have:=rng P tP t ht;omega) (by decide))
  clear fin
  generalize Jf st R R.length=TR at *
  repeat' first|apply Qh|apply Qc|apply Q8|apply Qf|(apply Qb;first|(refine Qd rfl k69 ?_;rintro v h16 ⟨e16,P,⟨s16,rfl,d16⟩,tP⟩;apply Stp.out)|refine Qn rfl ?_)
  refine⟨?_⟩
  rcases Bool.eq_false_or_eq_true P.big with hPb|hPb
  ·repeat' first|apply Qh|apply Qc|apply QD|apply Qs|apply Qf|(apply Qg;refine Qi rfl ?_)|(apply Qe;first|refine Qx rfl rfl ?_|refine Qq rfl rfl rfl ?_)|(apply Qb;first|(refine Qd rfl (k25 _ s16 P d16 tP) ?_;rintro v h17 ⟨e17,s17,hv,d17⟩;rw[yr,hPb]at hv;subst hv)|(refine QT rfl ?_;intro h18 x18 c18;have u18:=((u15.ext e16).ext e17).ext x18)|refine Qv rfl c18 ?_|(refine Qd rfl (k39 _ _ _) ?_;rintro v h19 ⟨e19,rfl⟩;replace u18:=u18.ext e19;replace c18:=c18.ext e19;have d19:=(d17.ext x18).ext e19)|(refine Xp rfl rfl ?_)|(refine QZ rfl rfl u18.c4 ?_;intro h20 w20)|refine Qn rfl ?_)
   exact⟨.inr rfl,XL rfl w20.cel.read rfl ⟨w20.ext u18.x u18.l4,Yf,9,⟨.nilS,rfl,IsD.nil _⟩,.inl rfl⟩⟩
  ·repeat' first|apply Qh|apply Qc|apply Qm|apply Qs|apply Qf|(apply Qg;refine Qj rfl ?_)|(apply Qe;first|refine Qx rfl rfl ?_|refine Qq rfl rfl rfl ?_)|(apply Qb;first|(refine Qd rfl (k25 _ s16 P d16 tP) ?_;rintro v h17 ⟨e17,s17,hv,d17⟩;rw[yr,hPb]at hv;subst hv)|(refine QT rfl ?_;intro h18 x18 c18;have u18:=((u15.ext e16).ext e17).ext x18)|refine Qv rfl c18 ?_|(refine Qd rfl (k39 _ _ _) ?_;rintro v h19 ⟨e19,rfl⟩;replace u18:=u18.ext e19;replace c18:=c18.ext e19;have d19:=(d17.ext x18).ext e19)|(refine QZ rfl rfl u18.c4 ?_;intro h20 w20)|refine Qn rfl ?_)
   exact⟨.inr rfl,XL rfl w20.cel.read rfl ⟨w20.ext u18.x u18.l4,XP P,0,⟨s17,by rw[yr,hPb],d19.wrC w20⟩,.inr ⟨rfl,.inr (.inr ⟨p0,q0,fin2 P tP hPb⟩)⟩⟩⟩
theorem Qc6(h0:Qa)(sp sq:SV)(p q:Pol)(hp:IsD h0 sp (tms p.ts))(hq:IsD h0 sq (tms q.ts))(gp:Gsm p)(gq:Gsm q) :
  ∃ r h',Cal FT HKt 29 [.agg [.bool p.big,sp],.agg [.bool q.big,sq]] h0 r h'/\Ext h0 h'/\∃ G e,Qfj h' r G e/\Qfk p q G e:=by
 by_cases p0:p.ts=[]
 ·exact Qeb h0 sp sq p q hp hq gp gq (.inl p0)
 by_cases q0:q.ts=[]
 ·exact Qeb h0 sp sq p q hp hq gp gq (.inr q0)
 exact Qi5 h0 sp sq p q hp hq gp gq p0 q0
end Go.Proofs.YtofknpknogfijaaGreatDoor
namespace Go.Proofs.YtofknpknogfijaaGreatDoor
open Go.Ab
set_option linter.all false
variable [HB]
theorem Qd8{l:List Tm}{lo:Int}{n:Nat}(h:∀ t∈l,lo<=t.1/\t.1<lo+n):Wd n (cf l):=⟨lo,fun e he=>by
 obtain⟨t,ht,rfl⟩:=Z2 he
 exact h t ht⟩
theorem QdJ{l:List Tm}(c:Can l)(n:Nf (cf l)):l≠[]/\lo0 l=0:=by
 have p:=n.pos
 have h0:l≠[]:=fun h=>by rw[h]at p;exact absurd p (by decide)
 obtain⟨t,ht,e⟩:=Z2 (p:=l) (e:=0) (by omega)
 have h1:=XF c t ht
 have h2:=n.lo _ (YV c h0)
 exact⟨h0,by omega⟩
theorem QeP{G:Pol}(k:Pok G)(hb:G.big=false)(n:Nf (cf G.ts)):XP G=G:=by
 obtain⟨h0,hl⟩:=QdJ k.can n
 have p:=n.pos
 have h1:¬ hd0 G.ts<0:=by rw[← Qg3 k.can,hl];omega
 unfold XP
 rw[if_neg (by rw[hb];simp[h0])]
 have e1:sgT G.ts=G.ts:=by unfold sgT;rw[if_neg h1]
 have e2:shT G.ts=G.ts:=by
  unfold shT
  rw[hl]
  simp
 rw[e1,e2]
 obtain⟨b,ts⟩:=G
 simp only at hb
 rw[hb]
theorem Qma{p q:Pol}(kq:Pok q)(bp:p.big=false)(bq:q.big=false)(h:p.ts=[]):Y7 p q=q:=by
 have e:mA p.ts q.ts=q.ts:=Can.ext (Zo (by rw[h];exact .nil) kq.can) kq.can fun e=>by rw[Qg1,h];show 0+_=_;omega
 rw[QaY bp bq,e,if_pos (show qW q.ts from kq.cf)]
 obtain⟨b,ts⟩:=q
 simp only at bq
 rw[bq]
theorem Ql9{p q:Pol}(kp:Pok p)(bp:p.big=false)(bq:q.big=false)(h:q.ts=[]):Y7 p q=p:=by
 have e:mA p.ts q.ts=p.ts:=Can.ext (Zo kp.can (by rw[h];exact .nil)) kp.can fun e=>by rw[Qg1,h];show _+0=_;omega
 rw[QaY bp bq,e,if_pos (show qW p.ts from kp.cf)]
 obtain⟨b,ts⟩:=p
 simp only at bp
 rw[bp]
theorem QhZ{p:Pol}{B:Nat}(k:Pok p)(h:∀ t∈p.ts,t.1.natAbs<=B)(hB:2*B<=300):Sml (XP p):=by
 unfold XP
 split
 ·exact fun t ht=>by have:=h t ht;omega
 ·rename_i hn
  intro t ht
  obtain⟨u,hu,rfl⟩:=GA.1 (show t∈(sgT p.ts).map _ from ht)
  obtain⟨v,hv,e1,e2⟩:=UD hu
  have h1:=h v hv
  obtain⟨w,hw,e3⟩:=X7 (p:=p.ts) (fun e=>hn (.inr e))
  have h2:=h w hw
  show (u.1-lo0 (sgT p.ts)).natAbs<=300
  rw[UY];omega
theorem Qdi{p:Pol}(bp:p.big=false)(h:p.ts=[]):p=Yf:=by
 obtain⟨b,ts⟩:=p
 simp only at bp h
 rw[bp,h]
structure Lp(f p:Pol):Prop where
 k:Pok p
 b:p.big=false
 e:∀ t∈p.ts,t.1.natAbs<=24
 five:p.ts≠[]->Five p.ts/\Dv (cf f.ts) (cf p.ts)/\f.ts≠[]
theorem Qjv{a c:Ent}(ha:smE a)(hc:smE c):Lp (PE c) (Y6 (PE a) (PE c)):=by
 have ka:=eok ha
 have kc:=eok hc
 have eg:=(QiI ka kc).1
 have hcf:=QiK ka.pok kc.pok eg.nb
 refine⟨QiJ ka.pok kc.pok,eg.nb,fun t ht=>(eg.bd t ht).1,fun h0=>?_⟩
 obtain⟨la,hla⟩:=esp ha
 obtain⟨lc,hlc⟩:=esp hc
 have hr:∀ t∈(Y6 (PE a) (PE c)).ts,la+lc<=t.1/\t.1<=la+lc+4:=fun t ht=>by
  have h1:=YQ eg.can ht
  have h2:=eg.can.nz t ht
  rw[← h1,hcf]at h2
  obtain⟨u,hu,v,hv,e⟩:=QbA h2
  have:=hla u hu
  have:=hlc v hv
  omega
 obtain⟨t,ht,e1⟩:=X7 h0
 obtain⟨u,hu,e2⟩:=YH h0
 have:=hr t ht
 have:=hr u hu
 refine⟨⟨eg.can,h0,fun t ht=>(eg.bd t ht).2,by omega⟩,⟨(PE a).ts,fun e=>by rw[hcf,Zn fun _=>rfl]⟩,fun h=>?_⟩
 have h3:=YV eg.can h0
 rw[hcf,h,yx]at h3
 exact h3 rfl
theorem Lp.gsm{f p:Pol}(l:Lp f p):Gsm p:=⟨l.k,l.b,fun t ht=>by have:=l.e t ht;omega,by
 by_cases h:p.ts=[]
 ·rw[h];decide
 ·obtain⟨t,ht,e1⟩:=X7 h
  obtain⟨u,hu,e2⟩:=YH h
  have:=l.e t ht
  have:=l.e u hu
  omega⟩
theorem QfV{f p G:Pol}(l:Lp f p)(p0:p.ts≠[])(kG:Pok G)(bG:G.big=false)(nG:Nf (cf G.ts))(hd:Dv (cf G.ts) (cf p.ts)):∃ R,Yd p G=(R,0)/\Gsm R/\R.ts≠[]/\∀ e,cf p.ts e=mulT R.ts (cf G.ts) e:=by
 obtain⟨S,cS,hS⟩:=zr hd
 have hm:∀ e,cf p.ts e=mc S G.ts e:=fun e=>by rw[hS,Zn fun _=>rfl]
 obtain⟨S0,G0,el,eh,bS⟩:=QbX (l.five p0).1 cS kG.can hm
 have lG:=(QdJ kG.can nG).2
 have hG:=zR kG.can
 obtain⟨t,ht,e1⟩:=X7 p0
 obtain⟨u,hu,e2⟩:=YH p0
 have a1:=l.e t ht
 have a2:=l.e u hu
 have ex:∀ t∈S,t.1.natAbs<=24:=fun t ht=>by
  have:=XF cS t ht
  have:=XM cS t ht
  omega
 have kR:Pok ⟨false,S⟩:=⟨by simp,cS,fun t ht=>by have:=bS t ht;simp only[cM];omega,fun t ht=>by have:=ex t ht;simp only[eM];omega⟩
 refine⟨⟨false,S⟩,qJ l.k kR kG l.b rfl bG G0 hm,⟨kR,rfl,fun t ht=>by have:=ex t ht;omega,?_⟩,S0,hS⟩
 show hi0 S-lo0 S<=300
 omega
theorem Qis{f p G:Pol}(l:Lp f p)(p0:p.ts≠[])(kf:Pok f)(bf:f.big=false)(f0:f.ts≠[])(fe:∀ t∈f.ts,t.1.natAbs<=24)(kG:Pok G)(bG:G.big=false)(nG:Nf (cf G.ts))(rG:∀ t∈G.ts,0<=t.1/\t.1<=300)(hd:Dv (cf G.ts) (cf p.ts))(hf:Dv (cf f.ts) (cf G.ts)):∃ T,Yd G f=(T,0):=by
 obtain⟨T,cT,hT⟩:=zr hf
 have hm:∀ e,cf G.ts e=mc T f.ts e:=fun e=>by rw[hT,Zn fun _=>rfl]
 have d2:Dv (cf T) (cf G.ts):=⟨f.ts,fun e=>by rw[hm,yy,Zn fun _=>rfl]⟩
 obtain⟨W,cW,hW⟩:=zr (d2.trans hd)
 obtain⟨T0,-,-,-,bT⟩:=QbX (l.five p0).1 cT cW fun e=>by rw[hW,yy,Zn fun _=>rfl]
 obtain⟨G0,el,eh⟩:=U5 kG.can kf.can f0 cT T0 hm
 obtain⟨t,ht,e1⟩:=X7 G0
 obtain⟨u,hu,e2⟩:=YH G0
 obtain⟨v,hv,e3⟩:=X7 f0
 obtain⟨w,hw,e4⟩:=YH f0
 have:=rG t ht
 have:=rG u hu
 have:=fe v hv
 have:=fe w hw
 have kT:Pok ⟨false,T⟩:=⟨by simp,cT,fun t ht=>by have:=bT t ht;simp only[cM];omega,fun t ht=>by have:=XF cT t ht;have:=XM cT t ht;simp only[eM];omega⟩
 exact⟨⟨false,T⟩,qJ kG kT kf bG rfl bf f0 hm⟩
theorem Qiq{p q G R1 R2 O:Pol}(g:GcdR p q G)(h1:∀ e,cf p.ts e=mulT R1.ts (cf G.ts) e)(h2:∀ e,cf q.ts e=mulT R2.ts (cf G.ts) e)(o:GcdR R1 R2 O):O=⟨false,[(0,1)]⟩:=by
 obtain⟨s',hs'⟩:=o.gcd.left
 obtain⟨t',ht'⟩:=o.gcd.right
 obtain⟨d1,d2⟩:=QeI g.gcd R1.ts R2.ts (fun e=>(zq _ e).symm) (fun e=>(zq _ e).symm) h1 h2 O.ts (fun e=>(zq _ e).symm) s' t' hs' ht'
 have wO:Wd 601 (mulT O.ts (cf G.ts)):=⟨0,fun e he=>by
  obtain⟨t,ht,h3⟩:=QdK he
  obtain⟨u,hu,h4⟩:=Z2 h3
  have:=o.rng t ht
  have:=g.rng u hu
  omega⟩
 have wG:Wd 301 (cf G.ts):=Qd8 (lo:=0) fun t ht=>by have:=g.rng t ht;omega
 obtain⟨G0,lG⟩:=QdJ g.ok.can g.nf
 obtain⟨O0,lO⟩:=QdJ o.ok.can o.nf
 have d3:=g.gcd.all _ ⟨_,wO⟩ d1 d2
 have d4:Dv (cf G.ts) (mulT O.ts (cf G.ts)):=⟨O.ts,fun _=>rfl⟩
 have cO:=o.ok.can
 have cG:=g.ok.can
 have hmc:∀ e,mulT O.ts (cf G.ts) e=mc O.ts G.ts e:=fun e=>(Zn (fun _=>rfl) e _).symm
 have nlo:mulT O.ts (cf G.ts) (lo0 O.ts+lo0 G.ts)≠0:=by
  rw[hmc,y5 cO cG];exact GN (YV cO O0) (YV cG G0)
 have nhi:mulT O.ts (cf G.ts) (hi0 O.ts+hi0 G.ts)≠0:=by
  rw[hmc,Qaw cO cG];exact GN (qf cO O0) (qf cG G0)
 obtain⟨c,a,hc,he⟩:=Qd6 wO wG ⟨_,nlo⟩ d3 d4
 have in1:∀ e,mulT O.ts (cf G.ts) e≠0->lo0 G.ts<=e-a/\e-a<=hi0 G.ts:=fun e h=>by
  rw[he]at h
  obtain⟨t,ht,h3⟩:=Z2 (fun h0=>h (by rw[h0,GE]))
  have:=XF cG t ht
  have:=XM cG t ht
  omega
 have b1:=in1 _ nlo
 have b2:=in1 _ nhi
 have b3:=zR cO
 have a0:a=0:=by omega
 have hO:hi0 O.ts=0:=by omega
 have val:=he (lo0 O.ts+lo0 G.ts)
 rw[hmc,y5 cO cG,a0,lO,Hw,Int.sub_zero]at val
 have hv:cf O.ts 0=c:=Int.eq_of_mul_eq_mul_right (YV cG G0) val
 have pos:=o.nf.pos
 have c1:c=1:=by omega
 have hts:O.ts=[(0,1)]:=Can.ext cO ⟨by simp,by simp⟩ fun e=>by
  rw[YT]
  show _=1*dl e 0+0
  by_cases h:e=0
  ·subst h;rw[hv,c1,Yl];rfl
  ·rw[Ze (by omega),XV fun t ht h3=>by have:=XF cO t ht;have:=XM cO t ht;omega];rfl
 have hb:=o.nb
 obtain⟨b,ts⟩:=O
 simp only at hb hts
 rw[hb,hts]
structure LwC(p q f G H:Pol):Prop where
 eq:H=G
 nrm:XP G=G
 ok:Pok G
 sml:Sml G
 nb:G.big=false
 len:G.ts.length<=1000
 or:((p.ts=[]∨q.ts=[])/\G=XP (Y7 p q)/\Gsm (Y7 p q))∨(p.ts≠[]/\q.ts≠[]/\∃ R1 R2 T,Yd p G=(R1,0)/\Yd q G=(R2,0)/\Yd G f=(T,0)/\Gsm R1/\Gsm R2/\∀ O e,Qfk R1 R2 O e->e=9∨(e=0/\O=⟨false,[(0,1)]⟩))
theorem QeZ{p q f G H:Pol}{e1 e2:Int}(lp:Lp f p)(lq:Lp f q)(kf:EOk f)(g1:Qfk p q G e1)(g2:Qfk q p H e2):e1=9∨(e1=0/\e2=9)∨(e1=0/\e2=0/\LwC p q f G H):=by
 rcases g1 with h|⟨h1,g1⟩
 ·exact .inl h
 rcases g2 with h|⟨h2,g2⟩
 ·exact .inr (.inl ⟨h1,h⟩)
 refine .inr (.inr ⟨h1,h2,?_⟩)
 have gen:∀ {r:Pol},Lp f r->Pok (XP r)/\Sml (XP r)/\(XP r).big=false/\(XP r).ts.length<=1000:=fun {r} lr=>⟨Qgc lr.k lr.gsm.s,QhZ lr.k lr.e (by decide),by rw[yr];exact lr.b,by rw[QiF lr.k];have:=lr.gsm.len;omega⟩
 by_cases p0:p.ts=[]
 ·have eG:G=XP q:=by
   rcases g1 with ⟨-,h⟩|⟨h,-⟩|⟨h,-⟩
   ·exact h
   ·exact absurd p0 h
   ·exact absurd p0 h
  have eH:H=XP q:=by
   rcases g2 with ⟨q0,h⟩|⟨-,-,h⟩|⟨-,h,-⟩
   ·rw[h,Qdi lp.b p0,Qdi lq.b q0]
   ·exact h
   ·exact absurd p0 h
  obtain⟨a1,a2,a3,a4⟩:=gen lq
  subst eG
  exact⟨eH,QdH q,a1,a2,a3,a4,.inl ⟨.inl p0,by rw[Qma lq.k lp.b lq.b p0];exact⟨rfl,lq.gsm⟩⟩⟩
 by_cases q0:q.ts=[]
 ·have eG:G=XP p:=by
   rcases g1 with ⟨h,-⟩|⟨-,-,h⟩|⟨-,h,-⟩
   ·exact absurd h p0
   ·exact h
   ·exact absurd q0 h
  have eH:H=XP p:=by
   rcases g2 with ⟨-,h⟩|⟨h,-⟩|⟨h,-⟩
   ·exact h
   ·exact absurd q0 h
   ·exact absurd q0 h
  obtain⟨a1,a2,a3,a4⟩:=gen lp
  subst eG
  exact⟨eH,QdH p,a1,a2,a3,a4,.inl ⟨.inr q0,by rw[Ql9 lp.k lp.b lq.b q0];exact⟨rfl,lp.gsm⟩⟩⟩
 have gg:GcdR p q G:=by
  rcases g1 with ⟨h,-⟩|⟨-,h,-⟩|⟨-,-,h⟩
  ·exact absurd h p0
  ·exact absurd h q0
  ·exact h
 have hh:GcdR q p H:=by
  rcases g2 with ⟨h,-⟩|⟨-,h,-⟩|⟨-,-,h⟩
  ·exact absurd h q0
  ·exact absurd h p0
  ·exact h
 have wG:Wd 301 (cf G.ts):=Qd8 (lo:=0) fun t ht=>by have:=gg.rng t ht;omega
 have wH:Wd 301 (cf H.ts):=Qd8 (lo:=0) fun t ht=>by have:=hh.rng t ht;omega
 have eqc:=QeQ wH wG hh.nf gg.nf (gg.gcd.all _ ⟨_,wH⟩ hh.gcd.right hh.gcd.left) (hh.gcd.all _ ⟨_,wG⟩ gg.gcd.right gg.gcd.left)
 have ets:H.ts=G.ts:=Can.ext hh.ok.can gg.ok.can eqc
 have eH:H=G:=by
  have b1:=gg.nb
  have b2:=hh.nb
  obtain⟨b,ts⟩:=G
  obtain⟨b',ts'⟩:=H
  simp only at b1 b2 ets
  rw[b1,b2,ets]
 obtain⟨R1,d1,s1,n1,m1⟩:=QfV lp p0 gg.ok gg.nb gg.nf gg.gcd.left
 obtain⟨R2,d2,s2,n2,m2⟩:=QfV lq q0 gg.ok gg.nb gg.nf gg.gcd.right
 have wf:Wd 25 (cf f.ts):=Qd8 (lo := -12) fun t ht=>by have:=kf.bd t ht;omega
 obtain⟨T,dT⟩:=Qis lp p0 kf.pok kf.nb (lp.five p0).2.2 (fun t ht=>by have:=kf.bd t ht;omega) gg.ok gg.nb gg.nf gg.rng gg.gcd.left (gg.gcd.all _ ⟨_,wf⟩ (lp.five p0).2.1 (lq.five q0).2.1)
 refine⟨eH,QeP gg.ok gg.nb gg.nf,gg.ok,fun t ht=>by have:=gg.rng t ht;omega,gg.nb,Gh (ZF (lo:=0) (n:=301) gg.ok.can fun t ht=>by have:=gg.rng t ht;omega) (by decide),.inr ⟨p0,q0,R1,R2,T,d1,d2,dT,s1,s2,fun O e ho=>?_⟩⟩
 rcases ho with h|⟨h,ho⟩
 ·exact .inl h
 refine .inr ⟨h,?_⟩
 rcases ho with ⟨h,-⟩|⟨-,h,-⟩|⟨-,-,h⟩
 ·exact absurd h n1
 ·exact absurd h n2
 ·exact Qiq gg m1 m2 h
end Go.Proofs.YtofknpknogfijaaGreatDoor
namespace Go.Proofs.YtofknpknogfijaaGreatDoor
open Go.Ab
set_option linter.all false
set_option maxHeartbeats 16000000
set_option maxRecDepth 20000
attribute [local irreducible] Qk wA Xv Xs QC Qu QP Q6
section
variable [HB]
theorem Qb9{a c:Ent}(ha:smE a)(hc:smE c)(p0:(PE a).ts≠[])(q0:(PE c).ts≠[]):hi0 (PE a).ts+hi0 (PE c).ts-(lo0 (PE a).ts+lo0 (PE c).ts)<=64+4*((PE a).ts.length:Int)*(PE c).ts.length:=by
 obtain⟨la,hla⟩:=esp ha
 obtain⟨lc,hlc⟩:=esp hc
 obtain⟨t,ht,e1⟩:=X7 p0
 obtain⟨u,hu,e2⟩:=YH p0
 obtain⟨v,hv,e3⟩:=X7 q0
 obtain⟨w,hw,e4⟩:=YH q0
 have:=hla t ht
 have:=hla u hu
 have:=hlc v hv
 have:=hlc w hw
 have:0<=4*((PE a).ts.length:Int)*(PE c).ts.length:=Ha (by omega) (by omega)
 omega
theorem Uw(h0:Qa)(s t:SV)(p q:Pol)(hs:IsD h0 s (tms p.ts))(ht:IsD h0 t (tms q.ts))(h:p=q)(hn:p.ts.length<=3000000):∃ r h',Cal FT HKt 23 [.agg [.bool p.big,s],.agg [.bool q.big,t]] h0 r h'/\Ext h0 h'/\r = .sc (.bool true):=by
 have k:=QlJ h0 s t p q hs ht hn
 rwa [decide_eq_true h]at k
theorem QaU(h0:Qa)(sp sq:SV)(P Q R:Pol)(hp:IsD h0 sp (tms P.ts))(hq:IsD h0 sq (tms Q.ts))(kp:Pok P)(kq:Pok Q)(hd:Yd P Q=(R,0)):∃ r h',Cal FT HKt 30 [.agg [.bool P.big,sp],.agg [.bool Q.big,sq]] h0 r h'/\Ext h0 h'/\Qfj h' r R 0:=by
 have k:=Qc5 h0 sp sq P Q hp hq kp kq
 rwa [hd]at k
theorem Qec(h0:Qa)(p:Pol)(s:SV)(hs:IsD h0 s (tms p.ts))(hb:p.big=false)(b:Bool)(h:decide (p.ts=[])=b):∃ r h',Cal FT HKt 14 [.agg [.bool p.big,s]] h0 r h'/\Ext h0 h'/\r = .sc (.bool b):=by
 have k:=zy h0 p.big s p.ts hs
 rw[h]at k
 obtain⟨r,h',a,e,hr⟩:=k
 refine⟨r,h',a,e,?_⟩
 rw[hr,hb];rfl
theorem Qlv(aw:∀ h:Qa,∃ v h',Cal FT HKt 9 [] h v h'/\v = .sc (.bool true)/\h'=h)(h0:Qa)(sa:SV)(a:Ent)(ha:IsInts h0 sa a.2)(sb:SV)(b:Ent)(hb:IsInts h0 sb b.2)(sc:SV)(c:Ent)(hc':IsInts h0 sc c.2) :
  ∃ v h',Cal FT HKt 7 [.agg [.int .i64 a.1,sa],.agg [.int .i64 b.1,sb],.agg [.int .i64 c.1,sc]] h0 v h'/\v = .sc (.bool true):=by
 refine Cal.of (F:=a7) rfl rfl rfl ?_
 have k19a:=fun H (e:Ext h0 H)=>Qc7 H a sa (IsSl.ext ha e)
 have k19b:=fun H (e:Ext h0 H)=>Qc7 H b sb (IsSl.ext hb e)
 have k19c:=fun H (e:Ext h0 H)=>Qc7 H c sc (IsSl.ext hc' e)
 by_cases ma:smE a
 case neg =>
  simp only[decide_eq_false ma,smN]at k19a
  repeat' first|apply Qh|apply Qc|apply QD|apply Qm|apply Qs|apply Qf|(apply Qg;first|refine Qi rfl ?_|refine Qj rfl ?_)|(apply Qe;first|refine Qp rfl ?_|refine Qq rfl rfl rfl ?_|refine QA rfl rfl rfl rfl ?_)|(apply Qb;first|(have z:=e2;refine Qr rfl ?_;intro h3 e3 c5;have x:=(e1.trans e2).trans e3;have c3':=(c3.ext e2).ext e3)|(have z:=e1;refine Qr rfl ?_;intro h2 e2 c4)|(refine Qr rfl ?_;intro h1 e1 c3)|(refine Qd rfl (aw _) ?_;rintro v hz ⟨rfl,ez⟩;subst hz)|refine Qv rfl c3' ?_|(refine Qd rfl (k19a _ x) ?_;rintro v h4 ⟨e4,rfl⟩)|refine XC rfl rfl rfl ?_|refine Xa rfl ?_|refine Qn rfl ?_|refine QK rfl rfl ?_|refine XX rfl ?_)
  exact⟨.inr rfl,rfl⟩
 simp only[decide_eq_true ma,smN]at k19a
 by_cases mb:smE b
 case neg =>
  simp only[decide_eq_false mb,smN]at k19b
  repeat' first|apply Qh|apply Qc|apply QD|apply Qm|apply Qs|apply Qf|(apply Qg;first|refine Qi rfl ?_|refine Qj rfl ?_)|(apply Qe;first|refine Qp rfl ?_|refine Qq rfl rfl rfl ?_|refine QA rfl rfl rfl rfl ?_)|(apply Qb;first|(have z:=e2;refine Qr rfl ?_;intro h3 e3 c5;have x:=(e1.trans e2).trans e3;have c3':=(c3.ext e2).ext e3;have c4':=c4.ext e3)|(have z:=e1;refine Qr rfl ?_;intro h2 e2 c4)|(refine Qr rfl ?_;intro h1 e1 c3)|(refine Qd rfl (aw _) ?_;rintro v hz ⟨rfl,ez⟩;subst hz)|refine Qv rfl c3' ?_|refine Qv rfl c4' ?_|(refine Qd rfl (k19a _ x) ?_;rintro v h4 ⟨e4,rfl⟩;replace x:=x.trans e4;replace c4':=c4'.ext e4)|(have z:=c4';refine Qd rfl (k19b _ x) ?_;rintro v h5 ⟨e5,rfl⟩;clear c4')|(have z:=c4';refine Xk rfl rfl (by decide) ?_)|refine XC rfl rfl rfl ?_|refine Xa rfl ?_|refine QE rfl ?_|refine Qn rfl ?_|refine QK rfl rfl ?_|refine Qy rfl rfl ?_|refine XX rfl ?_)
  exact⟨.inr rfl,rfl⟩
 simp only[decide_eq_true mb,smN]at k19b
 by_cases mc':smE c
 case neg =>
  simp only[decide_eq_false mc',smN]at k19c
  repeat' first|apply Qh|apply Qc|apply QD|apply Qm|apply Qs|apply Qf|(apply Qg;first|refine Qi rfl ?_|refine Qj rfl ?_)|(apply Qe;first|refine Qp rfl ?_|refine Qq rfl rfl rfl ?_|refine QA rfl rfl rfl rfl ?_)|(apply Qb;first|(have z:=e2;refine Qr rfl ?_;intro h3 e3 c5;have x:=(e1.trans e2).trans e3;have c3':=(c3.ext e2).ext e3;have c4':=c4.ext e3)|(have z:=e1;refine Qr rfl ?_;intro h2 e2 c4)|(refine Qr rfl ?_;intro h1 e1 c3)|(refine Qd rfl (aw _) ?_;rintro v hz ⟨rfl,ez⟩;subst hz)|refine Qv rfl c3' ?_|refine Qv rfl c4' ?_|refine Qv rfl c5 ?_|(refine Qd rfl (k19a _ x) ?_;rintro v h4 ⟨e4,rfl⟩;replace x:=x.trans e4;replace c4':=c4'.ext e4;replace c5:=c5.ext e4)|(refine Qd rfl (k19b _ x) ?_;rintro v h5 ⟨e5,rfl⟩;replace x:=x.trans e5;replace c5:=c5.ext e5)|(have z:=c5;refine Qd rfl (k19c _ x) ?_;rintro v h6 ⟨e6,rfl⟩;clear c5)|(have z:=c5;refine Xk rfl rfl (by decide) ?_)|refine XC rfl rfl rfl ?_|refine QE rfl ?_|refine Qn rfl ?_|refine Qy rfl rfl ?_|refine XX rfl ?_)
  exact⟨.inr rfl,rfl⟩
 simp only[decide_eq_true mc',smN]at k19c
 have ea:=eok ma
 have eb:=eok mb
 have ec:=eok mc'
 have w3:∀ e:Ent,smE e->(-9223372036854775808<=e.1/\e.1<=9223372036854775807)/\e.2.length<=1000000/\∀ x∈e.2,-9223372036854775808<=x/\x<=9223372036854775807:=fun e he=>by
  obtain⟨h1,h2,h3,h4⟩:=he
  exact⟨by omega,by omega,fun x hx=>by have:=h4 x hx;omega⟩
 have k20a:=fun H (e:Ext h0 H)=>yc H a.1 (w3 a ma).1 sa a.2 (w3 a ma).2.1 (IsSl.ext ha e) (w3 a ma).2.2
 have k20b:=fun H (e:Ext h0 H)=>yc H b.1 (w3 b mb).1 sb b.2 (w3 b mb).2.1 (IsSl.ext hb e) (w3 b mb).2.2
 have k20c:=fun H (e:Ext h0 H)=>yc H c.1 (w3 c mc').1 sc c.2 (w3 c mc').2.1 (IsSl.ext hc' e) (w3 c mc').2.2
 have da:=Qb9 ma mc'
 have db:=Qb9 mb mc'
 have lp:=Qjv ma mc'
 have lq:=Qjv mb mc'
 have fa:ofP a.1 a.2=PE a:=rfl
 have fb:ofP b.1 b.2=PE b:=rfl
 have fc:ofP c.1 c.2=PE c:=rfl
 rw[fa]at k20a
 rw[fb]at k20b
 rw[fc]at k20c
 generalize PE a=A at *
 generalize PE b=B at *
 generalize PE c=f at *
 have k22a:=fun H s t (d1:IsD H s (tms A.ts)) (d2:IsD H t (tms f.ts))=>Qhd H s t A f d1 d2 ea.pok ec.pok da
 have k22b:=fun H s t (d1:IsD H s (tms B.ts)) (d2:IsD H t (tms f.ts))=>Qhd H s t B f d1 d2 eb.pok ec.pok db
 generalize Y6 A f=p at *
 generalize Y6 B f=q at *
 clear da db
 repeat' first|apply Qh|apply Qc|apply Qm|apply Qf|apply QU|apply Xl|apply Xm|(apply Qg;refine Qj rfl ?_)|(apply Qe;first|apply QR|apply Xu|refine Ye (by assumption) ?_|refine Qq rfl rfl rfl ?_|refine QA rfl rfl rfl rfl ?_)|(apply Qb;first|(have z:=e2;refine Qr rfl ?_;intro h3 e3 c5;have x:=(e1.trans e2).trans e3;replace c3:=(c3.ext e2).ext e3;replace c4:=c4.ext e3)|(have z:=e1;refine Qr rfl ?_;intro h2 e2 c4)|(refine Qr rfl ?_;intro h1 e1 c3)|(refine Qd rfl (aw _) ?_;rintro v hz ⟨rfl,ez⟩;subst hz)|refine Qv rfl c3 ?_|refine Qv rfl c4 ?_|refine Qv rfl c5 ?_|(refine Qd rfl (k19a _ x) ?_;rintro v h4 ⟨e4,rfl⟩;replace x:=x.trans e4;replace c3:=c3.ext e4;replace c4:=c4.ext e4;replace c5:=c5.ext e4)|(refine Qd rfl (k19b _ x) ?_;rintro v h4 ⟨e4,rfl⟩;replace x:=x.trans e4;replace c3:=c3.ext e4;replace c4:=c4.ext e4;replace c5:=c5.ext e4)|(refine Qd rfl (k19c _ x) ?_;rintro v h4 ⟨e4,rfl⟩;replace x:=x.trans e4;replace c3:=c3.ext e4;replace c4:=c4.ext e4;replace c5:=c5.ext e4)|refine Xk rfl rfl (by decide) ?_|refine QS rfl ?_|refine QB rfl c3 ?_|refine Qt rfl c3 ?_|refine QB rfl c4 ?_|refine Qt rfl c4 ?_|refine QB rfl c5 ?_|refine Qt rfl c5 ?_|(refine Qd rfl (k20c _ x) ?_;rintro v h6 ⟨e6,s6,rfl,d6⟩;replace x:=x.trans e6;replace c3:=c3.ext e6;replace c4:=c4.ext e6)|(refine QT rfl ?_;intro h7 e7 c7;replace x:=x.trans e7;replace d6:=d6.ext e7;replace c3:=c3.ext e7;replace c4:=c4.ext e7)|(refine Qd rfl (k20a _ x) ?_;rintro v h8 ⟨e8,s8,rfl,d8⟩;replace x:=x.trans e8;replace d6:=d6.ext e8;replace c4:=c4.ext e8;replace c7:=c7.ext e8)|refine Qv rfl c7 ?_|(refine Qd rfl (k22a _ s8 s6 d8 d6) ?_;rintro v h9 ⟨e9,s9,rfl,d9⟩;replace x:=x.trans e9;replace d6:=d6.ext e9;replace c4:=c4.ext e9;replace c7:=c7.ext e9)|(refine Qd rfl (k20b _ x) ?_;rintro v h10 ⟨e10,s10,rfl,d10⟩;replace x:=x.trans e10;replace d6:=d6.ext e10;replace d9:=d9.ext e10;replace c7:=c7.ext e10)|(refine Qd rfl (k22b _ s10 s6 d10 d6) ?_;rintro v h11 ⟨e11,s11,rfl,d11⟩;replace x:=x.trans e11;replace d6:=d6.ext e11;replace d9:=d9.ext e11;replace c7:=c7.ext e11)|(have z:=c8;apply QQ;intro h13 e13 c9;have m8:=c8.lt;replace x:=x.trans e13;replace d6:=d6.ext e13;replace d9:=d9.ext e13;replace d11:=d11.ext e13;replace c7:=c7.ext e13;replace c8:=c8.ext e13)|(have z:=d11;apply QQ;intro h12 e12 c8;replace x:=x.trans e12;replace d6:=d6.ext e12;replace d9:=d9.ext e12;replace d11:=d11.ext e12;have m7:=c7.lt;replace c7:=c7.ext e12)|(have z:=w14;refine QZ rfl rfl c9 ?_;intro h15 w15)|(refine QZ rfl rfl c8 ?_;intro h14 w14;replace c9:=w14.keep c9 (by omega))|refine QE rfl ?_|refine Qn rfl ?_|refine Qy rfl rfl ?_|refine XX rfl ?_)
 have n7:=w15.keep (w14.keep c7 (by omega)) (by omega)
 have n8:=w15.keep w14.cel (by omega)
 have n9:=w15.cel
 have f6:=IsD.wrC (IsD.wrC d6 w14) w15
 have f9:=IsD.wrC (IsD.wrC d9 w14) w15
 have f11:=IsD.wrC (IsD.wrC d11 w14) w15
 clear c3 c4 c5 c7 c8 c9 d6 d9 d11 d8 d10 w14 w15 x k19a k19b k19c k20a k20b k20c k22a k22b
 have gp:=lp.gsm
 have gq:=lq.gsm
 have k29a:=Qc6 h15 s9 s11 p q f9 f11 gp gq
 repeat' first|apply Qh|apply Qc|apply Qf|(apply Qe;refine QM rfl rfl rfl rfl rfl ?_)|(apply Qb;first|refine Qv rfl n8 ?_|refine Qv rfl n9 ?_|(refine Qd rfl k29a ?_;rintro v h16 ⟨e16,G,r1,⟨s16,rfl,d16⟩,g1⟩)|(refine QT rfl ?_;intro h17 e17 c10)|refine Qn rfl ?_|refine Xt rfl rfl ?_)
 have y:=e16.trans e17
 replace n7:=n7.ext y
 replace n8:=n8.ext y
 replace n9:=n9.ext y
 replace f6:=f6.ext y
 replace f9:=f9.ext y
 replace f11:=f11.ext y
 replace d16:=d16.ext e17
 clear y k29a
 have k29b:=Qc6 h17 s11 s9 q p f11 f9 gq gp
 repeat' (((refine Qb ?_);first|refine Qv rfl n8 ?_|refine Qv rfl n9 ?_|(refine Qd rfl k29b ?_;rintro v h18 ⟨e18,H,r2,⟨s18,rfl,d18⟩,g2⟩)|(refine QT rfl ?_;intro h19 e19 c12;refine Stp.out ?_)|refine Qn rfl ?_|refine Xt rfl rfl ?_))
 refine⟨?_⟩
 have y:=e18.trans e19
 replace n7:=n7.ext y
 replace n8:=n8.ext y
 replace n9:=n9.ext y
 replace c10:=c10.ext y
 replace f6:=f6.ext y
 replace f9:=f9.ext y
 replace f11:=f11.ext y
 replace d16:=d16.ext y
 replace d18:=d18.ext e19
 clear y k29b
 rcases QeZ lp lq ec g1 g2 with rfl|⟨rfl,rfl⟩|⟨rfl,rfl,L⟩
 ·repeat' first|apply Qh|apply Qc|apply QD|apply Qs|apply Qf|(apply Qg;refine Qi rfl ?_)|(apply Qe;first|refine Qp rfl ?_|refine Xr rfl rfl rfl rfl rfl rfl rfl ?_|refine Xh rfl rfl rfl rfl rfl rfl rfl rfl ?_)|(apply Qb;first|refine Xa rfl ?_|refine Qn rfl ?_|refine QK rfl rfl ?_|refine XC rfl rfl (by omega) ?_)
  exact⟨.inr rfl,rfl⟩
 ·repeat' first|apply Qh|apply Qc|apply QD|apply Qs|apply Qf|(apply Qg;refine Qi rfl ?_)|(apply Qe;first|refine Qp rfl ?_|refine Xr rfl rfl rfl rfl rfl rfl rfl ?_|refine Xh rfl rfl rfl rfl rfl rfl rfl rfl ?_)|(apply Qb;first|refine QE rfl ?_|refine Qn rfl ?_|refine Qy rfl rfl ?_|refine XC rfl rfl (by omega) ?_|refine Xk rfl rfl (by omega) ?_)
  exact⟨.inr rfl,rfl⟩
 have lG:=L.len
 have k23a:=Uw h19 s16 s18 G H d16 d18 L.eq.symm (by omega)
 have k25:=fun H1 (e:Ext h19 H1)=>Vf H1 s16 G (d16.ext e) L.ok L.sml (by omega)
 have k23b:=fun H1 t (e:Ext h19 H1) (d:IsD H1 t (tms (XP G).ts))=>Uw H1 t s16 (XP G) G d (d16.ext e) L.nrm (by rw[L.nrm];omega)
 have k14p:=fun H1 (e:Ext h19 H1)=>Qec H1 p s9 (f9.ext e) lp.b
 have k14q:=fun H1 (e:Ext h19 H1)=>Qec H1 q s11 (f11.ext e) lq.b
 rcases L.or with ⟨hz,hG,gs⟩|⟨p0,q0,R1,R2,T,dv1,dv2,dv3,sm1,sm2,hO⟩
 ·have k21:=fun H1 (e:Ext h19 H1)=>Qhe H1 s9 s11 p q (f9.ext e) (f11.ext e) lp.k lq.k
  have lgs:=gs.len
  have k25z:=fun H1 s (d:IsD H1 s (tms (Y7 p q).ts))=>Vf H1 s (Y7 p q) d gs.k gs.s (by omega)
  have k23z:=fun H1 s (e:Ext h19 H1) (d:IsD H1 s (tms (XP (Y7 p q)).ts))=>Uw H1 s16 s G (XP (Y7 p q)) (d16.ext e) d hG (by omega)
  generalize Y7 p q=S at *
  by_cases p0:p.ts=[]
  ·have k14:=fun H1 e=>k14p H1 e true (decide_eq_true p0)
   repeat' first|apply Qh|apply Qc|apply QD|apply Qm|apply Qs|apply Qf|apply QU|apply Xl|apply Xm|(apply Qg;first|refine Qi rfl ?_|refine Qj rfl ?_)|(apply Qe;first|apply QR|apply Xu|refine Ye (by assumption) ?_|refine Qp rfl ?_|refine QM rfl rfl rfl rfl rfl ?_|refine Xr rfl rfl rfl rfl rfl rfl rfl ?_|refine Xh rfl rfl rfl rfl rfl rfl rfl rfl ?_)|(apply Qb;first|refine Qv rfl c10 ?_|refine Qv rfl c12 ?_|(refine Qd rfl k23a ?_;rintro v h20 ⟨e20,rfl⟩;have x:=e20)|refine Qv rfl (c10.ext x) ?_|refine Qv rfl (n8.ext x) ?_|refine Qv rfl (n9.ext x) ?_|(refine Qd rfl (k25 _ x) ?_;rintro v h21 ⟨e21,s21,rfl,d21⟩;replace x:=x.trans e21)|(refine Qd rfl (k23b _ _ x d21) ?_;rintro v h22 ⟨e22,rfl⟩;replace x:=x.trans e22;clear d21)|(refine Qd rfl (k14 _ x) ?_;rintro v h23 ⟨e23,rfl⟩;replace x:=x.trans e23)|(refine Qd rfl (k21 _ x) ?_;rintro v h24 ⟨e24,s24,rfl,d24⟩;replace x:=x.trans e24)|(refine Qd rfl (k25z _ _ d24) ?_;rintro v h25 ⟨e25,s25,rfl,d25⟩;replace x:=x.trans e25)|(refine Qd rfl (k23z _ _ x d25) ?_;rintro v h26 ⟨e26,rfl⟩)|refine Xa rfl ?_|refine QE rfl ?_|refine Qn rfl ?_|refine QK rfl rfl ?_|refine Qy rfl rfl ?_|refine XX rfl ?_|refine Xk rfl rfl (by omega) ?_|refine X2 rfl rfl (by omega) ?_)
   exact⟨.inr rfl,rfl⟩
  ·have q0:=hz.resolve_left p0
   have k14:=fun H1 e=>k14p H1 e false (decide_eq_false p0)
   have k14':=fun H1 e=>k14q H1 e true (decide_eq_true q0)
   repeat' first|apply Qh|apply Qc|apply QD|apply Qm|apply Qs|apply Qf|apply QU|apply Xl|apply Xm|(apply Qg;first|refine Qi rfl ?_|refine Qj rfl ?_)|(apply Qe;first|apply QR|apply Xu|refine Ye (by assumption) ?_|refine Qp rfl ?_|refine QM rfl rfl rfl rfl rfl ?_|refine Xr rfl rfl rfl rfl rfl rfl rfl ?_|refine Xh rfl rfl rfl rfl rfl rfl rfl rfl ?_)|(apply Qb;first|refine Qv rfl c10 ?_|refine Qv rfl c12 ?_|(refine Qd rfl k23a ?_;rintro v h20 ⟨e20,rfl⟩;have x:=e20)|refine Qv rfl (c10.ext x) ?_|refine Qv rfl (n8.ext x) ?_|refine Qv rfl (n9.ext x) ?_|(refine Qd rfl (k25 _ x) ?_;rintro v h21 ⟨e21,s21,rfl,d21⟩;replace x:=x.trans e21)|(refine Qd rfl (k23b _ _ x d21) ?_;rintro v h22 ⟨e22,rfl⟩;replace x:=x.trans e22;clear d21)|(refine Qd rfl (k14 _ x) ?_;rintro v h23 ⟨e23,rfl⟩;replace x:=x.trans e23)|(refine Qd rfl (k14' _ x) ?_;rintro v h23 ⟨e23,rfl⟩;replace x:=x.trans e23)|(refine Qd rfl (k21 _ x) ?_;rintro v h24 ⟨e24,s24,rfl,d24⟩;replace x:=x.trans e24)|(refine Qd rfl (k25z _ _ d24) ?_;rintro v h25 ⟨e25,s25,rfl,d25⟩;replace x:=x.trans e25)|(refine Qd rfl (k23z _ _ x d25) ?_;rintro v h26 ⟨e26,rfl⟩)|refine QE rfl ?_|refine Qn rfl ?_|refine Qy rfl rfl ?_|refine XX rfl ?_|refine Xk rfl rfl (by omega) ?_|refine X2 rfl rfl (by omega) ?_)
   exact⟨.inr rfl,rfl⟩
 ·have k14:=fun H1 e=>k14p H1 e false (decide_eq_false p0)
  have k14':=fun H1 e=>k14q H1 e false (decide_eq_false q0)
  have k30a:=fun H1 (e:Ext h19 H1)=>QaU H1 s9 s16 p G R1 (f9.ext e) (d16.ext e) lp.k L.ok dv1
  have k30b:=fun H1 (e:Ext h19 H1)=>QaU H1 s11 s16 q G R2 (f11.ext e) (d16.ext e) lq.k L.ok dv2
  have k30c:=fun H1 (e:Ext h19 H1)=>QaU H1 s16 s6 G f T (d16.ext e) (f6.ext e) L.ok ec.pok dv3
  repeat' first|apply Qh|apply Qc|apply Qm|apply Qf|apply QU|apply Xl|apply Xm|(apply Qg;refine Qj rfl ?_)|(apply Qe;first|apply QR|apply Xu|refine Ye (by assumption) ?_|refine QM rfl rfl rfl rfl rfl ?_|refine Q7 rfl rfl rfl rfl rfl rfl ?_|refine Xr rfl rfl rfl rfl rfl rfl rfl ?_|refine Xh rfl rfl rfl rfl rfl rfl rfl rfl ?_)|(apply Qb;first|refine Qv rfl c10 ?_|refine Qv rfl c12 ?_|(refine Qd rfl k23a ?_;rintro v h20 ⟨e20,rfl⟩;have x:=e20)|refine Qv rfl (c10.ext x) ?_|refine Qv rfl (n7.ext x) ?_|refine Qv rfl (n8.ext x) ?_|refine Qv rfl (n9.ext x) ?_|(refine Qd rfl (k25 _ x) ?_;rintro v h21 ⟨e21,s21,rfl,d21⟩;replace x:=x.trans e21)|(refine Qd rfl (k23b _ _ x d21) ?_;rintro v h22 ⟨e22,rfl⟩;replace x:=x.trans e22;clear d21)|(refine Qd rfl (k14 _ x) ?_;rintro v h23 ⟨e23,rfl⟩;replace x:=x.trans e23)|(refine Qd rfl (k14' _ x) ?_;rintro v h23 ⟨e23,rfl⟩;replace x:=x.trans e23)|(refine Qd rfl (k30a _ x) ?_;rintro v h24 ⟨e24,s24,rfl,d24⟩;replace x:=x.trans e24)|(have z:=c16;refine QT rfl ?_;intro h29 e29 c18;replace x:=x.trans e29;replace d24:=d24.ext e29;replace c14:=c14.ext e29;replace d26:=d26.ext e29;replace c16:=c16.ext e29)|(have z:=c14;refine QT rfl ?_;intro h27 e27 c16;replace x:=x.trans e27;replace d24:=d24.ext e27;replace c14:=c14.ext e27;replace d26:=d26.ext e27)|(refine QT rfl ?_;intro h25 e25 c14;replace x:=x.trans e25;replace d24:=d24.ext e25)|(refine Qd rfl (k30b _ x) ?_;rintro v h26 ⟨e26,s26,rfl,d26⟩;replace x:=x.trans e26;replace d24:=d24.ext e26;replace c14:=c14.ext e26)|(refine Qd rfl (k30c _ x) ?_;rintro v h28 ⟨e28,s28,rfl,d28⟩;replace x:=x.trans e28;replace d24:=d24.ext e28;replace c14:=c14.ext e28;replace d26:=d26.ext e28;replace c16:=c16.ext e28)|refine QE rfl ?_|refine Qn rfl ?_|refine Qy rfl rfl ?_|refine XX rfl ?_|refine Xk rfl rfl (by omega) ?_|refine X2 rfl rfl (by omega) ?_|refine Xt rfl rfl ?_)
  have k29c:=Qc6 h29 s24 s26 R1 R2 d24 d26 sm1 sm2
  repeat' (((refine Qb ?_);first|refine Qv rfl c14 ?_|refine Qv rfl c16 ?_|(refine Qd rfl k29c ?_;rintro v h30 ⟨e30,O,r3,⟨s30,rfl,d30⟩,g3⟩)|(refine QT rfl ?_;intro h31 e31 c20;replace d30:=d30.ext e31;refine Stp.out ?_)|refine Qn rfl ?_|refine Xt rfl rfl ?_))
  refine⟨?_⟩
  rcases hO O r3 g3 with rfl|⟨rfl,rfl⟩
  ·repeat' first|apply Qh|apply Qc|apply Qs|apply QU|apply Xl|apply Xm|(apply Qe;first|apply QR|refine Qp rfl ?_|refine QM rfl rfl rfl rfl rfl ?_)|(apply Qb;first|refine Xa rfl ?_|refine QaF rfl ?_|refine QE rfl ?_|refine Qn rfl ?_|refine QK rfl rfl ?_|refine XC rfl rfl (by omega) ?_)
   exact⟨.inr rfl,rfl⟩
  ·have k20:=fun H1 s (i:IsInts H1 s [1])=>yc H1 0 (by decide) s [1] (by decide) i (by simp)
   have eo:=QiB (a:=0) (by decide)
   rw[eo]at k20
   have k23o:=fun H1 s (e:Ext h31 H1) (d:IsD H1 s (tms (⟨false,[(0,1)]⟩:Pol).ts))=>Uw H1 s30 s ⟨false,[(0,1)]⟩ ⟨false,[(0,1)]⟩ (d30.ext e) d rfl (by decide)
   repeat' first|apply Qh|apply Qc|apply Qs|apply QU|apply Xl|apply Xm|(apply Qe;first|apply QR|apply Xu|refine Ye (by assumption) ?_|refine Qp rfl ?_|refine QM rfl rfl rfl rfl rfl ?_)|(apply Qb;first|refine Qv rfl c20 ?_|(refine Qgz rfl ?_;intro h32 e32 i32)|(refine Qd rfl (k20 _ _ i32) ?_;rintro v h33 ⟨e33,s33,rfl,d33⟩)|(refine Qd rfl (k23o _ _ (e32.trans e33) d33) ?_;rintro v h34 ⟨e34,rfl⟩)|refine QE rfl ?_|refine Qn rfl ?_|refine QK rfl rfl ?_|refine Qy rfl rfl ?_|refine XC rfl rfl (by omega) ?_|refine Xk rfl rfl (by omega) ?_)
   exact⟨.inr rfl,rfl⟩
end
theorem call7(h0:Qa)(sa:SV)(a:Ent)(ha:IsInts h0 sa a.2)(la : -9223372036854775808<=a.1/\a.1<=9223372036854775807)(sb:SV)(b:Ent)(hb:IsInts h0 sb b.2)(lb : -9223372036854775808<=b.1/\b.1<=9223372036854775807)(sc:SV)(c:Ent)(hc:IsInts h0 sc c.2)(lc : -9223372036854775808<=c.1/\c.1<=9223372036854775807) :
 ∃ v h',Cal FT (@HKt ⟨true⟩) 7 [.agg [.int .i64 a.1,sa],.agg [.int .i64 b.1,sb],.agg [.int .i64 c.1,sc]] h0 v h'/\v = .sc (.bool true):=@Qlv ⟨true⟩ Qcf h0 sa a ha sb b hb sc c hc
