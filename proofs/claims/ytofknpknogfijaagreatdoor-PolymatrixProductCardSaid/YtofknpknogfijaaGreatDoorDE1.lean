/- Sums: contracts. -/
import Derived.Test.YtofknpknogfijaaGreatDoorRS3
namespace Go.Proofs.YtofknpknogfijaaGreatDoor
open Go.Ab
set_option linter.all false
set_option maxHeartbeats 16000000
set_option maxRecDepth 20000
attribute [local irreducible] Qm wA Xp Xo QI Qp QZ QY
variable [HB]
structure Cb(h0 h:Qa)(q3 q4 q5 q6 q7 q8:Nat)(sp sq s:SV)(F:Bool)(r:List Tm):Prop where
 e:Ext h0 h
 c3:Cel h q3 (.bool false) sp
 c4:Cel h q4 (.bool false) sq
 c5:Cel1 h q5 (.fn 52 [])
 c6:Cel h q6 (.bool false) .nilS
 c7:Cel h q7 (.bool false) s
 c8:Cel1 h q8 (.bool F)
 o:OwnD h0 h s (tms r)
 ord:h0.length<=q3/\q3<q4/\q4<q5/\q5<q6/\q6<q7/\q7<q8
theorem Qbi{h:Qa}{q p:Nat}{a b:SV}(c:Cel h q a b)(hn:p≠q)(x:Blk):Cel (h.set p x) q a b:=by
 unfold Cel at *
 rw[Gk hn];exact c
theorem QeG{h h1:Qa}{q p:Nat}{a x y:SV}(c:Cel1 h q a)(w:Wr h h1 p x y)(hn:p≠q):Cel1 h1 q a:=by
 rw[w.eq];exact c.set hn _
theorem Cb.st8{h0 h h1:Qa}{q3 q4 q5 q6 q7 q8:Nat}{sp sq s:SV}{F G:Bool}{r:List Tm}(u:Cb h0 h q3 q4 q5 q6 q7 q8 sp sq s F r)(hh:h1=h.set q8 (.cells [.bool G] true 0))(c:Cel1 h1 q8 (.bool G)):Cb h0 h1 q3 q4 q5 q6 q7 q8 sp sq s G r:=by
 have o:=u.ord
 subst hh
 exact⟨u.e.set (by omega) _,Qbi u.c3 (by omega) _,Qbi u.c4 (by omega) _,u.c5.set (by omega) _,Qbi u.c6 (by omega) _,Qbi u.c7 (by omega) _,c,u.o.set (u.o.cel u.c8) _,o⟩
theorem Cb.push{h0 h h6 h7:Qa}{q3 q4 q5 q6 q7 q8:Nat}{sp sq s s':SV}{F:Bool}{r r':List Tm}(u:Cb h0 h q3 q4 q5 q6 q7 q8 sp sq s F r)(o6:OwnD h0 h6 s' (tms r'))(e6:Ext h0 h6)(f6:Fram h h6 s s')(w7:Wr h6 h7 q7 (.bool false) s'):Cb h0 h7 q3 q4 q5 q6 q7 q8 sp sq s' F r':=by
 have o:=u.ord
 exact⟨w7.ext e6 (by omega),w7.keep (u.c3.fram f6 (u.o.cel u.c3)) (by omega),w7.keep (u.c4.fram f6 (u.o.cel u.c4)) (by omega),QeG (u.c5.fram f6 (u.o.cel u.c5)) w7 (by omega),w7.keep (u.c6.fram f6 (u.o.cel u.c6)) (by omega),w7.cel,QeG (u.c8.fram f6 (u.o.cel u.c8)) w7 (by omega),o6.wrC w7,o⟩
theorem QoB(h0:Qa)(a b:Int)(ha:a.natAbs<=cM)(hb:b.natAbs<=cM):∃ r h',Cal FT HKt 52 ([.sc (.int .i64 a),.sc (.int .i64 b)]++([]:List (Nat×Nat)).map fun p=>AV.sc (.ptr p.1 p.2)) h0 r h'/\r = .sc (.int .i64 (a+b))/\h'=h0:=by
 refine Cal.of (F:=a52) rfl rfl rfl ?_
 simp only[cM]at ha hb
 repeat' first|apply Qf|apply Qb|apply Qs|apply Qe|(apply Qd;first|refine Qq rfl ?_|refine QA rfl rfl ?_)|(apply Qc;first|refine Ql rfl ?_|refine QM rfl rfl (by omega) ?_)
 exact⟨.inr rfl,rfl,rfl⟩
def QhN(F:Bool)(c:Int):Bool:=F&&decide (c.natAbs<=cM)
theorem Vy(h0 h:Qa)(q3 q4 q5 q6 q7 q8:Nat)(sp sq s:SV)(F:Bool)(r:List Tm)(e a b:Int)(u:Cb h0 h q3 q4 q5 q6 q7 q8 sp sq s F r)(ha:a.natAbs<=cM)(hb:b.natAbs<=cM)(hl:r.length<=5000000) :
  ∃ v h',Cal FT HKt 83 [.sc (.int .i64 e),.sc (.int .i64 a),.sc (.int .i64 b),.sc (.ptr q5 0),.sc (.ptr q8 0),.sc (.ptr q7 0)] h v h'/\∃ s',Cb h0 h' q3 q4 q5 q6 q7 q8 sp sq s' (QhN F (a+b)) (r++put e (a+b)):=by
 refine Cal.of (F:=a83) rfl rfl rfl ?_
 have k54:=QoB h a b ha hb
 simp only[cM]at ha hb
 have k35:=fun H=>Qbk H (a+b) 1125899906842624 (by omega)
 have hd:∀ F',QhN F' (a+b)=(F'&&decide ((a+b).natAbs<=(1125899906842624:Int).toNat)):=fun _=>rfl
 rw[hd]
 generalize decide ((a+b).natAbs<=(1125899906842624:Int).toNat)=D at *
 generalize hC:a+b=C at *
 have c5:=u.c5.at
 have c8:=u.c8.at
 cases F <;> by_cases hz:C=0
 ·have hp:r++put e C=r:=by unfold put;rw[if_pos hz,Hk]
  rw[hp]
  repeat' first|apply Qf|apply Qb|apply Qn|apply Qe|(apply Qg;refine Qi rfl ?_)|(apply Qd;first|refine Qu rfl rfl rfl ?_|refine QG rfl rfl rfl rfl ?_)|(apply Qc;first|refine XG rfl c5 rfl ?_|refine XG rfl c8 rfl ?_|(refine XV rfl rfl k54 ?_;rintro v _ ⟨rfl,rfl⟩)|(refine Vj rfl rfl u.c8 ?_;intro h2 w2 c8';have u2:=u.st8 (G:=false) w2 c8')|refine Xd rfl ?_|refine Ql rfl ?_|refine QJ rfl rfl ?_|refine XJ rfl rfl (by omega) ?_)
  exact⟨.inl rfl,s,u2⟩
 ·have hp:r++put e C=r++[(e,C)]:=by unfold put;rw[if_neg hz]
  rw[hp]
  repeat' first|apply Qf|apply Qb|apply Qe|(apply Qg;refine Qk rfl ?_)|(apply Qd;first|refine Qu rfl rfl rfl ?_|refine QG rfl rfl rfl rfl ?_)|(apply Qc;first|refine XG rfl c5 rfl ?_|refine XG rfl c8 rfl ?_|(refine XV rfl rfl k54 ?_;rintro v _ ⟨rfl,rfl⟩)|(refine Vj rfl rfl u.c8 ?_;intro h2 w2 c8';have u2:=u.st8 (G:=false) w2 c8')|refine QW rfl ?_|refine QH rfl u2.c7 ?_|(refine Xz rfl rfl ?_)|(refine yL u2.e u2.o rfl rfl (by rw[Q6];simp only[XS];omega) ?_;intro s' h6 o6 e6 f6 l6;have cX6:=u2.c7.fram f6 (u2.o.cel u2.c7);have o6':OwnD h0 h6 s' (tms (r++[(e,C)])):=(by simpa [tms,tmP]using o6))|(refine JD rfl rfl cX6 ?_;intro h7 w7;have u7:=u2.push o6' e6 f6 w7)|refine Xd rfl ?_|refine Ql rfl ?_|refine QJ rfl rfl ?_|refine Ya rfl rfl (by omega) ?_)
  refine y4 ?_
  exact⟨.inl rfl,s',u7⟩
 ·have hp:r++put e C=r:=by unfold put;rw[if_pos hz,Hk]
  rw[hp]
  repeat' first|apply Qf|apply Qb|apply Qn|apply Qe|(apply Qg;refine Qi rfl ?_)|(apply Qd;first|refine Qu rfl rfl rfl ?_|refine QG rfl rfl rfl rfl ?_)|(apply Qc;first|refine XG rfl c5 rfl ?_|refine XG rfl c8 rfl ?_|(refine XV rfl rfl k54 ?_;rintro v _ ⟨rfl,rfl⟩)|(refine Qj rfl (k35 _) ?_;rintro v _ ⟨rfl,rfl⟩)|(refine Vj rfl rfl u.c8 ?_;intro h2 w2 c8';have u2:=u.st8 (G:=D) w2 c8')|refine QP rfl ?_|refine Ql rfl ?_|refine QR rfl rfl ?_|refine XJ rfl rfl (by omega) ?_)
  exact⟨.inl rfl,s,u2⟩
 ·have hp:r++put e C=r++[(e,C)]:=by unfold put;rw[if_neg hz]
  rw[hp]
  repeat' first|apply Qf|apply Qb|apply Qe|(apply Qg;refine Qk rfl ?_)|(apply Qd;first|refine Qu rfl rfl rfl ?_|refine QG rfl rfl rfl rfl ?_)|(apply Qc;first|refine XG rfl c5 rfl ?_|refine XG rfl c8 rfl ?_|(refine XV rfl rfl k54 ?_;rintro v _ ⟨rfl,rfl⟩)|(refine Qj rfl (k35 _) ?_;rintro v _ ⟨rfl,rfl⟩)|(refine Vj rfl rfl u.c8 ?_;intro h2 w2 c8';have u2:=u.st8 (G:=D) w2 c8')|refine QW rfl ?_|refine QH rfl u2.c7 ?_|(refine Xz rfl rfl ?_)|(refine yL u2.e u2.o rfl rfl (by rw[Q6];simp only[XS];omega) ?_;intro s' h6 o6 e6 f6 l6;have cX6:=u2.c7.fram f6 (u2.o.cel u2.c7);have o6':OwnD h0 h6 s' (tms (r++[(e,C)])):=(by simpa [tms,tmP]using o6))|(refine JD rfl rfl cX6 ?_;intro h7 w7;have u7:=u2.push o6' e6 f6 w7)|refine QP rfl ?_|refine Ql rfl ?_|refine QR rfl rfl ?_|refine Ya rfl rfl (by omega) ?_)
  refine y4 ?_
  exact⟨.inl rfl,s',u7⟩
def mA:List Tm->List Tm->List Tm:=mrg fun a b=>a+b
def Ul(l:List Tm):Prop:=∀ t∈l,t.2.natAbs<=cM
theorem QkK{F:Bool}{e c:Int}{M:List Tm}:(F=true/\Ul (put e c++M))↔(QhN F c=true/\Ul M):=by
 unfold Ul QhN
 simp only[Bool.and_eq_true,decide_eq_true_eq,Gy]
 constructor
 ·rintro⟨h1,h2⟩
  refine⟨⟨h1,?_⟩,fun t ht=>h2 t (.inr ht)⟩
  by_cases hz:c=0
  ·subst hz;simp
  ·exact h2 (e,c) (.inl (by unfold put;rw[if_neg hz];simp))
 ·rintro⟨⟨h1,h2⟩,h3⟩
  refine⟨h1,fun t ht=>ht.elim (fun ht=>?_) (h3 t)⟩
  rw[(Zk ht).1];exact h2
theorem Qd0(e c:Int):(put e c).length<=1:=by unfold put;split <;> simp
structure Mg(p q:List Tm)(i j:Nat)(F:Bool)(r:List Tm):Prop where
 eq:mA p q=r++mA (p.drop i) (q.drop j)
 ft:Ul (mA p q)↔(F=true/\Ul (mA (p.drop i) (q.drop j)))
 ln:r.length<=i+j
theorem Mg.step{p q:List Tm}{i j i' j':Nat}{F:Bool}{r:List Tm}(g:Mg p q i j F r){e c:Int}(h:mA (p.drop i) (q.drop j)=put e c++mA (p.drop i') (q.drop j'))(hl:i+j<i'+j'):Mg p q i' j' (QhN F c) (r++put e c) :=
 ⟨by rw[g.eq,h,GK],by rw[g.ft,h,QkK],by have:=g.ln;have:=Qd0 e c;rw[Gz];omega⟩
theorem mA_l{t:Tm}{p:List Tm}:mA (t::p) []=put t.1 (t.2+0)++mA p []:=by unfold mA;rw[mrg]
theorem mA_r{u:Tm}{q:List Tm}:mA [] (u::q)=put u.1 (0+u.2)++mA [] q:=by unfold mA;rw[mrg]
theorem mA_lt{t u:Tm}{p q:List Tm}(h:t.1<u.1):mA (t::p) (u::q)=put t.1 (t.2+0)++mA p (u::q):=by unfold mA;rw[mrg,if_pos h]
theorem mA_gt{t u:Tm}{p q:List Tm}(h:u.1<t.1):mA (t::p) (u::q)=put u.1 (0+u.2)++mA (t::p) q:=by unfold mA;rw[mrg,if_neg (by omega),if_pos h]
theorem mA_eq{t u:Tm}{p q:List Tm}(h:t.1=u.1):mA (t::p) (u::q)=put t.1 (t.2+u.2)++mA p q:=by unfold mA;rw[mrg,if_neg (by omega),if_neg (by omega)]
def I51(h0:Qa)(q3 q4 q5 q6 q7 q8:Nat)(sp sq:SV)(p q:List Tm)(E:Env)(h:Qa):Prop:=∃(i j:Nat) (s:SV) (F:Bool) (r:List Tm),i<=p.length/\j<=q.length/\Cb h0 h q3 q4 q5 q6 q7 q8 sp sq s F r/\Mg p q i j F r ∧
 E.keep [3,4,6,7,8,9,10,11]=[(3,some (.sc (.ptr q3 0))),(4,some (.sc (.ptr q4 0))),(6,some (.sc (.ptr q6 0))),(7,some (.sc (.ptr q7 0))),(8,some (.sc (.ptr q8 0))),(9,some (.sc (.fn 83 [(q5,0),(q8,0),(q7,0)]))),(10,some (.sc (.int .i64 (i:Nat)))),(11,some (.sc (.int .i64 (j:Nat))))]
def R51(h0:Qa)(q3 q4 q5 q6 q7 q8:Nat)(sp sq:SV)(p q:List Tm)(ex:Ex)(E:Env)(h:Qa):Prop:=ex = .ex 0/\∃(s:SV) (F:Bool),Cb h0 h q3 q4 q5 q6 q7 q8 sp sq s F (mA p q)/\(Ul (mA p q)↔F=true)/\∃ a b c d e f,
 E=[(3,a),(4,b),(6,some (.sc (.ptr q6 0))),(7,some (.sc (.ptr q7 0))),(8,some (.sc (.ptr q8 0))),(9,c),(10,d),(11,e),(40,f)]
def qC(p q:List Tm)(E:Env)(_:Qa):Nat:=match (E.keep [3,4,6,7,8,9,10,11]).get 10,(E.keep [3,4,6,7,8,9,10,11]).get 11 with|some (.sc (.int .i64 i)),some (.sc (.int .i64 j))=>p.length+q.length-(i+j).toNat|_,_=>0
theorem Qkb(h0:Qa)(q3 q4 q5 q6 q7 q8:Nat)(sp sq:SV)(p q:List Tm)(hp:IsD h0 sp (tms p))(hq:IsD h0 sq (tms q))(fp:∀ t∈p,t.2.natAbs<=cM/\t.1.natAbs<=eM)(fq:∀ t∈q,t.2.natAbs<=cM/\t.1.natAbs<=eM)(pl:p.length<=2097153)(ql:q.length<=2097153)(E:Env)(h:Qa)(hI:I51 h0 q3 q4 q5 q6 q7 q8 sp sq p q E h) :
  wA FT HKt Ql9 (E.keep [3,4,6,7,8,9,10,11]) h (QI (I51 h0 q3 q4 q5 q6 q7 q8 sp sq p q) (qC p q) (qC p q E h) (R51 h0 q3 q4 q5 q6 q7 q8 sp sq p q)):=by
 obtain⟨i,j,s,F,r,hi,hj,u,g,hE⟩:=hI
 have hm:qC p q E h=p.length+q.length-(i+j):=by unfold qC;rw[hE];show p.length+q.length-((i:Int)+(j:Int)).toNat=_;omega
 rw[hm,hE]
 have lp:=hp.len
 have lq:=hq.len
 rw[Q6]at lp lq
 have gl:=g.ln
 have rl:r.length<=5000000:=by omega
 have z0:(0:Int).natAbs<=cM:=by simp
 have fin:∀ i' j':Nat,i+j<i'+j'->i'<=p.length->j'<=q.length->p.length+q.length-(i'+j')<p.length+q.length-(i+j):=fun i' j' a b c=>by omega
 by_cases hip:i<p.length
 ·obtain⟨t,ht⟩:∃ t,p[i]?=some t:=⟨_,Ga hip⟩
  obtain⟨tc,te⟩:=fp t (Gg ht)
  obtain⟨id1,off1,cap1,e1,r1⟩:=hp.at (i:=i) (p:=tmP t) (by simp[ht])
  rw[Q6]at e1
  subst e1
  have rp:=Qw u.e r1
  obtain⟨rp1,rp2⟩:=rd1 rp
  by_cases hjq:j<q.length
  ·obtain⟨v,hv⟩:∃ v,q[j]?=some v:=⟨_,Ga hjq⟩
   obtain⟨vc,ve⟩:=fq v (Gg hv)
   obtain⟨id2,off2,cap2,e2,r2⟩:=hq.at (i:=j) (p:=tmP v) (by simp[hv])
   rw[Q6]at e2
   subst e2
   have rq:=Qw u.e r2
   obtain⟨rq1,rq2⟩:=rd1 rq
   by_cases hlt:t.1<v.1
   ·have g2:=g.step (i':=i+1) (j':=j) (by rw[YJ ht,YJ hv];exact mA_lt hlt) (by omega)
    have k82:=Vy h0 h q3 q4 q5 q6 q7 q8 _ _ s F r t.1 t.2 0 u tc z0 rl
    repeat' first|apply Qf|apply Qb|apply Qt|apply QL|apply Qn|apply Qe|apply Q7|apply Xm|apply Xn|(apply Qg;refine Qk rfl ?_)|(apply Qd;first|apply Q5|apply Xw|refine Xh rfl rfl rfl rfl rfl rfl rfl rfl ?_|refine Q9 rfl rfl rfl rfl rfl rfl rfl rfl rfl ?_)|(apply Qc;first|refine QW rfl ?_|refine QH rfl u.c3 ?_|refine QH rfl u.c4 ?_|refine Qr rfl lp ?_|refine Qr rfl lq ?_|refine Qy (esz:=2) rfl rfl (by omega) ?_|refine Q1 rfl rp1 ?_|refine Q1 rfl rp2 ?_|refine Q1 rfl rq1 ?_|(refine XV rfl rfl k82 ?_;rintro w h2 ⟨s',u2⟩)|refine Xd rfl ?_|refine QP rfl ?_|refine Ql rfl ?_|refine QR rfl rfl ?_|refine QJ rfl rfl ?_|refine QM rfl rfl (by omega) ?_|refine Qx rfl rfl (by omega) ?_|refine Xl rfl rfl (by omega) ?_)
    exact Xr ⟨i+1,j,s',_,_,by omega,hj,u2,g2,rfl⟩ (by unfold qC;show p.length+q.length-(((i:Nat):Int)+1+(j:Int)).toNat<_;omega)
   ·by_cases hgt:v.1<t.1
    ·have g2:=g.step (i':=i) (j':=j+1) (by rw[YJ ht,YJ hv];exact mA_gt hgt) (by omega)
     have k82:=Vy h0 h q3 q4 q5 q6 q7 q8 _ _ s F r v.1 0 v.2 u z0 vc rl
     repeat' first|apply Qf|apply Qb|apply Qt|apply QL|apply Qn|apply Qe|apply Q7|apply Xm|apply Xn|(apply Qg;first|refine Qk rfl ?_|refine Qi rfl ?_)|(apply Qd;first|apply Q5|apply Xw|refine Xh rfl rfl rfl rfl rfl rfl rfl rfl ?_|refine Q9 rfl rfl rfl rfl rfl rfl rfl rfl rfl ?_)|(apply Qc;first|refine QW rfl ?_|refine QH rfl u.c3 ?_|refine QH rfl u.c4 ?_|refine Qr rfl lp ?_|refine Qr rfl lq ?_|refine Qy (esz:=2) rfl rfl (by omega) ?_|refine Q1 rfl rp1 ?_|refine Q1 rfl rq1 ?_|refine Q1 rfl rq2 ?_|(refine XV rfl rfl k82 ?_;rintro w h2 ⟨s',u2⟩)|refine Xd rfl ?_|refine QP rfl ?_|refine Ql rfl ?_|refine QR rfl rfl ?_|refine QJ rfl rfl ?_|refine QM rfl rfl (by omega) ?_|refine Qx rfl rfl (by omega) ?_|refine QF rfl rfl (by omega) ?_|refine Xl rfl rfl (by omega) ?_)
     exact Xr ⟨i,j+1,s',_,_,hi,by omega,u2,g2,rfl⟩ (by unfold qC;show p.length+q.length-((i:Int)+(((j:Nat):Int)+1)).toNat<_;omega)
    ·have heq:t.1=v.1:=by omega
     have g2:=g.step (i':=i+1) (j':=j+1) (by rw[YJ ht,YJ hv];exact mA_eq heq) (by omega)
     have k82:=Vy h0 h q3 q4 q5 q6 q7 q8 _ _ s F r t.1 t.2 v.2 u tc vc rl
     repeat' first|apply Qf|apply Qb|apply Qt|apply QL|apply Qn|apply Qe|apply Q7|apply Xm|apply Xn|(apply Qg;first|refine Qk rfl ?_|refine Qi rfl ?_)|(apply Qd;first|apply Q5|apply Xw|refine Xh rfl rfl rfl rfl rfl rfl rfl rfl ?_|refine Q9 rfl rfl rfl rfl rfl rfl rfl rfl rfl ?_)|(apply Qc;first|refine QW rfl ?_|refine QH rfl u.c3 ?_|refine QH rfl u.c4 ?_|refine Qr rfl lp ?_|refine Qr rfl lq ?_|refine Qy (esz:=2) rfl rfl (by omega) ?_|refine Q1 rfl rp1 ?_|refine Q1 rfl rp2 ?_|refine Q1 rfl rq1 ?_|refine Q1 rfl rq2 ?_|(refine XV rfl rfl k82 ?_;rintro w h2 ⟨s',u2⟩)|refine Xd rfl ?_|refine QP rfl ?_|refine Ql rfl ?_|refine QR rfl rfl ?_|refine QJ rfl rfl ?_|refine QM rfl rfl (by omega) ?_|refine Qx rfl rfl (by omega) ?_|refine QF rfl rfl (by omega) ?_|refine Xl rfl rfl (by omega) ?_)
     exact Xr ⟨i+1,j+1,s',_,_,by omega,by omega,u2,g2,rfl⟩ (by unfold qC;show p.length+q.length-(((i:Nat):Int)+1+(((j:Nat):Int)+1)).toNat<_;omega)
  ·have hjn:j=q.length:=by omega
   subst hjn
   have g2:=g.step (i':=i+1) (j':=q.length) (by rw[YJ ht,List.drop_length];exact mA_l) (by omega)
   have k82:=Vy h0 h q3 q4 q5 q6 q7 q8 _ _ s F r t.1 t.2 0 u tc z0 rl
   repeat' first|apply Qf|apply Qb|apply Qt|apply QL|apply Qn|apply Qe|apply Q7|apply Xm|apply Xn|(apply Qg;refine Qk rfl ?_)|(apply Qd;first|apply Q5|apply Xw|refine Xh rfl rfl rfl rfl rfl rfl rfl rfl ?_|refine Q9 rfl rfl rfl rfl rfl rfl rfl rfl rfl ?_)|(apply Qc;first|refine QW rfl ?_|refine QH rfl u.c3 ?_|refine QH rfl u.c4 ?_|refine Qr rfl lp ?_|refine Qr rfl lq ?_|refine Qy (esz:=2) rfl rfl (by omega) ?_|refine Q1 rfl rp1 ?_|refine Q1 rfl rp2 ?_|(refine XV rfl rfl k82 ?_;rintro w h2 ⟨s',u2⟩)|refine Xd rfl ?_|refine UD rfl ?_|refine Ql rfl ?_|refine QR rfl rfl ?_|refine QM rfl rfl (by omega) ?_|refine Qx rfl rfl (by omega) ?_|refine Xu rfl rfl (by omega) ?_)
   exact Xr ⟨i+1,q.length,s',_,_,by omega,hj,u2,g2,rfl⟩ (by unfold qC;show p.length+q.length-(((i:Nat):Int)+1+(q.length:Int)).toNat<_;omega)
 ·have hin:i=p.length:=by omega
  subst hin
  by_cases hjq:j<q.length
  ·obtain⟨v,hv⟩:∃ v,q[j]?=some v:=⟨_,Ga hjq⟩
   obtain⟨vc,ve⟩:=fq v (Gg hv)
   obtain⟨id2,off2,cap2,e2,r2⟩:=hq.at (i:=j) (p:=tmP v) (by simp[hv])
   rw[Q6]at e2
   subst e2
   have rq:=Qw u.e r2
   obtain⟨rq1,rq2⟩:=rd1 rq
   have g2:=g.step (i':=p.length) (j':=j+1) (by rw[YJ hv,List.drop_length];exact mA_r) (by omega)
   have k82:=Vy h0 h q3 q4 q5 q6 q7 q8 _ _ s F r v.1 0 v.2 u z0 vc rl
   repeat' first|apply Qf|apply Qb|apply Qt|apply QL|apply Qn|apply Qe|apply Q7|apply Xm|apply Xn|(apply Qg;first|refine Qk rfl ?_|refine Qi rfl ?_)|(apply Qd;first|apply Q5|apply Xw|refine Xh rfl rfl rfl rfl rfl rfl rfl rfl ?_|refine Q9 rfl rfl rfl rfl rfl rfl rfl rfl rfl ?_)|(apply Qc;first|refine QW rfl ?_|refine QH rfl u.c3 ?_|refine QH rfl u.c4 ?_|refine Qr rfl lp ?_|refine Qr rfl lq ?_|refine Qy (esz:=2) rfl rfl (by omega) ?_|refine Q1 rfl rq1 ?_|refine Q1 rfl rq2 ?_|(refine XV rfl rfl k82 ?_;rintro w h2 ⟨s',u2⟩)|refine Xd rfl ?_|refine QP rfl ?_|refine Ql rfl ?_|refine QR rfl rfl ?_|refine QJ rfl rfl ?_|refine QM rfl rfl (by omega) ?_|refine Qx rfl rfl (by omega) ?_|refine QF rfl rfl (by omega) ?_|refine Xu rfl rfl (by omega) ?_|refine Xl rfl rfl (by omega) ?_)
   exact Xr ⟨p.length,j+1,s',_,_,hi,by omega,u2,g2,rfl⟩ (by unfold qC;show p.length+q.length-((p.length:Int)+(((j:Nat):Int)+1)).toNat<_;omega)
  ·have hjn:j=q.length:=by omega
   subst hjn
   repeat' first|apply Qf|apply Qb|apply QS|apply QQ|apply Qe|(apply Qg;refine Qi rfl ?_)|(apply Qd;refine Q9 rfl rfl rfl rfl rfl rfl rfl rfl rfl ?_)|(apply Qc;first|refine QW rfl ?_|refine QH rfl u.c3 ?_|refine QH rfl u.c4 ?_|refine Qr rfl lp ?_|refine Qr rfl lq ?_|refine QP rfl ?_|refine Ql rfl ?_|refine QJ rfl rfl ?_|refine QF rfl rfl (by omega) ?_)
   have h1:=g.eq
   have h2:=g.ft
   have e0:mA [] []=[]:=by unfold mA;rw[mrg]
   rw[List.drop_length,List.drop_length,e0]at h1 h2
   rw[Hk]at h1
   rw[← h1]at u
   exact XI ⟨rfl,s,F,u,h2.trans ⟨fun h=>h.1,fun h=>⟨h,fun t ht=>absurd ht (by simp)⟩⟩,_,_,_,_,_,_,rfl⟩
open Classical in
noncomputable def qd(p q:Pol):Pol:=if p.big=true∨q.big=true then Zi else if Ul (mA p.ts q.ts) then ⟨false,mA p.ts q.ts⟩ else Zi
theorem QoC(h0:Qa)(sp sq:SV)(p q:Pol)(hp:IsD h0 sp (tms p.ts))(hq:IsD h0 sq (tms q.ts))(kp:Pok p)(kq:Pok q) :
  ∃ r h',Cal FT HKt 51 [.agg [.bool p.big,sp],.agg [.bool q.big,sq],.sc (.fn 52 [])] h0 r h'/\Ext h0 h'/\VM h' r (qd p q):=by
 refine Cal.of (F:=a51) rfl rfl rfl ?_
 have lp:=hp.len
 have lq:=hq.len
 rw[Q6]at lp lq
 by_cases hbp:p.big=true
 ·have e:qd p q=Zi:=by unfold qd;rw[if_pos (.inl hbp)]
  rw[e,hbp]
  repeat' first|apply Qf|apply Qb|apply QC|apply Qs|apply Qe|(apply Qg;refine Qk rfl ?_)|(apply Qd;first|refine Qq rfl ?_|refine QG rfl rfl rfl rfl ?_|refine QO rfl rfl rfl rfl rfl ?_)|(apply Qc;first|(have z:=e5;apply Xa;intro h6 e6 c6;have d3:=c3.ext (e4.trans (e5.trans e6)))|(have z:=e4;refine Qc8 rfl ?_;intro h5 e5 c5)|(have z:=e3;refine QD rfl ?_;intro h4 e4 c4)|(refine QD rfl ?_;intro h3 e3 c3)|refine QN rfl d3 ?_|(refine Xz rfl rfl ?_)|(refine Xg rfl rfl c6 ?_;intro h7 w7)|refine Xd rfl ?_|refine Ql rfl ?_|refine QR rfl rfl ?_|refine Xk rfl rfl ?_)
  exact⟨.inr rfl,Xc rfl w7.cel.read ⟨w7.ext (e3.trans (e4.trans (e5.trans e6))) (Gq e3.len (Gq e4.len e5.len)),.nilS,rfl,IsD.nil _⟩⟩
 have hbp':p.big=false:=by simpa using hbp
 rw[hbp']
 by_cases hbq:q.big=true
 ·have e:qd p q=Zi:=by unfold qd;rw[if_pos (.inr hbq)]
  rw[e,hbq]
  repeat' first|apply Qf|apply Qb|apply QC|apply Qs|apply Qe|(apply Qg;refine Qk rfl ?_)|(apply Qd;first|refine Qq rfl ?_|refine QG rfl rfl rfl rfl ?_|refine QO rfl rfl rfl rfl rfl ?_)|(apply Qc;first|(have z:=e5;apply Xa;intro h6 e6 c6;have d3:=c3.ext (e4.trans (e5.trans e6));have d4:=c4.ext (e5.trans e6))|(have z:=e4;refine Qc8 rfl ?_;intro h5 e5 c5)|(have z:=e3;refine QD rfl ?_;intro h4 e4 c4)|(refine QD rfl ?_;intro h3 e3 c3)|refine QN rfl d3 ?_|refine QN rfl d4 ?_|(refine Xz rfl rfl ?_)|(refine Xg rfl rfl c6 ?_;intro h7 w7)|refine QP rfl ?_|refine Ql rfl ?_|refine QJ rfl rfl ?_|refine Xk rfl rfl ?_)
  exact⟨.inr rfl,Xc rfl w7.cel.read ⟨w7.ext (e3.trans (e4.trans (e5.trans e6))) (Gq e3.len (Gq e4.len e5.len)),.nilS,rfl,IsD.nil _⟩⟩
 have hbq':q.big=false:=by simpa using hbq
 rw[hbq']
 have nb:¬(p.big=true∨q.big=true):=fun h=>h.elim hbp hbq
 have pl:=kp.len
 have ql:=kq.len
 repeat' first|apply Qf|apply Qb|apply Qt|apply Qn|apply Qe|(apply Qg;refine Qi rfl ?_)|(apply Qd;first|refine QG rfl rfl rfl rfl ?_|refine QO rfl rfl rfl rfl rfl ?_|refine QE rfl rfl rfl rfl rfl rfl ?_|refine Xh rfl rfl rfl rfl rfl rfl rfl rfl ?_)|(apply Qc;first|(have z:=e7;apply JE;intro h8 e8 c8;have u8:Cb h0 h8 h0.length h3.length h4.length h5.length hB.length h7.length sp sq S false []:=⟨xB.trans (e7.trans e8),d3_B.ext (e7.trans e8),d4_B.ext (e7.trans e8),Cel1.ext d5_B (e7.trans e8),c6_B.ext (e7.trans e8),c7.ext e8,c8,((oB.ext e7).ext e8).weaken x6.len,⟨Gd _,c3.lt,c4.lt,Cel1.lt c5,by have:=c6.lt;omega,c7.lt⟩⟩)|(have z:=xB;refine X2 rfl ?_;intro h7 e7 c7)|(have z:=e5;apply Xa;intro h6 e6 c6;have d3:=c3.ext (e4.trans (e5.trans e6));have d4:=c4.ext (e5.trans e6);have d5:=Cel1.ext c5 e6;have x6:=e3.trans (e4.trans (e5.trans e6)))|(have z:=e4;refine Qc8 rfl ?_;intro h5 e5 c5)|(have z:=e3;refine QD rfl ?_;intro h4 e4 c4)|(refine QD rfl ?_;intro h3 e3 c3)|refine QN rfl d3 ?_|refine QN rfl d4 ?_|refine QH rfl d3 ?_|refine QH rfl d4 ?_|refine Qr rfl lp ?_|refine Qr rfl lq ?_|(refine Qhz x6 rfl rfl (by simp only[XS];omega) ?_;intro S hB oB eB xB lB;have d3_B:=d3.ext eB;have d4_B:=d4.ext eB;have d5_B:=Cel1.ext d5 eB;have c6_B:=c6.ext eB)|(refine Xz rfl rfl ?_)|(refine Vj rfl rfl u8.c8 ?_;intro h9 w9 c9;have u9:=u8.st8 (G:=true) w9 c9)|refine QP rfl ?_|refine Ql rfl ?_|refine QJ rfl rfl ?_|refine QM rfl rfl (by omega) ?_|refine Xk rfl rfl ?_)
 have g0:Mg p.ts q.ts 0 0 true []:=⟨rfl,⟨fun h=>⟨rfl,h⟩,fun h=>h.2⟩,Gd _⟩
 refine YQ (I51 h0 h0.length h3.length h4.length h5.length hB.length h7.length sp sq p.ts q.ts) (qC p.ts q.ts) (R51 h0 h0.length h3.length h4.length h5.length hB.length h7.length sp sq p.ts q.ts) ⟨0,0,S,true,[],Gm _,Gm _,u9,g0,rfl⟩ (Qkb h0 h0.length h3.length h4.length h5.length hB.length h7.length sp sq p.ts q.ts hp hq (fun t ht=>⟨kp.cf t ht,kp.ex t ht⟩) (fun t ht=>⟨kq.cf t ht,kq.ex t ht⟩) pl ql) ?_
 rintro ex E' hC ⟨rfl,s,F,uC,hF,_,_,_,_,_,_,rfl⟩
 have o:=uC.ord
 have c8:=uC.c8.at
 have c6:=uC.c6
 have lq6:h0.length<=h5.length:=by omega
 cases F
 ·have e:qd p q=Zi:=by unfold qd;rw[if_neg nb,if_neg (fun h=>by have:=hF.1 h;simp at this)]
  rw[e]
  repeat' first|apply Qf|apply Qb|apply QC|apply QK|apply Qs|apply Qe|(apply Qg;refine Qk rfl ?_)|(apply Qd;first|refine Qq rfl ?_|refine Qu rfl rfl rfl ?_)|(apply Qc;first|refine XG rfl c8 rfl ?_|(refine Xz rfl rfl ?_)|(refine Xg rfl rfl c6 ?_;intro hD wD)|refine X1 rfl ?_)
  exact⟨.inr rfl,Xc rfl wD.cel.read ⟨wD.ext uC.e lq6,.nilS,rfl,IsD.nil _⟩⟩
 ·have e:qd p q=⟨false,mA p.ts q.ts⟩:=by unfold qd;rw[if_neg nb,if_pos (hF.2 rfl)]
  rw[e]
  repeat' first|apply Qf|apply Qb|apply QK|apply Qn|apply Qs|apply Qe|(apply Qg;refine Qi rfl ?_)|(apply Qd;first|refine Qq rfl ?_|refine Qu rfl rfl rfl ?_)|(apply Qc;first|refine XG rfl c8 rfl ?_|refine QU rfl uC.c7 ?_|(refine Xg rfl rfl c6 ?_;intro hD wD)|refine XC rfl ?_)
  exact⟨.inr rfl,Xc rfl wD.cel.read ⟨wD.ext uC.e lq6,s,rfl,(uC.o.wrC wD).is⟩⟩
theorem QoN(h0:Qa)(sp sq:SV)(p q:Pol)(hp:IsD h0 sp (tms p.ts))(hq:IsD h0 sq (tms q.ts))(kp:Pok p)(kq:Pok q) :
  ∃ r h',Cal FT HKt 21 [.agg [.bool p.big,sp],.agg [.bool q.big,sq]] h0 r h'/\Ext h0 h'/\VM h' r (qd p q):=by
 refine Cal.of (F:=a21) rfl rfl rfl ?_
 have k53:=fun H (e:Ext h0 H)=>QoC H sp sq p q (hp.ext e) (hq.ext e) kp kq
 generalize qd p q=D at *
 repeat' first|apply Qf|apply Qb|apply Qs|apply Qe|(apply Qd;first|refine Qq rfl ?_|refine Qu rfl rfl rfl ?_)|(apply Qc;first|(have z:=e2;apply Xa;intro h3 e3 c4;have d2:=c2.ext (e2.trans e3);have d3:=c3.ext e3;have x3:=e1.trans (e2.trans e3))|(have z:=e1;refine QD rfl ?_;intro h2 e2 c3)|(refine QD rfl ?_;intro h1 e1 c2)|refine QU rfl d2 ?_|refine QU rfl d3 ?_|(refine Qj rfl (k53 h3 x3) ?_;rintro r h4 ⟨e4,s,rfl,is⟩;have c4_4:=c4.ext e4)|(refine Xg rfl rfl c4_4 ?_;intro h5 w5))
 exact⟨.inr rfl,Xc rfl w5.cel.read ⟨w5.ext (x3.trans e4) (Gq e1.len e2.len),s,rfl,is.wrC w5⟩⟩
theorem QeM(h0:Qa)(a:Int):∃ r h',Cal FT HKt 117 [.sc (.int .i64 a)] h0 r h'/\r = .sc (.bool false)/\h'=h0:=by
 refine Cal.of (F:=a117) rfl rfl rfl ?_
 repeat' first|apply Qf|apply Qb|apply Qs|apply Qe|(apply Qd;refine Qq rfl ?_)|(apply Qc;first|refine Ql rfl ?_|refine XJ rfl rfl (by omega) ?_)
 exact⟨.inr rfl,rfl,rfl⟩
def JT(a b:Int):Int:=if a<b then -1 else if b<a then 1 else 0
theorem Qon(h0:Qa)(a b:Int):∃ r h',Cal FT HKt 91 [.sc (.int .i64 a),.sc (.int .i64 b)] h0 r h'/\r = .sc (.int .i64 (JT a b))/\h'=h0:=by
 refine Cal.of (F:=a91) rfl rfl rfl ?_
 have k84a:=fun H=>QeM H a
 have k84b:=fun H=>QeM H b
 by_cases h1:a<b
 ·have e:JT a b = -1:=by unfold JT;rw[if_pos h1]
  rw[e]
  repeat' first|apply Qf|apply Qb|apply QC|apply Qn|apply Qs|apply Qe|(apply Qg;first|refine Qk rfl ?_|refine Qi rfl ?_)|(apply Qd;first|refine Qq rfl ?_|refine QA rfl rfl ?_|refine Qu rfl rfl rfl ?_|refine QG rfl rfl rfl rfl ?_)|(apply Qc;first|(refine Qj rfl (k84a _) ?_;rintro r _ ⟨rfl,rfl⟩)|(refine Qj rfl (k84b _) ?_;rintro r _ ⟨rfl,rfl⟩)|refine Ql rfl ?_|refine Qx rfl rfl (by omega) ?_)
  exact⟨.inr rfl,rfl,rfl⟩
 ·by_cases h2:b<a
  ·have e:JT a b=1:=by unfold JT;rw[if_neg h1,if_pos h2]
   rw[e]
   repeat' first|apply Qf|apply Qb|apply QC|apply Qn|apply Qs|apply Qe|(apply Qg;first|refine Qk rfl ?_|refine Qi rfl ?_)|(apply Qd;first|refine Qq rfl ?_|refine QA rfl rfl ?_|refine Qu rfl rfl rfl ?_|refine QG rfl rfl rfl rfl ?_)|(apply Qc;first|(refine Qj rfl (k84a _) ?_;rintro r _ ⟨rfl,rfl⟩)|(refine Qj rfl (k84b _) ?_;rintro r _ ⟨rfl,rfl⟩)|refine Ql rfl ?_|refine QF rfl rfl (by omega) ?_|refine XK rfl rfl (by omega) ?_)
   exact⟨.inr rfl,rfl,rfl⟩
  ·have e:JT a b=0:=by unfold JT;rw[if_neg h1,if_neg h2]
   rw[e]
   repeat' first|apply Qf|apply Qb|apply Qn|apply Qs|apply Qe|(apply Qg;refine Qi rfl ?_)|(apply Qd;first|refine Qq rfl ?_|refine QA rfl rfl ?_|refine Qu rfl rfl rfl ?_|refine QG rfl rfl rfl rfl ?_)|(apply Qc;first|(refine Qj rfl (k84a _) ?_;rintro r _ ⟨rfl,rfl⟩)|(refine Qj rfl (k84b _) ?_;rintro r _ ⟨rfl,rfl⟩)|refine Ql rfl ?_|refine QF rfl rfl (by omega) ?_|refine XD rfl rfl (by omega) ?_)
   exact⟨.inr rfl,rfl,rfl⟩
theorem Qie(h0:Qa)(a c b:Int):∃ r h',Cal FT HKt 90 ([.agg [.int .i64 a,.int .i64 c],.sc (.int .i64 b)]++([]:List (Nat×Nat)).map fun p=>AV.sc (.ptr p.1 p.2)) h0 r h'/\Ext h0 h'/\r = .sc (.int .i64 (JT a b)):=by
 refine Cal.of (F:=a90) rfl rfl rfl ?_
 have k63:=fun H=>Qon H a b
 repeat' first|apply Qf|apply Qb|apply Qs|apply Qe|(apply Qd;first|refine Qq rfl ?_|refine QA rfl rfl ?_)|(apply Qc;first|(refine QD rfl ?_;intro h1 e1 c1)|refine QN rfl c1 ?_|(refine Qj rfl (k63 _) ?_;rintro r _ ⟨rfl,rfl⟩)|refine Ql rfl ?_|refine Xk rfl rfl ?_)
 exact⟨.inr rfl,e1,rfl⟩
def I89(h0:Qa)(s:SV)(ts:List Tm)(tg:Int)(E:Env)(h:Qa):Prop:=Ext h0 h/\∃ i j:Nat,i<=j/\j<=ts.length/\(∀ k,k<i->∀ t,ts[k]?=some t->t.1<tg)/\(∀ k,j<=k->∀ t,ts[k]?=some t->tg<=t.1) ∧
 E.keep [0,1,2,8,9,10]=[(0,some (.sc s)),(1,some (.sc (.int .i64 tg))),(2,some (.sc (.fn 90 []))),(8,some (.sc (.int .i64 (ts.length:Nat)))),(9,some (.sc (.int .i64 (i:Nat)))),(10,some (.sc (.int .i64 (j:Nat))))]
def R89(h0:Qa)(s:SV)(ts:List Tm)(tg:Int)(ex:Ex)(E:Env)(h:Qa):Prop:=Ext h0 h/\ex = .ex 0/\∃ i:Nat,i<=ts.length/\(∀ k,k<i->∀ t,ts[k]?=some t->t.1<tg)/\(∀ k,i<=k->∀ t,ts[k]?=some t->tg<=t.1)/\∃ a b,
 E=[(0,some (.sc s)),(1,some (.sc (.int .i64 tg))),(2,some (.sc (.fn 90 []))),(8,some (.sc (.int .i64 (ts.length:Nat)))),(9,some (.sc (.int .i64 (i:Nat)))),(10,a),(17,b)]
def qS(E:Env)(_:Qa):Nat:=match (E.keep [0,1,2,8,9,10]).get 9,(E.keep [0,1,2,8,9,10]).get 10 with|some (.sc (.int .i64 i)),some (.sc (.int .i64 j))=>(j-i).toNat|_,_=>0
theorem Qdt{ts:List Tm}(hc:Can ts){a b:Nat}{t u:Tm}(ha:ts[a]?=some t)(hb:ts[b]?=some u)(h:a<=b):t.1<=u.1:=by
 by_cases e:a=b
 ·subst e;rw[ha]at hb;cases hb;exact Int.le_refl _
 ·obtain⟨h1,rfl⟩:=Gb.1 ha
  obtain⟨h2,rfl⟩:=Gb.1 hb
  have:=(List.pairwise_iff_getElem.1 hc.asc) a b h1 h2 (by omega)
  omega
theorem Qj2(h0:Qa)(s:SV)(ts:List Tm)(tg:Int)(hs:IsD h0 s (tms ts))(hc:Can ts)(hl:ts.length<=3000000)(E:Env)(h:Qa)(hI:I89 h0 s ts tg E h) :
  wA FT HKt QlX (E.keep [0,1,2,8,9,10]) h (QI (I89 h0 s ts tg) qS (qS E h) (R89 h0 s ts tg)):=by
 obtain⟨he,i,j,hij,hj,hlo,hhi,hE⟩:=hI
 have hm:qS E h=j-i:=by unfold qS;rw[hE];show ((j:Int)-(i:Int)).toNat=_;omega
 rw[hm,hE]
 by_cases hlt:i<j
 ·obtain⟨m,hmm⟩:∃ m:Nat,m=(i+j)/2:=⟨_,rfl⟩
  have e1:((i:Int)+(j:Int))/((2^1:Nat):Int)=(m:Int):=by rw[hmm];simp
  obtain⟨t,ht⟩:∃ t,ts[m]?=some t:=⟨_,Ga (by omega)⟩
  obtain⟨id,off,cap,e2,r0⟩:=hs.at (i:=m) (p:=tmP t) (by simp[ht])
  rw[Q6]at e2
  subst e2
  have r1:=Qw he r0
  have k62:=Qie h t.1 t.2 tg
  by_cases hv:t.1<tg
  ·have e:JT t.1 tg = -1:=by unfold JT;rw[if_pos hv]
   rw[e]at k62
   repeat' first|apply Qf|apply Qb|apply Qt|apply QL|apply Qn|apply Qe|(apply Qg;refine Qk rfl ?_)|(apply Qd;first|refine QE rfl rfl rfl rfl rfl rfl ?_|refine Q4 rfl rfl rfl rfl rfl rfl rfl ?_|refine Xh rfl rfl rfl rfl rfl rfl rfl rfl ?_)|(apply Qc;first|(refine Ua rfl (by omega) ?_)|(refine XU (q:=1) rfl rfl rfl (by omega) ?_;rw[e1])|refine Qy (esz:=2) rfl rfl (by omega) ?_|refine XH rfl r1 ?_|(refine XV rfl rfl k62 ?_;rintro r h2 ⟨e2,rfl⟩)|refine Ql rfl ?_|refine QM rfl rfl (by omega) ?_|refine YG rfl (by omega) ?_|refine Qx rfl rfl (by omega) ?_)
   refine Xr ⟨he.trans e2,m+1,j,by omega,hj,fun k hk u hu=>?_,hhi,rfl⟩ (by unfold qS;show ((j:Int)-((m:Nat)+1)).toNat<j-i;omega)
   have:=Qdt hc hu ht (by omega)
   omega
  ·have e:¬ JT t.1 tg<0:=by unfold JT;rw[if_neg hv];split <;> omega
   generalize JT t.1 tg=C at *
   repeat' first|apply Qf|apply Qb|apply Qt|apply QL|apply Qn|apply Qe|(apply Qg;first|refine Qk rfl ?_|refine Qi rfl ?_)|(apply Qd;first|refine QE rfl rfl rfl rfl rfl rfl ?_|refine Q4 rfl rfl rfl rfl rfl rfl rfl ?_|refine Xh rfl rfl rfl rfl rfl rfl rfl rfl ?_)|(apply Qc;first|(refine Ua rfl (by omega) ?_)|(refine XU (q:=1) rfl rfl rfl (by omega) ?_;rw[e1])|refine Qy (esz:=2) rfl rfl (by omega) ?_|refine XH rfl r1 ?_|(refine XV rfl rfl k62 ?_;rintro r h2 ⟨e2,rfl⟩)|refine Ql rfl ?_|refine QM rfl rfl (by omega) ?_|refine YG rfl (by omega) ?_|refine Qx rfl rfl (by omega) ?_|refine QF rfl rfl (by omega) ?_)
   refine Xr ⟨he.trans e2,i,m,by omega,by omega,hlo,fun k hk u hu=>?_,rfl⟩ (by unfold qS;show ((m:Int)-(i:Int)).toNat<j-i;omega)
   have:=Qdt hc ht hu hk
   omega
 ·have:j=i:=by omega
  subst this
  repeat' first|apply Qf|apply Qb|apply QS|apply QQ|apply Qe|(apply Qg;refine Qi rfl ?_)|(apply Qd;refine Q4 rfl rfl rfl rfl rfl rfl rfl ?_)|(apply Qc;first|refine Ql rfl ?_|refine QF rfl rfl (by omega) ?_)
  exact XI ⟨he,rfl,j,hj,hlo,hhi,_,_,rfl⟩
theorem Qop(h0:Qa)(s:SV)(ts:List Tm)(tg:Int)(hs:IsD h0 s (tms ts))(hc:Can ts)(hl:ts.length<=3000000) :
  ∃ r h',Cal FT HKt 89 [.sc s,.sc (.int .i64 tg),.sc (.fn 90 [])] h0 r h'/\Ext h0 h'/\∃(i:Nat) (b:Bool),r = .tup [.sc (.int .i64 (i:Nat)),.sc (.bool b)]/\((b=true/\∃ t,ts[i]?=some t/\t.1=tg)∨(b=false/\cf ts tg=0)):=by
 refine Cal.of (F:=a89) rfl rfl rfl ?_
 have ls:=hs.len
 rw[Q6]at ls
 repeat' first|apply Qf|apply Qb|apply Qt|apply Qe|(apply Qd;first|refine Qu rfl rfl rfl ?_|refine QG rfl rfl rfl rfl ?_|refine QE rfl rfl rfl rfl rfl rfl ?_)|(apply Qc;first|refine Qr rfl ls ?_|refine Ql rfl ?_)
 refine YQ (I89 h0 s ts tg) qS (R89 h0 s ts tg) ⟨Ext.refl _,0,ts.length,Gm _,Gd _,fun k hk=>absurd hk (Nat.not_lt_zero _),fun k hk t ht=>by have:=(Gb.1 ht).1;omega,rfl⟩ (Qj2 h0 s ts tg hs hc hl) ?_
 rintro ex E' h1 ⟨e1,rfl,i,hi,hlo,hhi,_,_,rfl⟩
 by_cases hlt:i<ts.length
 ·obtain⟨t,ht⟩:∃ t,ts[i]?=some t:=⟨_,Ga hlt⟩
  have hge:=hhi i (Gd _) t ht
  obtain⟨id,off,cap,e2,r0⟩:=hs.at (i:=i) (p:=tmP t) (by simp[ht])
  rw[Q6]at e2
  subst e2
  have r1:=Qw e1 r0
  have k62:=Qie h1 t.1 t.2 tg
  by_cases hv:t.1=tg
  ·have e:JT t.1 tg=0:=by unfold JT;rw[if_neg (by omega),if_neg (by omega)]
   rw[e]at k62
   repeat' first|apply Qf|apply Qb|apply QK|apply Qs|apply Qe|(apply Qd;refine QA rfl rfl ?_)|(apply Qc;first|refine Qy (esz:=2) rfl rfl (by omega) ?_|refine XH rfl r1 ?_|(refine XV rfl rfl k62 ?_;rintro r h2 ⟨e2,rfl⟩)|refine QP rfl ?_|refine Ql rfl ?_|refine QR rfl rfl ?_|refine Qx rfl rfl (by omega) ?_|refine Xu rfl rfl (by omega) ?_)
   exact⟨.inr rfl,e1.trans e2,i,true,rfl,.inl ⟨rfl,t,ht,hv⟩⟩
  ·have e:JT t.1 tg≠0:=by unfold JT;rw[if_neg (by omega),if_pos (by omega)];omega
   generalize JT t.1 tg=C at *
   repeat' first|apply Qf|apply Qb|apply QK|apply Qs|apply Qe|(apply Qd;refine QA rfl rfl ?_)|(apply Qc;first|refine Qy (esz:=2) rfl rfl (by omega) ?_|refine XH rfl r1 ?_|(refine XV rfl rfl k62 ?_;rintro r h2 ⟨e2,rfl⟩)|refine QP rfl ?_|refine Ql rfl ?_|refine QR rfl rfl ?_|refine Qx rfl rfl (by omega) ?_|refine Xl rfl rfl (by omega) ?_)
   refine⟨.inr rfl,e1.trans e2,i,false,rfl,.inr ⟨rfl,qw fun u hu he=>?_⟩⟩
   obtain⟨k,hk⟩:=List.getElem?_of_mem hu
   by_cases hki:k<i
   ·have:=hlo k hki u hk;omega
   ·have:=Qdt hc ht hk (by omega);omega
 ·repeat' first|apply Qf|apply Qb|apply QK|apply Qs|apply Qe|(apply Qd;refine QA rfl rfl ?_)|(apply Qc;first|refine Xd rfl ?_|refine Ql rfl ?_|refine QJ rfl rfl ?_|refine QF rfl rfl (by omega) ?_)
  refine⟨.inr rfl,e1,i,false,rfl,.inr ⟨rfl,qw fun u hu he=>?_⟩⟩
  obtain⟨k,hk⟩:=List.getElem?_of_mem hu
  have hk2:=(Gb.1 hk).1
  have:=hlo k (by omega) u hk;omega
theorem Qow(h0:Qa)(b:Bool)(s:SV)(ts:List Tm)(tg:Int)(hs:IsD h0 s (tms ts))(hc:Can ts)(hl:ts.length<=3000000) :
  ∃ r h',Cal FT HKt 62 [.agg [.bool b,s],.sc (.int .i64 tg)] h0 r h'/\Ext h0 h'/\r = .sc (.int .i64 (cf ts tg)):=by
 refine Cal.of (F:=a62) rfl rfl rfl ?_
 have k61:=fun H (e:Ext h0 H)=>Qop H s ts tg (hs.ext e) hc hl
 repeat' first|apply Qf|apply Qb|apply Qe|(apply Qd;first|refine QA rfl rfl ?_|refine Qu rfl rfl rfl ?_)|(apply Qc;first|(refine QD rfl ?_;intro h1 e1 c1)|refine QW rfl ?_|refine QH rfl c1 ?_|(refine Qj rfl (k61 h1 e1) ?_;rintro r h2 ⟨e2,i,bb,rfl,hor⟩;have c2:=c1.ext e2)|refine Ql rfl ?_|refine Xk rfl rfl ?_)
 rcases hor with ⟨rfl,t,ht,he⟩|⟨rfl,h0⟩
 ·obtain⟨id,off,cap,e3,r0⟩:=hs.at (i:=i) (p:=tmP t) (by simp[ht])
  rw[Q6]at e3
  subst e3
  have hlt:=(Gb.1 ht).1
  have r2:=Qw (e1.trans e2) (rd1 r0).2
  have e:cf ts tg=t.2:=by rw[← he];exact Jf hc (Gg ht)
  rw[e]
  repeat' first|apply Qf|apply Qb|apply Qn|apply Qs|apply Qe|(apply Qg;refine Qi rfl ?_)|(apply Qd;refine Qq rfl ?_)|(apply Qc;first|refine QW rfl ?_|refine QH rfl c2 ?_|refine Qy (esz:=2) rfl rfl (by omega) ?_|refine Q1 rfl r2 ?_|refine Ql rfl ?_)
  exact⟨.inr rfl,e1.trans e2,rfl⟩
 ·rw[h0]
  repeat' first|apply Qf|apply Qb|apply QC|apply Qs|apply Qe|(apply Qg;refine Qk rfl ?_)|(apply Qd;refine Qq rfl ?_)|(apply Qc;refine Ql rfl ?_)
  exact⟨.inr rfl,e1.trans e2,rfl⟩
abbrev esW(f:Int->Int)(K:List Int):List (Int×(SV×SV)):=esF (fun k=>wdP (f k)) K
structure MxS(h0 hb h:Qa)(q5 m:Nat)(f:Int->Int)(K:List Int):Prop where
 e:Ext h0 h
 b5:Cel1 h q5 (.mapv m)
 mp:h[m]?=some (MBW (esW f K))
 nd:K.Nodup
 z:∀ e,e ∉ K->f e=0
 l:h0.length<=m
 k:∀(j:Nat) (b:Blk),hb[j]?=some b->j≠m->h[j]?=some b
theorem MxS.ext{h0 hb h h':Qa}{q5 m:Nat}{f:Int->Int}{K:List Int}(x:MxS h0 hb h q5 m f K)(he:Ext h h'):MxS h0 hb h' q5 m f K :=
 ⟨x.e.trans he,x.b5.ext he,he.get _ _ x.mp,x.nd,x.z,x.l,fun j b hj hn=>he.get _ _ (x.k j b hj hn)⟩
theorem MxS.ne{h0 hb h:Qa}{q5 m:Nat}{f:Int->Int}{K:List Int}(x:MxS h0 hb h q5 m f K){q:Nat}{a b:SV}(c:Cel h q a b):q≠m:=fun e=>by
 have h1:=x.mp
 unfold Cel at c
 rw[e,h1]at c
 simp[zIW]at c
 have:=congrArg ESz.n c.2
 simp at this
theorem MxS.ne5{h0 hb h:Qa}{q5 m:Nat}{f:Int->Int}{K:List Int}(x:MxS h0 hb h q5 m f K):q5≠m:=fun e=>by
 have h1:=x.mp
 have h2:=x.b5
 unfold Cel1 at h2
 rw[e,h1]at h2
 simp[zIW]at h2
 have:=congrArg ESz.n h2.2
 simp at this
theorem MxS.cong{h0 hb h:Qa}{q5 m:Nat}{f g:Int->Int}{K:List Int}(x:MxS h0 hb h q5 m f K)(hg:∀ e,f e=g e):MxS h0 hb h q5 m g K:=by
 have:f=g:=funext hg
 subst this
 exact x
def VI(K:List Int)(k:Int):List Int:=if k∈K then K else K++[k]
theorem addK_mem{K:List Int}{k e:Int}:e∈VI K k↔e∈K∨e=k:=by
 unfold VI
 split
 ·rename_i h
  exact⟨.inl,fun h2=>h2.elim id fun e2=>e2 ▸ h⟩
 ·simp
theorem Qi4(K:List Int)(k:Int):(VI K k).length<=K.length+1/\0<(VI K k).length:=by
 have:k∈VI K k:=addK_mem.2 (.inr rfl)
 refine⟨?_,List.length_pos_of_mem this⟩
 unfold VI
 split <;> simp
theorem Qlo{K:List Int}(h:K.Nodup)(k:Int):(VI K k).Nodup:=by
 unfold VI
 split
 ·exact h
 ·rename_i hk
  exact List.nodup_append.2 ⟨h,by simp,fun a ha b hb e=>by simp at hb;subst hb;subst e;exact hk ha⟩
theorem Qor(h0 hb h:Qa)(q5 m:Nat)(f:Int->Int)(K:List Int)(x:MxS h0 hb h q5 m f K)(ex w:Int) :
  ∃ r h',Cal FT HKt 84 [.sc (.int .i64 ex),.agg (wd w),.sc (.ptr q5 0)] h r h'/\MxS h0 hb h' q5 m (fun y=>f y+w*dl y ex) (VI K ex)/\∀(j:Nat) (b:Blk),h[j]?=some b->j≠m->h'[j]?=some b:=by
 refine Cal.of (F:=a84) rfl rfl rfl ?_
 have hg:(Vr (esW f K) ex).getD (.int .u64 0,.int .u64 0)=wdP (f ex):=by
  rw[Qdb]
  split
  ·rfl
  ·rename_i hn
   rw[x.z ex hn]
   rfl
 have k40:=fun H=>Qih H (f ex) w
 have hs:Qfa (esW f K) ex (wdP (f ex+w))=esW (fun y=>f y+w*dl y ex) (VI K ex):=by
  have:=Qni (g:=fun k=>wdP (f k)) (g':=fun k=>wdP (f k+w*dl k ex)) x.nd ex (fun e he=>by
   show wdP (f e+w*dl e ex)=wdP (f e)
   rw[ZQ (fun e2=>he e2.symm)];simp)
  simp only[YO,Int.mul_one]at this
  exact this
 simp only[Qe1]at k40 ⊢
 repeat' first|apply Qf|apply Qb|apply Qe|apply Q7|apply Xm|apply Xn|(apply Qd;first|apply Q5|apply Xw|refine XP (by assumption) ?_|refine Qu rfl rfl rfl ?_)|(apply Qc;first|(refine QD rfl ?_;intro h1 e1 c1;have x1:=x.ext e1)|refine XG rfl x1.b5.at rfl ?_|refine Qa3 rfl x1.mp rfl hg ?_|refine QU rfl c1 ?_|(refine Qj rfl (k40 _) ?_;rintro r h2 ⟨e2,rfl⟩;have x2:=x1.ext e2)|(refine QnZ rfl x2.mp rfl rfl ?_)|refine Ql rfl ?_)
 refine y4 ?_
 have hm:m<h2.length:=(Gb.1 x2.mp).1
 refine⟨.inl rfl,⟨x2.e.set x2.l _,?_,?_,Qlo x.nd ex,fun e he=>?_,x.l,fun j b hj hn=>?_⟩,fun j b hj hn=>?_⟩
 ·unfold Cel1
  rw[Gk (Ne.symm x2.ne5)]
  exact x2.b5
 ·rw[GA hm,← hs]
 ·have h1:e≠ex:=fun e2=>he (addK_mem.2 (.inr e2))
  show f e+w*dl e ex=0
  rw[ZQ (fun e2=>h1 e2.symm),x.z e (fun e2=>he (addK_mem.2 (.inl e2)))];simp
 ·rw[Gk (Ne.symm hn)]
  exact x2.k j b hj hn
 ·rw[Gk (Ne.symm hn)]
  exact(e1.trans e2).get _ _ hj
structure Kx(K:List Int)(lo:Int)(n c:Nat):Prop where
 len:K.length<=c
 ne:0<c->K≠[]
 rg:∀ e∈K,lo<=e/\e<lo+n
theorem Kx.add{K:List Int}{lo:Int}{n c:Nat}(x:Kx K lo n c){k:Int}(h:lo<=k/\k<lo+n):Kx (VI K k) lo n (c+1):=by
 obtain⟨a,b⟩:=Qi4 K k
 have:=x.len
 refine⟨by omega,fun _ e=>by rw[e]at b;simp at b,fun e he=>?_⟩
 rcases addK_mem.1 he with he|rfl
 ·exact x.rg e he
 ·exact h
def J43i(h0 hb:Qa)(q5 m q4 qt:Nat)(lo:Int)(n:Nat)(bb:Bool)(sp sq:SV)(p q:List Tm)(i:Nat)(t:Tm)(E:Env)(h:Qa):Prop:=∃(j:Nat) (K:List Int),j<=q.length/\MxS h0 hb h q5 m (fun e=>mc (p.take i) q e+mc [t] (q.take j) e) K/\Kx K lo n (i*q.length+j)/\Cel h q4 (.bool bb) sq/\Cel h qt (.int .i64 t.1) (.int .i64 t.2) ∧
 E.keep [2,4,7,11,12,13,18,19,20]=[(2,some (.sc (.fn 84 [(q5,0)]))),(4,some (.sc (.ptr q4 0))),(7,some (.sc (.ptr qt 0))),(11,some (.sc sp)),(12,some (.sc (.int .i64 (p.length:Nat)))),(13,some (.sc (.int .i64 (i:Nat)))),(18,some (.sc sq)),(19,some (.sc (.int .i64 (q.length:Nat)))),(20,some (.sc (.int .i64 (j:Nat))))]
def S43i(h0 hb:Qa)(q5 m q4:Nat)(lo:Int)(n:Nat)(bb:Bool)(sp sq:SV)(p q:List Tm)(i:Nat)(t:Tm)(ex:Ex)(E:Env)(h:Qa):Prop:=ex = .ex 2/\∃ K,MxS h0 hb h q5 m (fun e=>mc (p.take i) q e+mc [t] q e) K/\Kx K lo n (i*q.length+q.length)/\Cel h q4 (.bool bb) sq/\∃ a b c d e,
 E=[(2,some (.sc (.fn 84 [(q5,0)]))),(4,some (.sc (.ptr q4 0))),(7,a),(11,some (.sc sp)),(12,some (.sc (.int .i64 (p.length:Nat)))),(13,some (.sc (.int .i64 (i:Nat)))),(18,b),(19,c),(20,d),(21,e)]
theorem Qe8(h0 hb:Qa)(q5 m q4 qt:Nat)(lo:Int)(n:Nat)(bb:Bool)(sp sq:SV)(p q:List Tm)(i:Nat)(t:Tm)(hq:IsD h0 sq (tms q))(fq:Tfit q)(ht:t.2.natAbs<=cM/\t.1.natAbs<=4194304)(hrng:∀ u∈q,lo<=t.1+u.1/\t.1+u.1<lo+n)(E:Env)(h:Qa)(hI:J43i h0 hb q5 m q4 qt lo n bb sp sq p q i t E h) :
  wA FT HKt Qiu (E.keep [2,4,7,11,12,13,18,19,20]) h (QI (J43i h0 hb q5 m q4 qt lo n bb sp sq p q i t) (cK [2,4,7,11,12,13,18,19,20] q.length 20) (cK [2,4,7,11,12,13,18,19,20] q.length 20 E h) (S43i h0 hb q5 m q4 lo n bb sp sq p q i t)):=by
 obtain⟨j,K,hj,x,kx,c4,ct,hE⟩:=hI
 have hm:cK [2,4,7,11,12,13,18,19,20] q.length 20 E h=q.length-j:=by unfold cK;rw[hE];rfl
 rw[hm,hE]
 have hql:=fq.len
 by_cases hlt:j<q.length
 ·obtain⟨u,hu⟩:∃ u,q[j]?=some u:=⟨_,Ga hlt⟩
  have hum:=Gg hu
  have hur:=hrng u hum
  have hue:=fq.ex u hum
  have huc:=fq.cf u hum
  obtain⟨id,off,cap,e1,r0⟩:=hq.at (i:=j) (p:=tmP u) (by simp[hu])
  rw[Q6]at e1
  subst e1
  have r1:=Qw x.e r0
  simp only[cM]at ht huc
  have k41:=fun H=>Qif H t.2 u.2 (by omega) (by omega)
  have tk:q.take (j+1)=q.take j++[u]:=by rw[GB,hu];rfl
  have k75:=fun H (x:MxS h0 hb H q5 m (fun e=>mc (p.take i) q e+mc [t] (q.take j) e) K)=>Qor h0 hb H q5 m _ K x (t.1+u.1) (t.2*u.2)
  repeat' first|apply Qf|apply Qb|apply Qt|apply QL|apply Qn|apply Qe|apply Q7|apply Xm|apply Xn|(apply Qg;refine Qk rfl ?_)|(apply Qd;first|apply Q5|apply Xw|refine XP (by assumption) ?_|refine Q9 rfl rfl rfl rfl rfl rfl rfl rfl rfl ?_|refine XA rfl rfl rfl rfl rfl rfl rfl rfl rfl rfl ?_)|(apply Qc;first|refine Qy (esz:=2) rfl rfl (by omega) ?_|refine XH rfl r1 ?_|(refine X2 rfl ?_;intro h2 e2 c2;have dt:=ct.ext e2;have x2:=x.ext e2)|refine QN rfl dt ?_|refine QN rfl c2 ?_|refine QH rfl dt ?_|refine QH rfl c2 ?_|(refine Qj rfl (k41 _) ?_;rintro r h3 ⟨e3,rfl⟩;have x3:=x2.ext e3)|(refine XV rfl rfl (k75 h3 x3) ?_;rintro r h4 ⟨x4,f4⟩)|refine Ql rfl ?_|refine QM rfl rfl (by omega) ?_|refine Qx rfl rfl (by omega) ?_|refine Xk rfl rfl ?_)
  have d4:=c4.ext (e2.trans e3)
  have dt3:=dt.ext e3
  refine Xr ⟨j+1,_,by omega,x4.cong fun e=>?_,kx.add hur,f4 _ _ d4 (x3.ne d4),f4 _ _ dt3 (x3.ne dt3),rfl⟩ (by simp[cK,Env.keep,Env.get];omega)
  rw[tk,Qek];omega
 ·have:j=q.length:=by omega
  subst this
  rw[Gx]at x
  repeat' first|apply Qf|apply Qb|apply QS|apply QQ|apply Qe|(apply Qg;refine Qi rfl ?_)|(apply Qd;refine XA rfl rfl rfl rfl rfl rfl rfl rfl rfl rfl ?_)|(apply Qc;refine QF rfl rfl (by omega) ?_)
  exact XI ⟨rfl,K,x,kx,c4,_,_,_,_,_,rfl⟩
def J43(h0 hb:Qa)(q5 m q4:Nat)(lo:Int)(n:Nat)(bb:Bool)(sp sq:SV)(p q:List Tm)(E:Env)(h:Qa):Prop:=∃(i:Nat) (K:List Int),i<=p.length/\MxS h0 hb h q5 m (fun e=>mc (p.take i) q e) K/\Kx K lo n (i*q.length)/\Cel h q4 (.bool bb) sq ∧
 E.keep [2,4,11,12,13]=[(2,some (.sc (.fn 84 [(q5,0)]))),(4,some (.sc (.ptr q4 0))),(11,some (.sc sp)),(12,some (.sc (.int .i64 (p.length:Nat)))),(13,some (.sc (.int .i64 (i:Nat))))]
def S43(h0 hb:Qa)(q5 m:Nat)(lo:Int)(n:Nat)(p q:List Tm)(ex:Ex)(E:Env)(h:Qa):Prop:=ex = .ex 0/\∃ K,MxS h0 hb h q5 m (fun e=>mc p q e) K/\Kx K lo n (p.length*q.length)
theorem Qgg(h0 hb:Qa)(q5 m q4:Nat)(lo:Int)(n:Nat)(bb:Bool)(sp sq:SV)(p q:List Tm)(hp:IsD h0 sp (tms p))(hq:IsD h0 sq (tms q))(fp:Tfit p)(fq:Tfit q)(hrng:∀ t∈p,∀ u∈q,lo<=t.1+u.1/\t.1+u.1<lo+n)(E:Env)(h:Qa)(hI:J43 h0 hb q5 m q4 lo n bb sp sq p q E h) :
  wA FT HKt Qiv (E.keep [2,4,11,12,13]) h (QI (J43 h0 hb q5 m q4 lo n bb sp sq p q) (cK [2,4,11,12,13] p.length 13) (cK [2,4,11,12,13] p.length 13 E h) (S43 h0 hb q5 m lo n p q)):=by
 obtain⟨i,K,hi,x,kx,c4,hE⟩:=hI
 have hm:cK [2,4,11,12,13] p.length 13 E h=p.length-i:=by unfold cK;rw[hE];rfl
 rw[hm,hE]
 have hpl:=fp.len
 have lq:=hq.len
 rw[Q6]at lq
 by_cases hlt:i<p.length
 ·obtain⟨t,ht⟩:∃ t,p[i]?=some t:=⟨_,Ga hlt⟩
  have htm:=Gg ht
  obtain⟨id,off,cap,e1,r0⟩:=hp.at (i:=i) (p:=tmP t) (by simp[ht])
  rw[Q6]at e1
  subst e1
  have r1:=Qw x.e r0
  repeat' first|apply Qf|apply Qb|apply Qt|apply Qn|apply Qe|(apply Qg;refine Qk rfl ?_)|(apply Qd;first|refine QE rfl rfl rfl rfl rfl rfl ?_|refine Q9 rfl rfl rfl rfl rfl rfl rfl rfl rfl ?_)|(apply Qc;first|refine Qy (esz:=2) rfl rfl (by omega) ?_|refine XH rfl r1 ?_|(refine X2 rfl ?_;intro h2 e2 c2;have d4:=c4.ext e2;have x2:=x.ext e2)|refine QH rfl d4 ?_|refine Qr rfl lq ?_|refine Ql rfl ?_|refine Qx rfl rfl (by omega) ?_|refine Xk rfl rfl ?_)
  have x2':MxS h0 hb h2 q5 m (fun e=>mc (p.take i) q e+mc [t] (q.take 0) e) K:=x2.cong fun e=>by rw[List.take_zero,Qel];omega
  refine YQ (J43i h0 hb q5 m q4 h.length lo n bb (.slc id off p.length cap) sq p q i t) (cK [2,4,7,11,12,13,18,19,20] q.length 20) (S43i h0 hb q5 m q4 lo n bb (.slc id off p.length cap) sq p q i t) ⟨0,K,Gm _,x2',kx,d4,c2,rfl⟩ (Qe8 h0 hb q5 m q4 h.length lo n bb (.slc id off p.length cap) sq p q i t hq fq ⟨fp.cf t htm,fp.ex t htm⟩ (hrng t htm)) ?_
  rintro ex E' h3 ⟨rfl,K3,x3,kx3,c3,a,b,c,d,e,rfl⟩
  repeat' first|apply Qb|apply QL|apply QK|apply Qe|(apply Qd;refine QO rfl rfl rfl rfl rfl ?_)|(apply Qc;first|refine Ql rfl ?_|refine QM rfl rfl (by omega) ?_)
  have tk:p.take (i+1)=p.take i++[t]:=by rw[GB,ht];rfl
  refine Xr ⟨i+1,K3,by omega,x3.cong fun e=>by rw[tk,Qhi],?_,c3,rfl⟩ (by simp[cK,Env.keep,Env.get];omega)
  rw[Nat.succ_mul]
  exact kx3
 ·have:i=p.length:=by omega
  subst this
  rw[Gx]at x
  repeat' first|apply Qf|apply Qb|apply QS|apply QQ|apply Qe|(apply Qg;refine Qi rfl ?_)|(apply Qd;refine QE rfl rfl rfl rfl rfl rfl ?_)|(apply Qc;refine QF rfl rfl (by omega) ?_)
  exact XI ⟨rfl,K,x,kx⟩
theorem QjU(h0 h:Qa)(q5 m:Nat)(lo:Int)(n:Nat)(ba bb:Bool)(sp sq:SV)(p q:List Tm)(hp:IsD h0 sp (tms p))(hq:IsD h0 sq (tms q))(fp:Tfit p)(fq:Tfit q)(hrng:∀ t∈p,∀ u∈q,lo<=t.1+u.1/\t.1+u.1<lo+n)(x:MxS h0 h h q5 m (fun _=>0) []) :
  ∃ r h',Cal FT HKt 56 [.agg [.bool ba,sp],.agg [.bool bb,sq],.sc (.fn 84 [(q5,0)])] h r h'/\∃ K,MxS h0 h h' q5 m (fun e=>mc p q e) K/\Kx K lo n (p.length*q.length):=by
 refine Cal.of (F:=a56) rfl rfl rfl ?_
 have lp:=hp.len
 rw[Q6]at lp
 have x0:MxS h0 h h q5 m (fun e=>mc (p.take 0) q e) []:=x.cong fun e=>rfl
 repeat' first|apply Qf|apply Qb|apply Qt|apply Qe|(apply Qd;first|refine Qu rfl rfl rfl ?_|refine QO rfl rfl rfl rfl rfl ?_)|(apply Qc;first|(have z:=e1;refine QD rfl ?_;intro h2 e2 c2;have x2:=x1.ext e2;have d1:=c1.ext e2)|(refine QD rfl ?_;intro h1 e1 c1;have x1:=x0.ext e1)|refine QH rfl d1 ?_|refine Qr rfl lp ?_|refine Ql rfl ?_|refine Xk rfl rfl ?_)
 refine YQ (J43 h0 h q5 m h1.length lo n bb sp sq p q) (cK [2,4,11,12,13] p.length 13) (S43 h0 h q5 m lo n p q) ⟨0,[],Gm _,x2,⟨by simp,fun h=>by simp at h,by simp⟩,c2,rfl⟩ (Qgg h0 h q5 m h1.length lo n bb sp sq p q hp hq fp fq hrng) ?_
 rintro ex E' h3 ⟨rfl,K,x3,kx⟩
 repeat' (refine QK ?_)
 exact⟨.inl rfl,K,x3,kx⟩
def Ja(f:Int->Int)(l:List Int):List Tm:=l.flatMap fun k=>put k (f k)
theorem QfA(f:Int->Int)(l:List Int)(k:Int):Ja f (l++[k])=Ja f l++put k (f k):=by simp[Ja]
theorem Qb0(f:Int->Int):∀ l:List Int,(Ja f l).length<=l.length
 | []=>Gd _
 | k::l=>by
  have:=Qb0 f l
  have e:Ja f (k::l)=put k (f k)++Ja f l:=rfl
  have h:=Qd0 k (f k)
  rw[e,Gz,Gu];omega
theorem outL_mem{f:Int->Int}{l:List Int}{t:Tm}:t∈Ja f l↔t.1∈l/\t.2=f t.1/\t.2≠0:=by
 unfold Ja
 rw[List.mem_flatMap]
 constructor
 ·rintro⟨k,hk,ht⟩
  obtain⟨h1,h2⟩:=Zk ht
  rw[h1]
  exact⟨hk,rfl,h2⟩
 ·rintro⟨h1,h2,h3⟩
  refine⟨t.1,h1,?_⟩
  unfold put
  rw[if_neg (by rw[← h2];exact h3),← h2]
  simp
theorem Qb1{f:Int->Int}:∀ {l:List Int},l.Pairwise (·<·)->Can (Ja f l)
 | [],_ => .nil
 | k::l,h=>by
  obtain⟨h1,h2⟩:=List.pairwise_cons.1 h
  exact qk (Qb1 h2) fun u hu=>h1 _ (outL_mem.1 hu).1
theorem QeF(f:Int->Int)(e:Int):∀ {l:List Int},l.Nodup->cf (Ja f l) e=if e∈l then f e else 0
 | [],_=>rfl
 | k::l,h=>by
  obtain⟨h1,h2⟩:=List.nodup_cons.1 h
  have e1:Ja f (k::l)=put k (f k)++Ja f l:=rfl
  have e2:cf (put k (f k)) e=f k*dl e k:=VL _ _ _
  rw[e1,Qdi,QeF f e h2,e2]
  by_cases hk:e=k
  ·subst hk
   rw[YO,if_neg h1,if_pos (List.mem_cons_self ..)];omega
  ·rw[ZQ (fun e=>hk e.symm),Int.mul_zero,Int.zero_add]
   by_cases hl:e∈l
   ·rw[if_pos hl,if_pos (List.mem_cons_of_mem _ hl)]
   ·rw[if_neg hl,if_neg (by simp[hk,hl])]
abbrev srt(K:List Int):List Int:=K.mergeSort fun x y=>decide (x<=y)
theorem Zp(K:List Int):(srt K).Perm K:=List.mergeSort_perm _ _
theorem Qnd{K:List Int}(h:K.Nodup):(srt K).Pairwise (·<·):=by
 have h1:(srt K).Pairwise fun a b=>decide (a<=b)=true:=List.pairwise_mergeSort (fun a b c h1 h2=>by simp only[decide_eq_true_eq]at *;omega) (fun a b=>by simp only[Bool.or_eq_true,decide_eq_true_eq];omega) K
 have h2:(srt K).Nodup:=(Zp K).nodup_iff.2 h
 exact List.Pairwise.imp₂ (fun a b h1 h2=>by simp only[decide_eq_true_eq]at h1;exact Int.lt_iff_le_and_ne.2 ⟨h1,h2⟩) h1 h2
theorem Qg5{f:Int->Int}{K:List Int}{lo:Int}{n:Nat}(hn:K.Nodup)(hr:∀ e∈K,lo<=e/\e<lo+n)(hz:∀ e,e ∉ K->f e=0):Ja f (srt K)=Zc f lo n :=
 Can.ext (Qb1 (Qnd hn)) (qr f lo n) fun e=>by
  rw[QeF f e ((Zp K).nodup_iff.2 hn),Qid]
  by_cases he:e∈K
  ·rw[if_pos ((Zp K).mem_iff.2 he),if_pos (hr e he)]
  ·rw[if_neg (fun h=>he ((Zp K).mem_iff.1 h))]
   split
   ·exact(hz e he).symm
   ·rfl
theorem QnP(h:Qa)(m:Nat):∃ v h',Cal FT HKt 86 [.sc (.mapv m)] h v h'/\h'=h++[.cells [.mapv m] true ⟨0,some 135⟩]/\v = .sc (.fn 116 [(h.length,0)]) :=
 ⟨_,_,Cal.hook (g:=J2 116 135) rfl rfl,rfl,rfl⟩
theorem QkE(g:Int->SV×SV)(K:List Int):Zs zIW (prW (esF g K))=K:=by
 unfold Zs
 rw[Qhq]
 unfold esF
 rw[Hm,Hm]
 have:(((fun k:List Int=>k.headD 0)∘fun p:Int×(SV×SV)=>[p.1])∘fun k=>(k,g k))=id:=by funext k;rfl
 rw[this,List.map_id]
theorem Qgi{h:Qa}{p m:Nat}{g:Int->SV×SV}{K:List Int}(hp:h[p]?=some (.cells [.mapv m] true ⟨0,some 135⟩))(hm:h[m]?=some (MBW (esF g K)))(hn:K.Nodup)(hr:∀ k∈K,-9223372036854775808<=k/\k<=9223372036854775807)(hl:K.length<=1000000)(hne:K≠[]) :
  ∃ v h',Cal FT HKt 85 [.sc (.fn 116 [(p,0)])] h v h'/\h'=h++[.cells ((srt K).map (.int .i64)) false 1]/\v = .sc (.slc h.length 0 K.length none):=by
 have hk:=QkE g K
 have hcs:prW (esF g K)≠[]:=fun e=>by
  have:=Qd5 (esF g K)
  rw[e]at this
  have h2:0<K.length:=GU.2 hne
  simp[esF]at this
  omega
 refine⟨_,_,Cal.hook (g:=Zd 116 135) rfl (by
  simp only[Zd,hp,hm]
  rw[hk,if_pos ⟨trivial,trivial,⟨by decide,by decide,by decide⟩,hcs,hn,hr,hl⟩]),rfl,rfl⟩
theorem rdRow{h:Qa}{id:Nat}{ks:List Int}{rw':Bool}{i:Nat}{k:Int}(hb:h[id]?=some (.cells (ks.map (.int .i64)) rw' 1))(hk:ks[i]?=some k):Q3 h id (0+i*1) 1=some [.int .i64 k] :=
 rdS (L:=h) hb (by simp[hk])
theorem QbZ{h0 h:Qa}{s:SV}{ps:List P2}(ho:OwnD h0 h s ps){j:Nat}{cs:List SV}{rw':Bool}{z:ESz}(hz:z≠2)(hj:h[j]?=some (.cells cs rw' z)):XW s j:=by
 rcases ho with ⟨rfl,-⟩|⟨id,cap,bl,rfl,h1,h2,-⟩
 ·intro o n c e;cases e
 ·intro o n c e;cases e
  rw[hj]at h2;simp at h2
  exact absurd h2.2.2 hz
structure St55(h0 h:Qa)(q4 q5 q6 m sid:Nat)(s:SV)(f:Int->Int)(K ks:List Int)(r:List Tm):Prop where
 e:Ext h0 h
 c4:Cel h q4 (.bool false) .nilS
 b5:Cel1 h q5 (.mapv m)
 mp:h[m]?=some (MBW (esW f K))
 c6:Cel h q6 (.bool false) s
 o:OwnD h0 h s (tms r)
 sb:h[sid]?=some (.cells (ks.map (.int .i64)) false 1)
theorem St55.ext{h0 h h':Qa}{q4 q5 q6 m sid:Nat}{s:SV}{f:Int->Int}{K ks:List Int}{r:List Tm}(x:St55 h0 h q4 q5 q6 m sid s f K ks r)(he:Ext h h'):St55 h0 h' q4 q5 q6 m sid s f K ks r :=
 ⟨x.e.trans he,x.c4.ext he,x.b5.ext he,he.get _ _ x.mp,x.c6.ext he,x.o.ext he,he.get _ _ x.sb⟩
def I55(h0:Qa)(q4 q5 q6 m sid:Nat)(f:Int->Int)(K ks:List Int)(E:Env)(h:Qa):Prop:=∃(i:Nat) (s:SV),i<=ks.length/\(∀ k∈ks.take i,(f k).natAbs<=cM)/\St55 h0 h q4 q5 q6 m sid s f K ks (Ja f (ks.take i)) ∧
 E.keep [4,5,6,18,19,20]=[(4,some (.sc (.ptr q4 0))),(5,some (.sc (.ptr q5 0))),(6,some (.sc (.ptr q6 0))),(18,some (.sc (.slc sid 0 ks.length none))),(19,some (.sc (.int .i64 (ks.length:Nat)))),(20,some (.sc (.int .i64 (i:Nat))))]
def R55(h0:Qa)(q4 q5 q6 m sid:Nat)(f:Int->Int)(K ks:List Int)(ex:Ex)(E:Env)(h:Qa):Prop :=
 (ex = .ex 0/\∃ s,(∀ k∈ks,(f k).natAbs<=cM)/\St55 h0 h q4 q5 q6 m sid s f K ks (Ja f ks)/\∃ a b c d e,E=[(4,some (.sc (.ptr q4 0))),(5,a),(6,some (.sc (.ptr q6 0))),(18,b),(19,c),(20,d),(21,e)]) ∨
 (ex = .rt/\¬(∀ k∈ks,(f k).natAbs<=cM)/\Ext h0 h/\Cel h q4 (.bool true) .nilS/\E=[(4,some (.sc (.ptr q4 0)))])
theorem Qka(h0:Qa)(q4 q5 q6 m sid:Nat)(f:Int->Int)(K ks:List Int)(hn:ks.length<=1000000)(hf:∀ e,-170141183460469231731687303715884105728<f e/\f e<170141183460469231731687303715884105728)(hz:∀ e,e ∉ K->f e=0)(hks:∀ k∈ks,-9223372036854775808<=k/\k<=9223372036854775807)(l4:h0.length<=q4)(l6:h0.length<=q6)(n46:q4≠q6)(E:Env)(h:Qa)(hI:I55 h0 q4 q5 q6 m sid f K ks E h) :
  wA FT HKt Ql8 (E.keep [4,5,6,18,19,20]) h (QI (I55 h0 q4 q5 q6 m sid f K ks) (cK [4,5,6,18,19,20] ks.length 20) (cK [4,5,6,18,19,20] ks.length 20 E h) (R55 h0 q4 q5 q6 m sid f K ks)):=by
 obtain⟨i,s,hi,hsm,st,hE⟩:=hI
 have hm:cK [4,5,6,18,19,20] ks.length 20 E h=ks.length-i:=by unfold cK;rw[hE];rfl
 rw[hm,hE]
 by_cases hlt:i<ks.length
 ·obtain⟨k,hk⟩:∃ k,ks[i]?=some k:=⟨_,Ga hlt⟩
  have hkr:=hks k (Gg hk)
  have r0:=rdRow st.sb hk
  have k45:=fun H=>Qig H (f k) (hf _)
  have tk:ks.take (i+1)=ks.take i++[k]:=by rw[GB,hk];rfl
  have fl:=Qb0 f (ks.take i)
  rw[GJ]at fl
  have fs:=QfA f (ks.take i) k
  rw[← tk]at fs
  have hg:(Vr (esW f K) k).getD (.int .u64 0,.int .u64 0)=wdP (f k):=by
   rw[Qdb]
   split
   ·rfl
   ·rename_i hn
    rw[hz k hn]
    rfl
  have hmem:∀ k',k'∈ks.take (i+1)↔k'∈ks.take i∨k'=k:=fun k'=>by rw[tk];simp
  have n4:=st.c4.lt
  have n0:=st.e.len
  by_cases hb:(f k).natAbs<=cM
  ·have hsm2:∀ k'∈ks.take (i+1),(f k').natAbs<=cM:=fun k' hk'=>by
    rcases(hmem k').1 hk' with h1|rfl
    ·exact hsm k' h1
    ·exact hb
   have e45:smV (f k)=f k:=by unfold smV;rw[if_pos hb]
   rw[e45,decide_eq_true hb]at k45
   generalize hv2:f k=v at *
   simp only[Qe1]at k45
   by_cases hz0:v=0
   ·have fs2:Ja f (ks.take (i+1))=Ja f (ks.take i):=by rw[fs];unfold put;rw[if_pos hz0,Hk]
    subst hz0
    repeat' first|apply Qf|apply Qb|apply Qt|apply QL|apply Qn|apply Qe|(apply Qg;first|refine Qk rfl ?_|refine Qi rfl ?_)|(apply Qd;first|refine QE rfl rfl rfl rfl rfl rfl ?_|refine Q4 rfl rfl rfl rfl rfl rfl rfl ?_|refine Q9 rfl rfl rfl rfl rfl rfl rfl rfl rfl ?_)|(apply Qc;first|refine Qy (esz:=1) rfl rfl (by omega) ?_|refine Q1 rfl r0 ?_|refine XG rfl st.b5.at rfl ?_|refine Qa3 rfl st.mp rfl hg ?_|(refine Qj rfl (k45 _) ?_;rintro r h4 ⟨e4,rfl⟩;have s4:=st.ext e4)|refine Ql rfl ?_|refine XC rfl ?_|refine QM rfl rfl (by omega) ?_|refine Qx rfl rfl (by omega) ?_|refine XJ rfl rfl (by omega) ?_|refine Xk rfl rfl ?_)
    exact Xr ⟨i+1,s,by omega,hsm2,by rw[fs2];exact s4,rfl⟩ (by simp[cK,Env.keep,Env.get];omega)
   ·have fs2:Ja f (ks.take (i+1))=Ja f (ks.take i)++[(k,v)]:=by rw[fs];unfold put;rw[if_neg hz0]
    repeat' first|apply Qf|apply Qb|apply Qt|apply QL|apply Qn|apply Qe|(apply Qg;first|refine Qk rfl ?_|refine Qi rfl ?_)|(apply Qd;first|refine QE rfl rfl rfl rfl rfl rfl ?_|refine Q4 rfl rfl rfl rfl rfl rfl rfl ?_|refine Q9 rfl rfl rfl rfl rfl rfl rfl rfl rfl ?_)|(apply Qc;first|refine Qy (esz:=1) rfl rfl (by omega) ?_|refine Q1 rfl r0 ?_|refine XG rfl st.b5.at rfl ?_|refine Qa3 rfl st.mp rfl hg ?_|(refine Qj rfl (k45 _) ?_;rintro r h4 ⟨e4,rfl⟩;have s4:=st.ext e4)|refine QW rfl ?_|refine QH rfl s4.c6 ?_|(refine Xz rfl rfl ?_)|(refine yL s4.e s4.o rfl rfl (by rw[Q6];simp only[XS];omega) ?_;intro s' h5 o5 e5 f5 l5;have d6:=s4.c6.fram f5 (s4.o.cel s4.c6))|(refine JD rfl rfl d6 ?_;intro h6 w6)|refine Ql rfl ?_|refine XC rfl ?_|refine QM rfl rfl (by omega) ?_|refine Qx rfl rfl (by omega) ?_|refine Ya rfl rfl (by omega) ?_|refine Xk rfl rfl ?_)
    have d4:=s4.c4.fram f5 (s4.o.cel s4.c4)
    have d5:=s4.b5.fram f5 (s4.o.cel s4.b5)
    have dm:=(f5 _ _ s4.mp (QbZ s4.o (by decide) s4.mp)).1
    have ds:=(f5 _ _ s4.sb (QbZ s4.o (by decide) s4.sb)).1
    have ne:∀ {j:Nat} {b:Blk},h5[j]?=some b->b ≠ .cells [.bool false,s] true 0->j≠q6:=fun {j b} hj hb e=>by
     subst e
     unfold Cel at d6
     rw[d6]at hj
     exact hb (Option.some.inj hj).symm
    have n5:q5≠q6:=ne d5 (by simp)
    have nm:m≠q6:=ne dm (by intro e;injection e with e1 e2 e3;exact absurd e3 (by decide))
    have ns:sid≠q6:=ne ds (by intro e;injection e with e1 e2 e3;exact absurd e2 (by decide))
    refine Xr ⟨i+1,s',by omega,hsm2,⟨w6.ext e5 l6,w6.keep d4 n46,?_,?_,w6.cel,?_,?_⟩,rfl⟩ (by simp[cK,Env.keep,Env.get];omega)
    ·unfold Cel1 at d5 ⊢
     rw[w6.eq,Gk (Ne.symm n5)];exact d5
    ·rw[w6.eq,Gk (Ne.symm nm)];exact dm
    ·rw[fs2]
     have:=o5.wrC w6
     simpa [tms,tmP]using this
    ·rw[w6.eq,Gk (Ne.symm ns)];exact ds
  ·have e45:smV (f k)=0:=by unfold smV;rw[if_neg hb]
   rw[e45,decide_eq_false hb]at k45
   generalize hv2:f k=v at *
   simp only[Qe1]at k45
   repeat' first|apply Qf|apply Qb|apply QC|apply Qt|apply Xi|apply Qn|apply Qs|apply Qe|(apply Qg;refine Qk rfl ?_)|(apply Qd;first|refine Qq rfl ?_|refine Q4 rfl rfl rfl rfl rfl rfl rfl ?_|refine Q9 rfl rfl rfl rfl rfl rfl rfl rfl rfl ?_)|(apply Qc;first|refine Qy (esz:=1) rfl rfl (by omega) ?_|refine Q1 rfl r0 ?_|refine XG rfl st.b5.at rfl ?_|refine Qa3 rfl st.mp rfl hg ?_|(refine Qj rfl (k45 _) ?_;rintro r h4 ⟨e4,rfl⟩;have s4:=st.ext e4)|(refine Xz rfl rfl ?_)|(have c4:=s4.c4;refine Xg rfl rfl c4 ?_;intro h6 w6)|refine Ql rfl ?_|refine X1 rfl ?_|refine Qx rfl rfl (by omega) ?_|refine Xk rfl rfl ?_)
   exact Zo (.inr ⟨rfl,fun h=>hb (by have:=h k (Gg hk);rwa [hv2]at this),w6.ext s4.e l4,w6.cel,rfl⟩)
 ·have:i=ks.length:=by omega
  subst this
  rw[Gx]at hsm st
  repeat' first|apply Qf|apply Qb|apply QS|apply QQ|apply Qe|(apply Qg;refine Qi rfl ?_)|(apply Qd;refine Q4 rfl rfl rfl rfl rfl rfl rfl ?_)|(apply Qc;refine QF rfl rfl (by omega) ?_)
  exact XI (.inl ⟨rfl,s,hsm,st,_,_,_,_,_,rfl⟩)
def QhK(L:List Tm):Pol:=open Classical in if ∀ t∈L,t.2.natAbs<=cM then ⟨false,L⟩ else Zi
theorem QoA(h0:Qa)(sp sq:SV)(ba bb:Bool)(p q:Pol)(hp:IsD h0 sp (tms p.ts))(hq:IsD h0 sq (tms q.ts))(kp:Pok p)(kq:Pok q)(hpe:p.ts≠[])(hqe:q.ts≠[])(lo:Int)(n:Nat)(hrng:∀ t∈p.ts,∀ u∈q.ts,lo<=t.1+u.1/\t.1+u.1<lo+n)(hlo : -100000000<=lo/\lo<=100000000)(hn:n<=100000000)(hpq:p.ts.length*q.ts.length<=1000000) :
  ∃ r h',Cal FT HKt 55 [.agg [.bool ba,sp],.agg [.bool bb,sq]] h0 r h'/\Ext h0 h'/\VM h' r (QhK (VO p.ts q.ts lo n)):=by
 refine Cal.of (F:=a55) rfl rfl rfl ?_
 have hpos:0<p.ts.length*q.ts.length:=Nat.mul_pos (GU.2 hpe) (GU.2 hqe)
 repeat' first|apply Qf|apply Qb|apply Qe|(apply Qd;refine Qu rfl rfl rfl ?_)|(apply Qc;first|(have z:=e2;apply Xa;intro h3 e3 c3;have d1:=(c1.ext e2).ext e3;have d2:=c2.ext e3;have x3:=e1.trans (e2.trans e3);have l3:=e1.len;have l3b:=e2.len;have l3c:=e3.len)|(have z:=e1;refine QD rfl ?_;intro h2 e2 c2)|(refine QD rfl ?_;intro h1 e1 c1)|(have z:=e3;apply Qn0)|refine Xk rfl rfl ?_)
 have l30:h0.length<=h3.length:=x3.len
 have m1:=c1.lt
 have m2:=c2.lt
 have m3:=c3.lt
 have eB:(h3++[MBW []]++[Blk.cells [.nilM] true 0]).set (h3++[MBW []]).length (.cells [.mapv h3.length] true 0)=h3++[MBW [],.cells [.mapv h3.length] true 0]:=by
  rw[Hc _ _ (Gd _)];simp
 refine qH (a := .nilM) rfl rfl (by simp) ?_
 intro hB wB cB
 rw[eB]at wB
 have e3B:Ext h3 hB:=⟨_,wB⟩
 have d1_B:=d1.ext e3B
 have d2_B:=d2.ext e3B
 have c3_B:=c3.ext e3B
 have hmB:hB[h3.length]?=some (MBW (esW (fun _=>0) [])):=by rw[wB];simp[esF]
 have xM:MxS h0 hB hB (h3++[MBW []]).length h3.length (fun _=>0) []:=⟨x3.trans e3B,cB,hmB,List.nodup_nil,fun _ _=>rfl,l30,fun _ _ h _=>h⟩
 have k43:=QjU h0 hB (h3++[MBW []]).length h3.length lo n ba bb sp sq p.ts q.ts hp hq kp.fit kq.fit hrng xM
 have ne3:h2.length≠h3.length:=xM.ne c3_B
 generalize hq5:(h3++[MBW []]).length=q5 at *
 refine y4 ?_
 repeat' first|apply Qf|apply Qb|apply Qe|(apply Qd;first|refine QA rfl rfl ?_|refine Qu rfl rfl rfl ?_)|(apply Qc;first|refine QU rfl d1_B ?_|refine QU rfl d2_B ?_|(refine Qj rfl k43 ?_;rintro r hC ⟨K,xC,kx⟩;have c3_C:=xC.k _ _ c3_B ne3)|(have z:=xC;apply Xa;intro hD eD c6;have xD:=xC.ext eD;have c3_D:=Cel.ext c3_C eD)|refine Xk rfl rfl ?_)
 have hKr:∀ k∈K,-9223372036854775808<=k/\k<=9223372036854775807:=fun k hk=>by have:=kx.rg k hk;omega
 have hKl:K.length<=1000000:=Gq kx.len hpq
 have hkl:K.length=(srt K).length:=(Zp K).length_eq.symm
 have e1:Ext hD (hD++[Blk.cells [.mapv h3.length] true ⟨0,some 135⟩]):=⟨_,rfl⟩
 have k76:=Qgi (h:=hD++[Blk.cells [.mapv h3.length] true ⟨0,some 135⟩]) (p:=hD.length) (m:=h3.length) (by simp) (e1.get _ _ xD.mp) xD.nd hKr hKl (kx.ne hpos)
 rw[hkl]at k76
 repeat' first|apply Qb|apply Qt|(apply Qd;refine QE rfl rfl rfl rfl rfl rfl ?_)|(apply Qc;first|refine XG rfl xD.b5.at rfl ?_|(refine Qj rfl (QnP hD h3.length) ?_;rintro r hE ⟨rfl,rfl⟩)|(refine Qj rfl k76 ?_;rintro r hF ⟨rfl,rfl⟩)|refine Qr (n:=((srt K).length:Int)) rfl rfl ?_|refine Ql rfl ?_)
 have e2F:Ext hD (hD++[Blk.cells [.mapv h3.length] true ⟨0,some 135⟩]++[Blk.cells ((srt K).map (.int .i64)) false 1]):=e1.app _
 have xF:=xD.ext e2F
 have l02:h0.length<=h2.length:=by omega
 have l3C:h3.length<hC.length:=(Gb.1 xC.mp).1
 have st0:St55 h0 (hD++[Blk.cells [.mapv h3.length] true ⟨0,some 135⟩]++[Blk.cells ((srt K).map (.int .i64)) false 1]) h2.length q5 hC.length h3.length (hD++[Blk.cells [.mapv h3.length] true ⟨0,some 135⟩]).length .nilS (fun e=>mc p.ts q.ts e) K (srt K) (Ja (fun e=>mc p.ts q.ts e) ((srt K).take 0)) :=
  ⟨xF.e,c3_D.ext e2F,xF.b5,xF.mp,c6.ext e2F,.inl ⟨rfl,rfl⟩,by simp⟩
 have hout:=Qg5 (f:=fun e=>mc p.ts q.ts e) xC.nd kx.rg xC.z
 refine YQ (I55 h0 h2.length q5 hC.length h3.length (hD++[Blk.cells [.mapv h3.length] true ⟨0,some 135⟩]).length (fun e=>mc p.ts q.ts e) K (srt K)) (cK [4,5,6,18,19,20] (srt K).length 20) (R55 h0 h2.length q5 hC.length h3.length (hD++[Blk.cells [.mapv h3.length] true ⟨0,some 135⟩]).length (fun e=>mc p.ts q.ts e) K (srt K)) ⟨0,.nilS,Gm _,by simp,st0,rfl⟩ (Qka h0 h2.length q5 hC.length h3.length _ (fun e=>mc p.ts q.ts e) K (srt K) (by omega) (Qca kp kq) xC.z (fun k hk=>hKr k ((Zp K).mem_iff.1 hk)) l02 (by omega) (by omega)) ?_
 rintro ex E' hG (⟨rfl,s,hall,st,a,b,c,d,e,rfl⟩|⟨rfl,hns,eG,c4,rfl⟩)
 ·have c4:=st.c4
  repeat' first|apply Qf|apply Qb|apply QK|apply Qs|apply Qe|(apply Qd;refine Qq rfl ?_)|(apply Qc;first|refine QU rfl st.c6 ?_|(refine Xg rfl rfl c4 ?_;intro hH w4))
  refine⟨.inr rfl,Xc rfl w4.cel.read ⟨w4.ext st.e l02,?_⟩⟩
  unfold QhK
  rw[if_pos]
  ·exact⟨s,rfl,by rw[show VO p.ts q.ts lo n=Ja (fun e=>mc p.ts q.ts e) (srt K) from hout.symm];exact(st.o.wrC w4).is⟩
  ·intro t ht
   obtain⟨a,b,c,d⟩:=fromC_mem.1 ht
   have hk:t.1∈K:=Classical.byContradiction fun hk=>d (c.trans (xC.z _ hk))
   have:=hall t.1 ((Zp K).mem_iff.2 hk)
   rw[c];exact this
 ·repeat' first|apply QC|apply Xi
  refine⟨.inr rfl,Xc rfl c4.read ⟨eG,?_⟩⟩
  unfold QhK
  rw[if_neg]
  ·exact⟨.nilS,rfl,IsD.nil _⟩
  ·intro hall
   refine hns fun k hk=>?_
   have hk:=(Zp K).mem_iff.1 hk
   by_cases hz:mc p.ts q.ts k=0
   ·show (mc p.ts q.ts k).natAbs<=cM
    rw[hz];simp[cM]
   ·have:=kx.rg k hk
    exact hall (k,mc p.ts q.ts k) (fromC_mem.2 ⟨by omega,by omega,rfl,hz⟩)
def Qjh(a1:AV)(q3 deg g:Nat)(H:Qa)(m:Nat)(E:Env)(h:Qa):Prop:=∃ k,k<=17/\m=17-k/\h=H/\E.keep [1,2,3,7,8]=[(1,some a1),(2,some (.sc (.int .i64 (deg:Nat)))),(3,some (.sc (.ptr q3 0))),(7,some (.sc (.int .i64 ((2^k:Nat):Int)))),(8,some (u g))]
def QmN(a1:AV)(q3 deg g:Nat)(H:Qa)(ex:Ex)(E:Env)(h:Qa):Prop:=ex = .ex 0/\h=H/\∃ k,k<=17/\deg<2^k/\∃ a,E=[(1,some a1),(2,some (.sc (.int .i64 (deg:Nat)))),(3,some (.sc (.ptr q3 0))),(7,some (.sc (.int .i64 ((2^k:Nat):Int)))),(8,some (u g)),(29,a)]
theorem Qfh(a1:AV)(q3 deg g:Nat)(hd:deg<=65536)(H:Qa)(m:Nat)(E:Env)(h:Qa)(hI:Qjh a1 q3 deg g H m E h) :
  wA FT HKt QiM (E.keep [1,2,3,7,8]) h (Qp (Qjh a1 q3 deg g H) m (QmN a1 q3 deg g H)):=by
 obtain⟨k,hk,rfl,rfl,hE⟩:=hI
 rw[hE]
 have h17:2^k<=2^17:=GN (by decide) hk
 by_cases hlt:2^k<=deg
 ·have hk16:k<17:=by
   rcases GD k 17 with h|h
   ·exact h
   ·have:k=17:=by omega
    subst this
    have:(2:Nat)^17=131072:=by decide
    omega
  have e2:((2^k:Nat):Int)*2=((2^(k+1):Nat):Int):=by rw[Nat.pow_succ];omega
  generalize 2^k=N at *
  have hN:N<=131072:=h17
  repeat' first|apply Qf|apply Qb|apply Qt|apply QL|apply Qn|apply Qe|(apply Qg;refine Qk rfl ?_)|(apply Qd;first|refine QO rfl rfl rfl rfl rfl ?_|refine QE rfl rfl rfl rfl rfl rfl ?_)|(apply Qc;first|(refine JR rfl rfl (by omega) ?_;rw[e2])|refine Ql rfl ?_|refine J3 rfl rfl (by omega) ?_)
  exact Qz (j:=17-(k+1)) (by omega) ⟨k+1,by omega,rfl,rfl,rfl⟩
 ·repeat' first|apply Qf|apply Qb|apply QS|apply QQ|apply Qe|(apply Qg;refine Qi rfl ?_)|(apply Qd;refine QE rfl rfl rfl rfl rfl rfl ?_)|(apply Qc;first|refine Ql rfl ?_|refine JF rfl rfl (by omega) ?_)
  exact QB ⟨rfl,rfl,k,hk,by omega,_,rfl⟩
def Rt1(p s w:Nat):Prop:=Rt p s w/\(s=0->Cg p (w:Int) 1)
theorem Rt1.sq{p s w:Nat}(h:Rt1 p (s+1) w):Rt1 p s (w*w%p):=by
 refine⟨h.1.sq,fun e=>?_⟩
 subst e
 have h1:=h.1.resolve_left (by omega)
 have h2:Cg p (w:Int) (-1):=(Cg.of_eq (by simp[Int.pow_succ])).trans h1
 refine Cg.modN.trans ?_
 rw[GZ]
 exact h2.mul h2
def Qjk(p g q3 k deg:Nat)(a1:AV)(hb:Qa)(m:Nat)(E:Env)(h:Qa):Prop:=∃ j w,k<=j/\j<=17/\m=j-k/\w<p/\Rt1 p j w/\Ext hb h/\E.keep [1,2,3,7,8,9]=[(1,some a1),(2,some (.sc (.int .i64 (deg:Nat)))),(3,some (.sc (.ptr q3 0))),(7,some (.sc (.int .i64 ((2^k:Nat):Int)))),(8,some (u w)),(9,some (.sc (.int .i64 ((2^j:Nat):Int))))]
def QmQ(p g q3 k deg:Nat)(a1:AV)(hb:Qa)(ex:Ex)(E:Env)(h:Qa):Prop:=ex = .ex 2/\Ext hb h/\∃ w,w<p/\Rt1 p k w/\∃ a b,E=[(1,some a1),(2,some (.sc (.int .i64 (deg:Nat)))),(3,some (.sc (.ptr q3 0))),(7,some (.sc (.int .i64 ((2^k:Nat):Int)))),(8,some (u w)),(9,a),(34,b)]
theorem Qfk(p g q3 k deg:Nat)(a1:AV)(hb:Qa)(hp:2<=p/\p<9223372036854775808)(c3:Cel hb q3 (.int .u64 (p:Nat)) (.int .u64 (g:Nat)))(m:Nat)(E:Env)(h:Qa)(hI:Qjk p g q3 k deg a1 hb m E h) :
  wA FT HKt QiL (E.keep [1,2,3,7,8,9]) h (Qp (Qjk p g q3 k deg a1 hb) m (QmQ p g q3 k deg a1 hb)):=by
 obtain⟨j,w,hkj,hj,rfl,hw,hr,x,hE⟩:=hI
 rw[hE]
 have c3h:=c3.ext x
 have h17:2^j<=2^17:=GN (by decide) hj
 have h17':(2:Nat)^17=131072:=by decide
 by_cases hlt:k<j
 ·obtain⟨i,rfl⟩:∃ i,j=i+1:=⟨j-1,by omega⟩
  have hmono:2^k<=2^i:=GN (by decide) (by omega)
  have hpos:1<=2^i:=Nat.one_le_two_pow
  have e1:2^(i+1)=2*2^i:=by rw[Nat.pow_succ];omega
  have e2:((2*2^i:Nat):Int)/2=((2^i:Nat):Int):=by omega
  rw[e1]at h17 ⊢
  have k98:=fun H=>Za H p g w w ⟨by omega,by omega⟩ (by omega) (by omega)
  repeat' first|apply Qf|apply Qb|apply Qt|apply QL|apply Qn|apply Qe|(apply Qg;refine Qk rfl ?_)|(apply Qd;first|refine QE rfl rfl rfl rfl rfl rfl ?_|refine Q4 rfl rfl rfl rfl rfl rfl rfl ?_)|(apply Qc;first|refine QU rfl c3h ?_|(refine Qj rfl (k98 _) ?_;rintro v1 h1 ⟨x1,rfl⟩)|(refine z8 rfl rfl (by omega) ?_;rw[e2])|refine Ql rfl ?_|refine XK rfl rfl (by omega) ?_)
  exact Qz (j:=i-k) (by omega) ⟨i,w*w%p,by omega,by omega,rfl,GY _ (by omega),hr.sq,x.trans x1,rfl⟩
 ·have:j=k:=by omega
  subst this
  repeat' first|apply Qf|apply Qb|apply QS|apply QQ|apply Qe|(apply Qg;refine Qi rfl ?_)|(apply Qd;refine Q4 rfl rfl rfl rfl rfl rfl rfl ?_)|(apply Qc;first|refine Ql rfl ?_|refine XD rfl rfl (by omega) ?_)
  exact QB ⟨rfl,x,w,hw,hr,_,_,rfl⟩
def Qjj(p g q3 N deg w pid:Nat)(a1:AV)(hb:Qa)(m:Nat)(E:Env)(h:Qa):Prop:=∃ i,i+1<=N/\m=N-(i+1)/\Ext hb h/\Bu h pid (fill (pwM p w) N (i+1))/\E.keep [1,2,3,7,8,10,11]=[(1,some a1),(2,some (.sc (.int .i64 (deg:Nat)))),(3,some (.sc (.ptr q3 0))),(7,some (.sc (.int .i64 (N:Nat)))),(8,some (u w)),(10,some (.sc (.slc pid 0 N (some N)))),(11,some (.sc (.int .i64 ((i+1:Nat):Int))))]
def QmP(p g q3 N deg w pid:Nat)(a1:AV)(hb:Qa)(ex:Ex)(E:Env)(h:Qa):Prop:=ex = .ex 4/\Ext hb h/\Bu h pid ((List.range N).map (pwM p w))/\∃ a b,E=[(1,some a1),(2,some (.sc (.int .i64 (deg:Nat)))),(3,some (.sc (.ptr q3 0))),(7,some (.sc (.int .i64 (N:Nat)))),(8,some (u w)),(10,some (.sc (.slc pid 0 N (some N)))),(11,a),(47,b)]
theorem Qfj(p g q3 N deg w pid:Nat)(a1:AV)(hb:Qa)(hp:2<=p/\p<9223372036854775808)(hw:w<p)(hN:N<=131072)(c3:Cel hb q3 (.int .u64 (p:Nat)) (.int .u64 (g:Nat)))(hl:hb.length<=pid)(m:Nat)(E:Env)(h:Qa)(hI:Qjj p g q3 N deg w pid a1 hb m E h) :
  wA FT HKt QiK (E.keep [1,2,3,7,8,10,11]) h (Qp (Qjj p g q3 N deg w pid a1 hb) m (QmP p g q3 N deg w pid a1 hb)):=by
 obtain⟨i,hi,rfl,x,b,hE⟩:=hI
 rw[hE]
 have c3h:=c3.ext x
 by_cases hlt:i+1<N
 ·have r1:=b.rd (i:=i) (by rw[YI];omega)
  have eg:(fill (pwM p w) N (i+1)).getD i 0=pwM p w i:=by
   unfold fill
   rw[Ge,Gh,Gv (by omega)]
   simp
  rw[eg]at r1
  have e1:(((i+1:Nat):Int)-1)=(i:Nat):=by omega
  have hpw:=QcY (p:=p) (w:=w) (by omega) i
  have k98:=fun H=>Za H p g (pwM p w i) w ⟨by omega,by omega⟩ (by omega) (by omega)
  have ep:pwM p w i*w%p=pwM p w (i+1):=rfl
  rw[ep]at k98
  have fs:=Zt (f:=pwM p w) hlt
  have wv:=fun h' (y:Ext h h')=>(b.ext y).wr (i:=i+1) (y:=pwM p w (i+1)) (by rw[YI];exact hlt)
  rw[fs]at wv
  clear ep
  generalize pwM p w (i+1)=W1 at *
  generalize pwM p w i=W0 at *
  repeat' first|apply Qf|apply Qb|apply Qt|apply QL|apply Qn|apply Qe|apply Q7|apply Xm|apply Xn|(apply Qg;refine Qk rfl ?_)|(apply Qd;first|apply Q5|apply Xw|refine Q4 rfl rfl rfl rfl rfl rfl rfl ?_|refine Xh rfl rfl rfl rfl rfl rfl rfl rfl ?_)|(apply Qc;first|refine QU rfl c3h ?_|(refine Jj rfl rfl (by omega) ?_;rw[e1])|refine Qy (esz:=1) rfl rfl (by omega) ?_|refine Q1 rfl r1 ?_|(refine Qj rfl (k98 _) ?_;rintro v1 h1 ⟨x1,rfl⟩)|refine Jk rfl rfl (wv _ x1) ?_|refine Ql rfl ?_|refine QM rfl rfl (by omega) ?_|refine Qx rfl rfl (by omega) ?_)
  exact Qz (j:=N-(i+2)) (by omega) ⟨i+1,by omega,rfl,Ext.setF (x.trans x1) hl _,(b.ext x1).set,rfl⟩
 ·have:N=i+1:=by omega
  subst this
  rw[Zg]at b
  repeat' first|apply Qf|apply Qb|apply QS|apply QQ|apply Qe|(apply Qg;refine Qi rfl ?_)|(apply Qd;refine Xh rfl rfl rfl rfl rfl rfl rfl rfl ?_)|(apply Qc;first|refine Ql rfl ?_|refine QF rfl rfl (by omega) ?_)
  exact QB ⟨rfl,x,b,_,_,rfl⟩
def Uk(f:Nat->Nat)(cs:List Nat)(i:Nat):List Nat:=cs.mapIdx fun j x=>if j<i then f x else x
theorem Qb9{f:Nat->Nat}{cs:List Nat}{i:Nat}:(Uk f cs i).length=cs.length:=by simp[Uk]
theorem QfF{f:Nat->Nat}{cs:List Nat}:Uk f cs 0=cs:=by
 unfold Uk
 apply Gt
 intro j
 rw[GT]
 cases cs[j]? <;> simp
theorem QfG{f:Nat->Nat}{cs:List Nat}:Uk f cs cs.length=cs.map f:=by
 unfold Uk
 apply Gt
 intro j
 rw[GT,Gh]
 cases h:cs[j]? with
 | none=>rfl
 | some x =>
  have:=(Gb.1 h).1
  simp[this]
theorem Qhf{f:Nat->Nat}{cs:List Nat}{i:Nat}(h:i<cs.length):(Uk f cs i).getD i 0=cs.getD i 0:=by
 unfold Uk
 simp only[Ge,GT]
 rw[Ga h]
 simp
theorem Qhe{f:Nat->Nat}{cs:List Nat}{i:Nat}(h:i<cs.length):(Uk f cs i).set i (f (cs.getD i 0))=Uk f cs (i+1):=by
 unfold Uk
 apply Gt
 intro j
 rw[GQ,GT,GT,List.length_mapIdx]
 by_cases e:i=j
 ·subst e
  rw[if_pos rfl,if_pos h,Ga h,Ge,Ga h];simp
 ·rw[if_neg e]
  cases cs[j]? with
  | none=>rfl
  | some x =>
   simp only[Gp]
   by_cases h1:j<i
   ·rw[if_pos h1,if_pos (by omega)]
   ·rw[if_neg h1,if_neg (by omega)]
def Qjm(p g q3 N deg sc cid:Nat)(cs:List Nat)(hb:Qa)(m:Nat)(E:Env)(h:Qa):Prop:=∃ i,i<=N/\m=N-i/\Ext hb h/\Bu h cid (Uk (fun x=>x*sc%p) cs i)/\E.keep [2,3,22,23,149,150]=[(2,some (.sc (.int .i64 (deg:Nat)))),(3,some (.sc (.ptr q3 0))),(22,some (.sc (.slc cid 0 N (some N)))),(23,some (u sc)),(149,some (.sc (.int .i64 (N:Nat)))),(150,some (.sc (.int .i64 (i:Nat))))]
def QmS(p g q3 N deg sc cid:Nat)(cs:List Nat)(hb:Qa)(ex:Ex)(E:Env)(h:Qa):Prop:=ex = .ex 14/\Ext hb h/\Bu h cid (cs.map fun x=>x*sc%p)/\∃ a b c d e,E=[(2,some (.sc (.int .i64 (deg:Nat)))),(3,a),(22,some (.sc (.slc cid 0 N (some N)))),(23,b),(149,c),(150,d),(151,e)]
theorem Qfm(p g q3 N deg sc cid:Nat)(cs:List Nat)(hb:Qa)(hp:2<=p/\p<9223372036854775808)(hs:sc<p)(hN:N<=131072)(hc:cs.length=N)(hcp:∀ x∈cs,x<p)(c3:Cel hb q3 (.int .u64 (p:Nat)) (.int .u64 (g:Nat)))(hl:hb.length<=cid)(m:Nat)(E:Env)(h:Qa)(hI:Qjm p g q3 N deg sc cid cs hb m E h) :
  wA FT HKt QiF (E.keep [2,3,22,23,149,150]) h (Qp (Qjm p g q3 N deg sc cid cs hb) m (QmS p g q3 N deg sc cid cs hb)):=by
 obtain⟨i,hi,rfl,x,b,hE⟩:=hI
 rw[hE]
 have c3h:=c3.ext x
 by_cases hlt:i<N
 ·have r1:=b.rd (i:=i) (by rw[Qb9];omega)
  rw[Qhf (by omega)]at r1
  have hx:cs.getD i 0<p:=by rw[Ge,Ga (by omega)];exact hcp _ (GI _)
  have k98:=fun H=>Za H p g (cs.getD i 0) sc ⟨by omega,by omega⟩ (by omega) (by omega)
  have ms:=Qhe (f:=fun x=>x*sc%p) (cs:=cs) (i:=i) (by omega)
  have wv:=fun h' (y:Ext h h')=>(b.ext y).wr (i:=i) (y:=cs.getD i 0*sc%p) (by rw[Qb9];omega)
  rw[ms]at wv
  generalize cs.getD i 0=v at *
  repeat' first|apply Qf|apply Qb|apply Qt|apply QL|apply Qn|apply Qe|apply Q7|apply Xm|apply Xn|(apply Qg;refine Qk rfl ?_)|(apply Qd;first|apply Q5|apply Xw|refine QE rfl rfl rfl rfl rfl rfl ?_|refine Q4 rfl rfl rfl rfl rfl rfl rfl ?_)|(apply Qc;first|refine QU rfl c3h ?_|refine Qy (esz:=1) rfl rfl (by omega) ?_|refine Q1 rfl r1 ?_|(refine Qj rfl (k98 _) ?_;rintro v1 h1 ⟨x1,rfl⟩)|refine Jk rfl rfl (wv _ x1) ?_|refine Ql rfl ?_|refine QM rfl rfl (by omega) ?_|refine Qx rfl rfl (by omega) ?_)
  exact Qz (j:=N-(i+1)) (by omega) ⟨i+1,by omega,rfl,Ext.setF (x.trans x1) hl _,(b.ext x1).set,rfl⟩
 ·have:i=N:=by omega
  subst this
  rw[← hc,QfG]at b
  repeat' first|apply Qf|apply Qb|apply QS|apply QQ|apply Qe|(apply Qg;refine Qi rfl ?_)|(apply Qd;refine Q4 rfl rfl rfl rfl rfl rfl rfl ?_)|(apply Qc;refine QF rfl rfl (by omega) ?_)
  exact QB ⟨rfl,x,b,_,_,_,_,_,rfl⟩
theorem Qbd{p:Nat}{inv:Nat->Nat}(hp:0<p):∀(m k:Nat) (rs:List (List Nat)) (d:Nat),d<p->qY p inv m k rs d<p
 | 0,k,rs,d,h=>h
 | m+1,k,rs,d,h=>by
  unfold qY
  split
  ·exact hp
  ·exact Qbd hp _ _ _ _ (GY _ hp)
theorem QaJ{p w N:Nat}(hN:0<N):(List.replicate N 0).set 0 1=fill (pwM p w) N 1:=by
 rw[← Zf (f:=pwM p w)]
 exact Zt (f:=pwM p w) (i:=0) hN
theorem Qld(p g n deg:Nat)(h0:Qa)(esl:SV)(es:List (List (List Tm)))(hp:2<=p/\p<9223372036854775808)(hg:g<p)(hr:Rt p 17 g)(hd:deg<=65536)(hn:n<1000000)(ee:Ents h0 esl es)(he:es.length=n)(tok:∀ r∈es,r.length=n/\∀ l∈r,l.length<=1000000/\∀ m∈l,VJ p m) :
  ∃ r h',Cal FT HKt 108 [fld p g,.sc esl,.sc (.int .i64 (deg:Nat))] h0 r h'/\Ext h0 h'/\∃ k w id,k<=17/\deg<2^k/\w<p/\Rt1 p k w/\r = .sc (.slc id 0 (deg+1) (some (2^k))) ∧
   Bu h' id ((trM p k ((List.range (2^k)).map (JW p (2^k) n ((List.range (2^k)).map (pwM p w)) es)) (XZ p w)).map fun x=>x*XZ p (2^k)%p):=by
 refine Cal.of (F:=a108) rfl rfl rfl ?_
 repeat' first|apply Qf|apply Qb|apply Qt|apply Qe|apply Q7|apply Xm|apply Xn|(apply Qd;first|apply Q5|refine Qu rfl rfl rfl ?_|refine QO rfl rfl rfl rfl rfl ?_)|(apply Qc;first|(refine QD rfl ?_;intro h1 e1 c1)|refine QW rfl ?_|refine QH rfl c1 ?_|refine Ql rfl ?_)
 refine QV (Qjh (.sc esl) h0.length deg g h1) 17 (QmN (.sc esl) h0.length deg g h1) ⟨0,by omega,rfl,rfl,rfl⟩ (Qfh (.sc esl) h0.length deg g hd h1) ?_
 rintro ex E' h2 ⟨rfl,eh,k,hk,hdk,a,rfl⟩
 subst eh
 repeat' first|apply Qf|apply Qb|apply Qt|apply QK|apply Qe|(apply Qd;refine QE rfl rfl rfl rfl rfl rfl ?_)|(apply Qc;refine Ql rfl ?_)
 refine QV (Qjk p g h0.length k deg (.sc esl) h2) (17-k) (QmQ p g h0.length k deg (.sc esl) h2) ⟨17,g,hk,Gd _,rfl,hg,⟨hr,fun e=>absurd e (by decide)⟩,Ext.refl _,rfl⟩ (Qfk p g h0.length k deg (.sc esl) h2 hp c1) ?_
 rintro ex E' h3 ⟨rfl,x3,w,hw,hrw,_,_,rfl⟩
 have k131:=fun H c iw cs=>QeK p g ⟨by omega,hp.2⟩ k H c iw cs (by omega)
 have tl:=fun cs iw=>ZY p k cs iw
 have tp:=fun cs iw=>Uq (p:=p) (by omega) k cs iw
 have h17:2^k<=2^17:=GN (by decide) hk
 have h17':(2:Nat)^17=131072:=by decide
 have hpos:0<2^k:=Nat.two_pow_pos k
 generalize hNe:2^k=N at *
 have hiw:XZ p w<p:=ZN 64 _ _ _ (by omega)
 have hiN:XZ p N<p:=ZN 64 _ _ _ (by omega)
 repeat' first|apply Qf|apply Qb|apply Qt|apply QK|apply Qe|(apply Qd;first|refine QE rfl rfl rfl rfl rfl rfl ?_|refine Q4 rfl rfl rfl rfl rfl rfl rfl ?_)|(apply Qc;first|(refine Qad rfl rfl (by omega) ?_;intro h4 e4 b4)|refine Qy (esz:=1) rfl rfl (by omega) ?_|refine Jk rfl rfl (b4.wr (i:=0) (y:=1) (by simpa using hpos)) ?_|refine Ql rfl ?_)
 have b4':=b4.set (ys:=(List.replicate N 0).set 0 1)
 rw[QaJ (p:=p) (w:=w) hpos]at b4' ⊢
 have x4:=Ext.setF (x3.trans e4) x3.len (.cells ((fill (pwM p w) N 1).map fun (x:Nat)=>SV.int .u64 (x:Int)) true 1)
 generalize h4.set h3.length (.cells ((fill (pwM p w) N 1).map fun (x:Nat)=>SV.int .u64 (x:Int)) true 1)=h5 at *
 refine QV (Qjj p g h0.length N deg w h3.length (.sc esl) h2) (N-1) (QmP p g h0.length N deg w h3.length (.sc esl) h2) ⟨0,by omega,rfl,x4,b4',rfl⟩ (Qfj p g h0.length N deg w h3.length (.sc esl) h2 hp hw (by omega) c1 x3.len) ?_
 rintro ex E' h6 ⟨rfl,x6,b6,_,_,rfl⟩
 have hpl:((List.range N).map (pwM p w)).length=N:=by simp
 have hpp:∀ x∈(List.range N).map (pwM p w),x<p:=fun x hx=>by
  obtain⟨i,-,rfl⟩:=Gs.1 hx
  exact QcY (by omega) i
 generalize hpe:(List.range N).map (pwM p w)=pws at *
 repeat' first|apply Qf|apply Qb|apply Qt|apply QK|apply Qe|(apply Qd;first|refine Q4 rfl rfl rfl rfl rfl rfl rfl ?_|refine Q9 rfl rfl rfl rfl rfl rfl rfl rfl rfl ?_)|(apply Qc;first|(refine Qad rfl rfl (by omega) ?_;intro h7 e7 b7)|refine Qr rfl rfl ?_|refine Ql rfl ?_)
 refine QV (Qjn p g h0.length N h3.length h6.length n pws es esl (.sc (.int .i64 (deg:Nat))) (u w) h6) N (QmT p g h0.length N h3.length h6.length n pws es (.sc (.int .i64 (deg:Nat))) (u w) h6) ⟨0,Gm _,rfl,e7,by rw[Zf];exact b7,rfl⟩
  (Qfn p g h0.length N h3.length h6.length n pws es esl (.sc (.int .i64 (deg:Nat))) (u w) h6 hp ⟨hpos,by omega⟩ hn (c1.ext x6) b6 hpl hpp ((ee.ext e1).ext x6) he tok (Gd _)) ?_
 rintro ex E' h8 ⟨rfl,x8,b8,_,_,_,_,_,rfl⟩
 have hvl:((List.range N).map (JW p N n pws es)).length=N:=by simp
 have hvp:∀ x∈(List.range N).map (JW p N n pws es),x<p:=fun x hx=>by
  obtain⟨i,-,rfl⟩:=Gs.1 hx
  exact Qbd (by omega) _ _ _ _ (by omega)
 generalize hve:(List.range N).map (JW p N n pws es)=vs at *
 have tl:=tl vs (XZ p w) hvl
 have tp:=tp vs (XZ p w) hvl hvp
 have k131:=fun H (b:Bu H h6.length vs)=>k131 H h6.length (XZ p w) vs b hvl hvp hiw
 generalize hce:trM p k vs (XZ p w)=cs at *
 have k121a:=fun H=>UL H p g w ⟨hp.1,by omega⟩ (by omega)
 have k121b:=fun H=>UL H p g N ⟨hp.1,by omega⟩ (by omega)
 generalize hie:XZ p w=iw at *
 generalize hse:XZ p N=sc at *
 have c8:=(c1.ext x6).ext x8
 repeat' first|apply Qf|apply Qb|apply Qt|apply QK|apply Qe|apply Q7|apply Xm|apply Xn|(apply Qd;first|apply Q5|apply Xw|refine XP (by assumption) ?_|refine QG rfl rfl rfl rfl ?_|refine QE rfl rfl rfl rfl rfl rfl ?_)|(apply Qc;first|refine QU rfl c8 ?_|(refine Qj rfl (k121a _) ?_;rintro v9 h9 ⟨e9,rfl⟩;replace c8:=c8.ext e9;have b9:=b8.ext e9)|(refine Qj rfl (k131 _ b9) ?_;rintro v10 h10 ⟨e10,cid,lc,rfl,b10⟩;have c9:=c8;replace c8:=c8.ext e10)|refine Ua rfl (by omega) ?_|(refine Qj rfl (k121b _) ?_;rintro v11 h11 ⟨e11,rfl⟩)|refine Qr rfl rfl ?_|refine Ql rfl ?_)
 refine QV (Qjm p g h0.length N deg sc cid cs h9) N (QmS p g h0.length N deg sc cid cs h9) ⟨0,Gm _,rfl,e10.trans e11,by rw[QfF];exact b10.ext e11,rfl⟩ (Qfm p g h0.length N deg sc cid cs h9 hp hiN (by omega) tl tp c9 lc) ?_
 rintro ex E' h12 ⟨rfl,x12,b12,_,_,_,_,_,rfl⟩
 have hsl:Y7 0 ((deg:Int)+1).toNat (.slc cid 0 N (some N))=some (.slc cid 0 (deg+1) (some N)):=by
  have e:((deg:Int)+1).toNat=deg+1:=by omega
  simp only[Y7,e]
  rw[if_pos (by omega)]
  rfl
 repeat' first|apply Qf|apply Qb|apply QK|apply Qs|apply Qe|(apply Qd;refine Qq rfl ?_)|(apply Qc;first|refine k_to rfl rfl rfl (by omega) hsl ?_|refine Ql rfl ?_|refine QM rfl rfl (by omega) ?_)
 exact⟨.inr rfl,((((e1.trans x6).trans x8).trans e9).trans x12),k,w,cid,hk,by rw[hNe];exact hdk,hw,hrw,by rw[hNe];rfl,by rw[hNe,hpe,hve,hie,hce,hse];exact b12⟩
end Go.Proofs.YtofknpknogfijaaGreatDoor
namespace Go.Proofs.YtofknpknogfijaaGreatDoor
open Go.Ab
set_option linter.all false
variable [HB]
def evT(x:Int):List Tm->Int
 | []=>0
 | t::l=>t.2*x^t.1.toNat+evT x l
def evR(x:Int)(r:List (List Tm)):Row:=fun c=>evT x (r.getD c [])
theorem Qg2{p w N:Nat}(h:Cg p ((w:Int)^N) 1)(m:Nat):Cg p ((w:Int)^(m%N)) ((w:Int)^m):=by
 have e:(w:Int)^m=(w:Int)^(m%N)*((w:Int)^N)^(m/N):=by rw[← Int.pow_mul,← Int.pow_add,Nat.mod_add_div]
 rw[e]
 have:=(h.pow (m/N)).trans (Cg.of_eq (Y8 _))
 exact(Cg.of_eq (Int.mul_one _).symm).trans (Cg.rfl.mul this.symm)
theorem Qkr{p w N i:Nat}(h:i<N):((List.range N).map (pwM p w)).getD i 0=pwM p w i:=by
 rw[Ge,Gh,Gv h];rfl
theorem Qlp{p w N t x:Nat}{m:Tm}(hN:0<N)(h:Cg p ((w:Int)^N) 1)(ok:VJ p m):Cg p (Qf0 p N t ((List.range N).map (pwM p w)) x m:Nat) ((x:Int)+m.2*((w:Int)^t)^m.1.toNat):=by
 unfold Qf0
 rw[Qkr (GY _ hN)]
 refine adM_cg.trans (Cg.rfl.add (Cg.modN.trans ?_))
 rw[GZ]
 refine(Qc0 ok.2.2).mul ((QaH _).trans ((Qg2 h _).trans (Cg.of_eq ?_)))
 rw[← Int.pow_mul,HF]
theorem Qo3{p w N t:Nat}(hN:0<N)(h:Cg p ((w:Int)^N) 1){l:List Tm}(ok:∀ m∈l,VJ p m):Cg p (acc p N t ((List.range N).map (pwM p w)) l:Nat) (evT ((w:Int)^t) l):=by
 have key:∀(l:List Tm) (x:Nat),(∀ m∈l,VJ p m)->Cg p (l.foldl (Qf0 p N t ((List.range N).map (pwM p w))) x:Nat) ((x:Int)+evT ((w:Int)^t) l):=by
  intro l
  induction l with
  | nil=>intro x _;exact Cg.of_eq (by simp[evT])
  | cons m l ih =>
   intro x hx
   rw[List.foldl_cons]
   refine(ih _ fun y hy=>hx y (.tail _ hy)).trans (((Qlp hN h (hx m (.head _))).add Cg.rfl).trans (Cg.of_eq (Int.add_assoc _ _ _)))
 exact(key l 0 ok).trans (Cg.of_eq (by simp))
theorem QdR{p w N t n:Nat}(hN:0<N)(h:Cg p ((w:Int)^N) 1):∀ {es:List (List (List Tm))},(∀ r∈es,r.length=n/\∀ l∈r,∀ m∈l,VJ p m)->RsCg p (List.range' 0 n) ((es.map (yo p N t ((List.range N).map (pwM p w)))).map rw_) (es.map (evR ((w:Int)^t)))
 | [],_ => .nil
 | r::es,hs=>by
  refine .cons (fun c hc=>?_) (QdR hN h fun r hr=>hs r (.tail _ hr))
  rw[List.mem_range'_1]at hc
  obtain⟨l1,l2⟩:=hs r (.head _)
  obtain⟨l,hl⟩:∃ l,r[c]?=some l:=⟨_,Ga (by omega)⟩
  have e1:rw_ (yo p N t ((List.range N).map (pwM p w)) r) c=((acc p N t ((List.range N).map (pwM p w)) l:Nat):Int):=by
   unfold rw_ yo
   rw[Ge,Gh,hl];rfl
  have e2:evR ((w:Int)^t) r c=evT ((w:Int)^t) l:=by
   unfold evR
   rw[Ge,hl];rfl
  rw[e1,e2]
  exact Qo3 hN h (l2 l (Gg hl))
theorem Qgn{N n:Nat}(f:Nat->Int)(h:n<=N)(hz:∀ j,n<=j->f j=0):sm N f=sm n f:=by
 obtain⟨k,rfl⟩:∃ k,N=n+k:=⟨N-n,by omega⟩
 induction k with
 | zero=>rfl
 | succ k ih =>
  have:sm (n+(k+1)) f=sm (n+k) f+f (n+k):=rfl
  rw[this,ih (by omega),hz _ (by omega)];omega
theorem Rt1.pos{p k w:Nat}(hp:1<p)(h:Rt1 p k w):0<w:=by
 rcases Nat.eq_zero_or_pos w with e|e
 ·exfalso
  subst e
  rcases h.1 with h1|h1
  ·have:=(h.2 h1).eq (by show ((0:Int)-1).natAbs<p;simp;omega)
   simp at this
  ·rw[show ((0:Nat):Int)^2^(k-1)=0 from Int.zero_pow (Nat.pos_iff_ne_zero.1 (Nat.two_pow_pos _))]at h1
   have:=h1.eq (by show ((0:Int) - -1).natAbs<p;simp;omega)
   omega
 ·exact e
theorem FOK.cg{p:Nat}{inv:Nat->Nat}(hF:FOK p inv){a:Nat}(h0:0<a)(h1:a<p):Cg p ((a:Int)*(inv a:Nat)) 1:=by
 have:Cg p ((a*inv a:Nat):Int) ((1:Nat):Int):=by rw[← hF a h0 h1];exact Cg.modN.symm
 rwa [GZ]at this
theorem resid{p k w n deg:Nat}{es:List (List (List Tm))}{d:Nat->Int}(hF:FOK p (XZ p))(hp:262144<p)(hk:k<=17)(hw:w<p)(hr:Rt1 p k w)(hd:deg<2^k)(he:es.length=n)(tok:∀ r∈es,r.length=n/\∀ l∈r,∀ m∈l,VJ p m)
  (hD:∀ x:Int,D (es.map (evR x)) (List.range' 0 n)=sm (deg+1) fun j=>d j*x^j) (j:Nat) (hj:j<=deg) :
  (((trM p k ((List.range (2^k)).map (JW p (2^k) n ((List.range (2^k)).map (pwM p w)) es)) (XZ p w)).map fun x=>x*XZ p (2^k)%p).getD j 0)<p ∧
  Cg p (((trM p k ((List.range (2^k)).map (JW p (2^k) n ((List.range (2^k)).map (pwM p w)) es)) (XZ p w)).map fun x=>x*XZ p (2^k)%p).getD j 0:Nat) (d j):=by
 have hN:0<2^k:=Nat.two_pow_pos k
 have h17:2^k<=2^17:=GN (by decide) hk
 have h17':(2:Nat)^17=131072:=by decide
 have htop:=hr.1.top hr.2
 have hwp:=hr.pos (by omega)
 have hval:∀ t,Cg p (JW p (2^k) n ((List.range (2^k)).map (pwM p w)) es t:Nat) (sm (2^k) fun j=>(if j<=deg then d j else 0)*(w:Int)^(j*t)):=fun t=>by
  have hs:=Qal hF (by omega) n n 0 (es.map (yo p (2^k) t ((List.range (2^k)).map (pwM p w)))) 1 rfl (by simpa using he) (fun r hr=>by
   obtain⟨y,hy,rfl⟩:=Gs.1 hr
   refine⟨by unfold yo;rw[Gj];exact(tok y hy).1,fun x hx=>?_⟩
   obtain⟨l,hl,rfl⟩:=Gs.1 hx
   exact Qdw (by omega)) (by omega)
  refine hs.2.trans ((Cg.of_eq (Int.one_mul _)).trans ((Qjz (QdR hN htop tok)).trans (Cg.of_eq ?_)))
  rw[hD,Qgn (n:=deg+1) (fun j=>(if j<=deg then d j else 0)*(w:Int)^(j*t)) (by omega) fun j hj=>by rw[if_neg (by omega),Hx]]
  refine XT fun j hj=>?_
  rw[if_pos (by omega),← Int.pow_mul,HF]
 have hdft:=QkV hF (by omega) hr.1 (hF.cg hwp hw) ((List.range (2^k)).map (JW p (2^k) n ((List.range (2^k)).map (pwM p w)) es)) (by simp) (fun x hx=>by
  obtain⟨i,-,rfl⟩:=Gs.1 hx
  exact Qbd (by omega) _ _ _ _ (by omega)) (fun j=>if j<=deg then d j else 0) (fun t ht=>by
  rw[Ge,Gh,Gv ht]
  exact hval t) j (by omega)
 have hlen:=ZY p k ((List.range (2^k)).map (JW p (2^k) n ((List.range (2^k)).map (pwM p w)) es)) (XZ p w) (by simp)
 generalize trM p k ((List.range (2^k)).map (JW p (2^k) n ((List.range (2^k)).map (pwM p w)) es)) (XZ p w)=xs at *
 have ej:(xs.map fun x=>x*XZ p (2^k)%p).getD j 0=xs.getD j 0*XZ p (2^k)%p:=by
  rw[Ge,Ge,Gh,Ga (by omega)];rfl
 rw[ej]
 refine⟨GY _ (by omega),Cg.modN.trans ?_⟩
 rw[GZ]
 rw[if_pos hj]at hdft
 refine(hdft.mul Cg.rfl).trans ((Cg.of_eq ?_).trans (((hF.cg hN (by omega)).mul Cg.rfl).trans (Cg.of_eq (Int.one_mul _))))
 rw[Int.mul_right_comm]
set_option maxHeartbeats 16000000
set_option maxRecDepth 20000
attribute [local irreducible] Qm wA Xp Xo QI Qp QZ QY
def Yp:List Tm->Nat
 | []=>0
 | t::l=>t.2.natAbs+Yp l
def XQ:List (List Tm)->Nat
 | []=>0
 | l::r=>Yp l+XQ r
theorem Qe4{l:List Tm}{j:Nat}{t:Tm}(h:l[j]?=some t):Yp (l.take (j+1))=Yp (l.take j)+t.2.natAbs:=by
 induction l generalizing j with
 | nil=>simp at h
 | cons y l ih =>
  cases j with
  | zero=>simp at h;subst h;simp[Yp]
  | succ j =>
   have:=ih (j:=j) (by simpa using h)
   simp only[Hb,Yp]
   omega
theorem Qe0{r:List (List Tm)}{j:Nat}{l:List Tm}(h:r[j]?=some l):XQ (r.take (j+1))=XQ (r.take j)+Yp l:=by
 induction r generalizing j with
 | nil=>simp at h
 | cons y r ih =>
  cases j with
  | zero=>simp at h;subst h;simp[XQ]
  | succ j =>
   have:=ih (j:=j) (by simpa using h)
   simp only[Hb,XQ]
   omega
theorem QdD{l:List Tm}:∀ j,Yp (l.take j)<=Yp l:=by
 induction l with
 | nil=>intro j;simp[Yp]
 | cons y l ih =>
  intro j
  cases j with
  | zero=>simp[Yp]
  | succ j=>have:=ih j;simp only[Hb,Yp];omega
theorem QjC{r:List (List Tm)}:∀ j,XQ (r.take j)<=XQ r:=by
 induction r with
 | nil=>intro j;simp[XQ]
 | cons y r ih =>
  intro j
  cases j with
  | zero=>simp[XQ]
  | succ j=>have:=ih j;simp only[Hb,XQ];omega
def Qjo(l:List Tm)(ts:SV)(S0:Nat)(a3 a11 a12 a13 a17 a18 a19:AV)(hb:Qa)(m:Nat)(E:Env)(h:Qa):Prop:=∃ j,j<=l.length/\m=l.length-j/\Ext hb h ∧
 E.keep [3,6,11,12,13,17,18,19,23,24,25]=[(3,some a3),(6,some (.sc (.int .i64 ((S0+Yp (l.take j):Nat):Int)))),(11,some a11),(12,some a12),(13,some a13),(17,some a17),(18,some a18),(19,some a19),(23,some (.sc ts)),(24,some (.sc (.int .i64 (l.length:Nat)))),(25,some (.sc (.int .i64 (j:Nat))))]
def QmU(l:List Tm)(S0:Nat)(a3 a11 a12 a13 a17 a18 a19:AV)(hb:Qa)(ex:Ex)(E:Env)(h:Qa):Prop:=ex = .ex 4/\Ext hb h ∧
 ∃ a b c d,E=[(3,some a3),(6,some (.sc (.int .i64 ((S0+Yp l:Nat):Int)))),(11,some a11),(12,some a12),(13,some a13),(17,some a17),(18,some a18),(19,some a19),(23,a),(24,b),(25,c),(26,d)]
theorem Qfo(l:List Tm)(ts:SV)(S0:Nat)(a3 a11 a12 a13 a17 a18 a19:AV)(hb:Qa)(hl:l.length<=1000000)(hS:S0+Yp l<4611686018427387904)(dt:IsD hb ts (tms l))(m:Nat)(E:Env)(h:Qa)(hI:Qjo l ts S0 a3 a11 a12 a13 a17 a18 a19 hb m E h) :
  wA FT HKt QiN (E.keep [3,6,11,12,13,17,18,19,23,24,25]) h (Qp (Qjo l ts S0 a3 a11 a12 a13 a17 a18 a19 hb) m (QmU l S0 a3 a11 a12 a13 a17 a18 a19 hb)):=by
 obtain⟨j,hj,rfl,x,hE⟩:=hI
 rw[hE]
 by_cases hlt:j<l.length
 ·obtain⟨y,hy⟩:∃ y,l[j]?=some y:=⟨_,Ga hlt⟩
  obtain⟨id,off,cap,es,rA⟩:=dt.at (i:=j) (p:=tmP y) (by simp[hy])
  rw[Q6]at es
  subst es
  have rA0:=Qw x rA
  have st:=Qe4 hy
  have le:=QdD (l:=l) (j+1)
  have le0:=QdD (l:=l) j
  obtain⟨y1,y2⟩:=y
  simp only at st
  generalize hs1:Yp (l.take (j+1))=s1 at *
  generalize Yp (l.take j)=s0 at *
  have e1:min (((S0+s0:Nat):Int)+max (y1,y2).2 (-(y1,y2).2)) 4611686018427387904=((S0+s1:Nat):Int):=by simp only;omega
  have x0:=x
  repeat' first|apply Qf|apply Qb|apply Qt|apply QL|apply Qn|apply Qe|(apply Qg;refine Qk rfl ?_)|(apply Qd;first|refine Yr rfl rfl rfl rfl rfl rfl rfl rfl rfl rfl rfl ?_|refine X0 rfl rfl rfl rfl rfl rfl rfl rfl rfl rfl rfl rfl ?_)|(apply Qc;first|(refine qI rfl ?_;intro h1 x1 c10;replace x0:=x.trans x1)|refine QW rfl ?_|refine QH rfl c10 ?_|refine XH rfl rA0 ?_|refine Qy (esz:=2) rfl rfl (by omega) ?_|refine Ql rfl ?_|refine QM rfl rfl (by omega) ?_|refine Z1 rfl (by omega) ?_|refine Qae rfl rfl ?_|refine Qch rfl rfl ?_|refine Qx rfl rfl (by omega) ?_)
  rw[e1]
  exact Qz (j:=l.length-(j+1)) (by omega) ⟨j+1,by omega,rfl,x0,by rw[hs1];rfl⟩
 ·have:j=l.length:=by omega
  subst this
  repeat' first|apply Qf|apply Qb|apply QS|apply QQ|apply Qe|(apply Qg;refine Qi rfl ?_)|(apply Qd;refine X0 rfl rfl rfl rfl rfl rfl rfl rfl rfl rfl rfl rfl ?_)|(apply Qc;refine QF rfl rfl (by omega) ?_)
  rw[Gx]
  exact QB ⟨rfl,x,_,_,_,_,rfl⟩
def Qjp(r:List (List Tm))(rs:SV)(a3 a11 a12 a13:AV)(hb:Qa)(m:Nat)(E:Env)(h:Qa):Prop:=∃ k,k<=r.length/\m=r.length-k/\Ext hb h ∧
 E.keep [3,6,11,12,13,17,18,19]=[(3,some a3),(6,some (.sc (.int .i64 ((XQ (r.take k):Nat):Int)))),(11,some a11),(12,some a12),(13,some a13),(17,some (.sc rs)),(18,some (.sc (.int .i64 (r.length:Nat)))),(19,some (.sc (.int .i64 (k:Nat))))]
def QmV(r:List (List Tm))(a3 a11 a12 a13:AV)(hb:Qa)(ex:Ex)(E:Env)(h:Qa):Prop:=ex = .ex 2/\Ext hb h ∧
 ∃ a b c d,E=[(3,some a3),(6,some (.sc (.int .i64 ((XQ r:Nat):Int)))),(11,some a11),(12,some a12),(13,some a13),(17,a),(18,b),(19,c),(20,d)]
theorem Qfp(r:List (List Tm))(rs:SV)(a3 a11 a12 a13:AV)(hb:Qa)(hl:r.length<=1000000)(hll:∀ l∈r,l.length<=1000000)(hS:XQ r<4611686018427387904)(er:Ent1 hb rs r)(m:Nat)(E:Env)(h:Qa)(hI:Qjp r rs a3 a11 a12 a13 hb m E h) :
  wA FT HKt QiO (E.keep [3,6,11,12,13,17,18,19]) h (Qp (Qjp r rs a3 a11 a12 a13 hb) m (QmV r a3 a11 a12 a13 hb)):=by
 obtain⟨k,hk,rfl,x,hE⟩:=hI
 rw[hE]
 by_cases hlt:k<r.length
 ·obtain⟨ss,l1,l2,l3⟩:=er
  obtain⟨ts,hts⟩:∃ x,ss[k]?=some x:=⟨_,Ga (by omega)⟩
  obtain⟨l,hl⟩:∃ x,r[k]?=some x:=⟨_,Ga (by omega)⟩
  have dt:=l3 k ts l hts hl
  have ll:=hll l (Gg hl)
  obtain⟨id,off,cap,es,rd⟩:=l2.at hts
  subst es
  have ld:=dt.len
  rw[Q6]at ld
  have rd0:=Qw x rd
  have st:=Qe0 hl
  have le:=QjC (r:=r) (k+1)
  generalize hs1:XQ (r.take (k+1))=s1 at *
  generalize XQ (r.take k)=s0 at *
  repeat' first|apply Qf|apply Qb|apply Qt|apply Qn|apply Qe|(apply Qg;refine Qk rfl ?_)|(apply Qd;first|refine Q9 rfl rfl rfl rfl rfl rfl rfl rfl rfl ?_|refine Yr rfl rfl rfl rfl rfl rfl rfl rfl rfl rfl rfl ?_)|(apply Qc;first|refine Qy (esz:=1) rfl rfl (by omega) ?_|refine Q1 rfl rd0 ?_|refine Qr rfl ld ?_|refine Ql rfl ?_|refine Qx rfl rfl (by omega) ?_)
  refine QV (Qjo l ts s0 a3 a11 a12 a13 (.sc (.slc id off ss.length cap)) (.sc (.int .i64 (r.length:Nat))) (.sc (.int .i64 (k:Nat))) hb) l.length (QmU l s0 a3 a11 a12 a13 (.sc (.slc id off ss.length cap)) (.sc (.int .i64 (r.length:Nat))) (.sc (.int .i64 (k:Nat))) hb) ⟨0,Gm _,rfl,x,rfl⟩
   (Qfo l ts s0 a3 a11 a12 a13 (.sc (.slc id off ss.length cap)) (.sc (.int .i64 (r.length:Nat))) (.sc (.int .i64 (k:Nat))) hb ll (by omega) dt) ?_
  rintro ex E' h2 ⟨rfl,x2,_,_,_,_,rfl⟩
  rw[← st]
  repeat' first|apply Qb|apply QL|apply QK|apply Qe|(apply Qd;refine Xh rfl rfl rfl rfl rfl rfl rfl rfl ?_)|(apply Qc;first|refine Ql rfl ?_|refine QM rfl rfl (by omega) ?_)
  exact Qz (j:=r.length-(k+1)) (by omega) ⟨k+1,by omega,rfl,x2,by rw[hs1];rfl⟩
 ·have:k=r.length:=by omega
  subst this
  repeat' first|apply Qf|apply Qb|apply QS|apply QQ|apply Qe|(apply Qg;refine Qi rfl ?_)|(apply Qd;refine Q9 rfl rfl rfl rfl rfl rfl rfl rfl rfl ?_)|(apply Qc;refine QF rfl rfl (by omega) ?_)
  rw[Gx]
  exact QB ⟨rfl,x,_,_,_,_,rfl⟩
def Wts(b:Nat)(es:List (List (List Tm)))(T:Nat):Prop:=(es.map XQ).foldr (·*·) 1<=2^T/\T<=b*es.length
theorem Qfw{l:List Nat}{x:Nat}:(l++[x]).foldr (·*·) 1=l.foldr (·*·) 1*x:=by
 induction l with
 | nil=>simp
 | cons y l ih=>simp only[List.cons_append,List.foldr_cons,ih,Nat.mul_assoc]
theorem Wts.step{b T L i:Nat}{es:List (List (List Tm))}{r:List (List Tm)}(w:Wts b (es.take i) T)(hr:es[i]?=some r)(hL:Ui (XQ r) L)(hb:XQ r<2^b):Wts b (es.take (i+1)) (T+L):=by
 have hi:=(Gb.1 hr).1
 have e:es.take (i+1)=es.take i++[r]:=by rw[GB,hr];rfl
 refine⟨?_,?_⟩
 ·rw[e,GW,GE,List.map_nil,Qfw,Nat.pow_add]
  exact Hj w.1 (HG hL.1)
 ·have hLb:L<=b:=by
   apply Classical.byContradiction
   intro h
   have h1:2^(b+1)<=2^L:=GN (by decide) (by omega)
   rw[Nat.pow_succ]at h1
   have:=hL.2.1
   omega
  have:=w.2
  rw[e,Gz,Hl,Nat.mul_add,Hh]
  omega
theorem Qk9(h0:Qa)(x:Nat)(hx:0<x/\x<18446744073709551616):∃ r h',Cal FT HKt 128 [.sc (.int .u64 (x:Nat))] h0 r h'/\h'=h0/\∃ L:Nat,r = .sc (.int .i64 (L:Nat))/\Ui x L:=by
 refine Cal.of (F:=a128) rfl rfl rfl ?_
 have k:=fun H=>QeJ H x hx
 repeat' first|apply Qf|apply Qb|apply Qn|apply Qs|apply Qe|(apply Qg;refine Qi rfl ?_)|(apply Qd;refine Qq rfl ?_)|(apply Qc;first|(refine Qj rfl (k _) ?_;rintro v h1 ⟨rfl,L,rfl,hL⟩)|refine Ql rfl ?_)
 exact⟨.inr rfl,rfl,L,rfl,hL⟩
def I107(b:Nat)(es:List (List (List Tm)))(esl:SV)(hb:Qa)(m:Nat)(E:Env)(h:Qa):Prop:=∃ i T,i<=es.length/\m=es.length-i/\Ext hb h/\Wts b (es.take i) T ∧
 E.keep [3,11,12,13]=[(3,some (.sc (.int .i64 (T:Nat)))),(11,some (.sc esl)),(12,some (.sc (.int .i64 (es.length:Nat)))),(13,some (.sc (.int .i64 (i:Nat))))]
def R107(b:Nat)(es:List (List (List Tm)))(hb:Qa)(ex:Ex)(E:Env)(h:Qa):Prop:=ex = .ex 0/\Ext hb h/\∃ T,Wts b es T ∧
 ∃ a c d e,E=[(3,some (.sc (.int .i64 (T:Nat)))),(11,a),(12,c),(13,d),(14,e)]
theorem QgU(b:Nat)(es:List (List (List Tm)))(esl:SV)(hb:Qa)(hb60:b<=60)(hn:es.length<=1000)(ok:∀ r∈es,r.length<=1000000/\(∀ l∈r,l.length<=1000000)/\0<XQ r/\XQ r<2^b)(ee:Ents hb esl es)(m:Nat)(E:Env)(h:Qa)(hI:I107 b es esl hb m E h) :
  wA FT HKt QiP (E.keep [3,11,12,13]) h (Qp (I107 b es esl hb) m (R107 b es hb)):=by
 obtain⟨i,T,hi,rfl,x,wt,hE⟩:=hI
 rw[hE]
 by_cases hlt:i<es.length
 ·obtain⟨ss,l1,l2,l3⟩:=ee
  obtain⟨rs,hrs⟩:∃ x,ss[i]?=some x:=⟨_,Ga (by omega)⟩
  obtain⟨r,hr⟩:∃ x,es[i]?=some x:=⟨_,Ga (by omega)⟩
  have er:=l3 i rs r hrs hr
  obtain⟨ok1,ok2,ok3,ok4⟩:=ok r (Gg hr)
  have h60:2^b<=2^60:=GN (by decide) hb60
  have h60':(2:Nat)^60=1152921504606846976:=by decide
  obtain⟨id,off,cap,e1,rd⟩:=l2.at hrs
  subst e1
  have ld:=er.len
  have rd0:=Qw x rd
  have hT:T<=60*1000:=Gq wt.2 (Hj hb60 (by simp;omega))
  repeat' first|apply Qf|apply Qb|apply Qt|apply Qn|apply Qe|(apply Qg;refine Qk rfl ?_)|(apply Qd;first|refine QO rfl rfl rfl rfl rfl ?_|refine QE rfl rfl rfl rfl rfl rfl ?_|refine Xh rfl rfl rfl rfl rfl rfl rfl rfl ?_)|(apply Qc;first|refine Qy (esz:=1) rfl rfl (by omega) ?_|refine Q1 rfl rd0 ?_|refine Qr rfl ld ?_|refine Ql rfl ?_|refine Qx rfl rfl (by omega) ?_)
  refine QV (Qjp r rs (.sc (.int .i64 (T:Nat))) (.sc (.slc id off ss.length cap)) (.sc (.int .i64 (es.length:Nat))) (.sc (.int .i64 (i:Nat))) hb) r.length (QmV r (.sc (.int .i64 (T:Nat))) (.sc (.slc id off ss.length cap)) (.sc (.int .i64 (es.length:Nat))) (.sc (.int .i64 (i:Nat))) hb) ⟨0,Gm _,rfl,x,rfl⟩
   (Qfp r rs (.sc (.int .i64 (T:Nat))) (.sc (.slc id off ss.length cap)) (.sc (.int .i64 (es.length:Nat))) (.sc (.int .i64 (i:Nat))) hb ok1 ok2 (by omega) er) ?_
  rintro ex E' h2 ⟨rfl,x2,_,_,_,_,rfl⟩
  have k128:=fun H=>Qk9 H (XQ r) ⟨ok3,by omega⟩
  have stp:=fun L (hL:Ui (XQ r) L)=>wt.step hr hL ok4
  generalize XQ r=W at *
  repeat' first|apply Qf|apply Qb|apply QL|apply QK|apply Qe|(apply Qg;refine Qi rfl ?_)|(apply Qd;first|refine QG rfl rfl rfl rfl ?_|refine QE rfl rfl rfl rfl rfl rfl ?_)|(apply Qc;first|refine Ua rfl (by omega) ?_|(refine Qj rfl (k128 _) ?_;rintro v h3 ⟨rfl,L,rfl,hL⟩;have hL64:=hL.2.2)|refine Ql rfl ?_|refine QM rfl rfl (by omega) ?_|refine Xl rfl rfl (by omega) ?_)
  exact Qz (j:=es.length-(i+1)) (by omega) ⟨i+1,T+L,by omega,rfl,x2,stp L hL,rfl⟩
 ·have:i=es.length:=by omega
  subst this
  rw[Gx]at wt
  repeat' first|apply Qf|apply Qb|apply QS|apply QQ|apply Qe|(apply Qg;refine Qi rfl ?_)|(apply Qd;refine QO rfl rfl rfl rfl rfl ?_)|(apply Qc;refine QF rfl rfl (by omega) ?_)
  exact QB ⟨rfl,x,T,wt,_,_,_,_,rfl⟩
theorem Qle(b:Nat)(es:List (List (List Tm)))(esl:SV)(h0:Qa)(hb60:b<=60)(hn:es.length<=1000)(ok:∀ r∈es,r.length<=1000000/\(∀ l∈r,l.length<=1000000)/\0<XQ r/\XQ r<2^b)(ee:Ents h0 esl es) :
  ∃ r h',Cal FT HKt 107 [.sc esl] h0 r h'/\Ext h0 h'/\∃ T:Nat,r = .sc (.int .i64 (T:Nat))/\Wts b es T:=by
 refine Cal.of (F:=a107) rfl rfl rfl ?_
 have ls:Yh false esl=some (es.length:Int):=by
  obtain⟨ss,l1,l2,-⟩:=ee
  rw[← l1];exact IsSl.len l2
 repeat' first|apply Qf|apply Qb|apply Qt|apply Qe|(apply Qd;first|refine Qq rfl ?_|refine QA rfl rfl ?_|refine QG rfl rfl rfl rfl ?_)|(apply Qc;first|refine Qr rfl ls ?_|refine Ql rfl ?_)
 refine QV (I107 b es esl h0) es.length (R107 b es h0) ⟨0,0,Gm _,rfl,Ext.refl _,⟨by simp,by simp⟩,rfl⟩ (QgU b es esl h0 hb60 hn ok ee) ?_
 rintro ex E' h2 ⟨rfl,x2,T,wt,_,_,_,_,rfl⟩
 repeat' first|apply Qf|apply Qb|apply QK|apply Qs|apply Qe|(apply Qd;refine Qq rfl ?_)|(apply Qc;refine Ql rfl ?_)
 exact⟨.inr rfl,x2,T,rfl,wt⟩
def Bi(h:Qa)(id:Nat)(xs:List Int):Prop:=h[id]?=some (.cells (xs.map (SV.int .i64)) true 1)
theorem Bi.ext{h h':Qa}{id:Nat}{xs:List Int}(b:Bi h id xs)(e:Ext h h'):Bi h' id xs:=by
 obtain⟨t,rfl⟩:=e
 unfold Bi at *
 rw[Gn (Gb.1 b).1,b]
theorem Bi.lt{h:Qa}{id:Nat}{xs:List Int}(b:Bi h id xs):id<h.length:=(Gb.1 b).1
theorem Bi.rd{h:Qa}{id i:Nat}{xs:List Int}{x:Int}(b:Bi h id xs)(hi:xs[i]?=some x):Q3 h id (0+i*1) 1=some [.int .i64 x] :=
 QaA b (by rw[Gh,hi];rfl)
theorem Bi.wr{h:Qa}{id i:Nat}{y:Int}{xs:List Int}(b:Bi h id xs)(hi:i<xs.length):Xx h id (0+i*1) [.int .i64 y]=some (h.set id (.cells ((xs.set i y).map (SV.int .i64)) true 1)):=by
 rw[wr1 b (by simpa using hi),List.map_set]
theorem Bi.set{h:Qa}{id:Nat}{xs ys:List Int}(b:Bi h id xs):Bi (h.set id (.cells (ys.map (SV.int .i64)) true 1)) id ys:=by
 unfold Bi;rw[GA b.lt]
theorem Bi.ints{h:Qa}{id:Nat}{xs:List Int}{c:Option Nat}(b:Bi h id xs):IsInts h (.slc id 0 xs.length c) xs:=by
 refine .inr ⟨id,0,c,_,rfl,b,rfl,fun h=>by rw[Gw h];rfl,fun _=>⟨_,_,rfl,?_⟩⟩
 unfold cut
 rw[if_pos (by simp[ESz.one_n])]
 simp only[ESz.one_n,Hi,Hh]
 rw[GG (by simp)]
def yQ(f:Nat->Int)(n i:Nat):List Int:=(List.range n).map fun j=>if j<i then f j else 0
theorem Qct{f:Nat->Int}{n i:Nat}:(yQ f n i).length=n:=by simp[yQ]
theorem Qai{f:Nat->Int}{n:Nat}:yQ f n 0=List.replicate n 0:=by
 unfold yQ
 apply Gt
 intro j
 rw[Gh,HA]
 rcases GD j n with h|h
 ·rw[Gv h,if_pos h];simp
 ·rw[Gr (by simpa using h),if_neg (by omega)];rfl
theorem Qcs{f:Nat->Int}{n i:Nat}(h:i<n):(yQ f n i).set i (f i)=yQ f n (i+1):=by
 unfold yQ
 apply Gt
 intro j
 rw[GQ,Gh,Gh,Gj,Hq]
 by_cases e:i=j
 ·subst e
  rw[if_pos rfl,if_pos h,Gv h];simp
 ·rw[if_neg e]
  rcases GD j n with hj|hj
  ·rw[Gv hj]
   simp only[Gp]
   by_cases h1:j<i
   ·rw[if_pos h1,if_pos (by omega)]
   ·rw[if_neg h1,if_neg (by omega)]
  ·rw[Gr (by simpa using hj)];rfl
theorem Qaj{f:Nat->Int}{n:Nat}:yQ f n n=(List.range n).map f:=by
 unfold yQ
 refine G6 fun j hj=>?_
 rw[if_pos (Ho.1 hj)]
theorem QkL{f:Nat->Int}{n i:Nat}(h:i<n):(yQ f n (i+1))[i]?=some (f i):=by
 unfold yQ
 rw[Gh,Gv h];simp
section
variable {FT:zzA} {HK:zzH} {E:Env} {h:Qa} {K:Env->Qa->Prop} {d:Option Nat} {r:List AOp} {x y:AO}
theorem QlS{n:Nat}(hx:evS E x=some (.int .i64 (n:Nat)))(hy:evS E y=some (.int .i64 (n:Nat)))(hb:n<=10000000)(hw:∀ h1,Ext h h1->Bi h1 h.length (List.replicate n 0)->Qm FT HK r (Qv d (some (.sc (.slc h.length 0 n (some n)))) E) h1 K) :
  Qm FT HK (⟨d,.mk 1 8 [.int .i64 0] x y,none⟩::r) E h K:=by
 refine Q2 (v:=some (.sc (.slc h.length 0 n (some n)))) (h':=h++[.cells (rep [.int .i64 0] n) true 1]) rfl rfl ?_ (hw _ ⟨_,rfl⟩ ?_)
 ·simp only[Qo,hx,hy]
  rw[if_pos ⟨by omega,by omega,by unfold XS;omega⟩,Hp]
 ·unfold Bi
  rw[Gi (Gd _),G1,repN,List.map_replicate];rfl
end
def I77a(p g q9 cid xid M N:Nat)(xs:List Nat)(a0 a1 a22 a23 a24:AV)(hb:Qa)(m:Nat)(E:Env)(h:Qa):Prop:=∃ j,j<=M/\m=M-j/\Ext hb h/\Bi h cid (yQ (fun i=>lfM p (xs.getD i 0)) M j)/\(∀ i,i<j->(lfM p (xs.getD i 0)).natAbs<=cM) ∧
 E.keep [0,1,7,9,10,22,23,24,37,38,39]=[(0,some a0),(1,some a1),(7,some (.sc (.slc cid 0 M (some M)))),(9,some (.sc (.ptr q9 0))),(10,some (.sc (.slc xid 0 M (some N)))),(22,some a22),(23,some a23),(24,some a24),(37,some (.sc (.slc xid 0 M (some N)))),(38,some (.sc (.int .i64 (M:Nat)))),(39,some (.sc (.int .i64 (j:Nat))))]
def R77a(p g q9 cid xid M N:Nat)(xs:List Nat)(a0 a1 a22 a23 a24:AV)(hb:Qa)(ex:Ex)(E:Env)(h:Qa):Prop:=Ext hb h ∧
 ((ex = .ex 2 ∧ Bi h cid ((List.range M).map fun i => lfM p (xs.getD i 0)) ∧ (∀ i, i < M -> (lfM p (xs.getD i 0)).natAbs ≤ cM) ∧
   ∃ a b c d,E=[(0,some a0),(1,some a1),(7,some (.sc (.slc cid 0 M (some M)))),(9,some (.sc (.ptr q9 0))),(10,some (.sc (.slc xid 0 M (some N)))),(22,some a22),(23,some a23),(24,some a24),(37,a),(38,b),(39,c),(40,d)]) ∨
  (ex = .rt/\(∃ i,i<M/\¬(lfM p (xs.getD i 0)).natAbs<=cM)/\E=[(4,some (.sc .nilS)),(5,some (.sc (.bool false)))]))
theorem Qgt(p g q9 cid xid M N:Nat)(xs:List Nat)(a0 a1 a22 a23 a24:AV)(hb:Qa)(hp:2<=p/\p<9223372036854775808)(hM:M<=xs.length)(hM2:M<=1000000)(hx:∀ i,i<M->xs.getD i 0<p)(c9:Cel hb q9 (.int .u64 (p:Nat)) (.int .u64 (g:Nat)))(bx:Bu hb xid xs)(hl:hb.length<=cid)(m:Nat)(E:Env)(h:Qa)(hI:I77a p g q9 cid xid M N xs a0 a1 a22 a23 a24 hb m E h) :
  wA FT HKt Ql3 (E.keep [0,1,7,9,10,22,23,24,37,38,39]) h (Qp (I77a p g q9 cid xid M N xs a0 a1 a22 a23 a24 hb) m (R77a p g q9 cid xid M N xs a0 a1 a22 a23 a24 hb)):=by
 obtain⟨j,hj,rfl,x,b,hall,hE⟩:=hI
 rw[hE]
 have c9h:=c9.ext x
 by_cases hlt:j<M
 ·have r1:=Qw x (bx.rd (i:=j) (by omega))
  have hxj:=hx j hlt
  have k97:=fun H=>Qol H p g (xs.getD j 0) hp.2 hxj
  have fs:=Qcs (f:=fun i=>lfM p (xs.getD i 0)) hlt
  have wv:=fun h' (y:Ext h h')=>(b.ext y).wr (i:=j) (y:=lfM p (xs.getD j 0)) (by rw[Qct];exact hlt)
  rw[fs]at wv
  have r2:=fun h' (y:Ext h h')=>(((b.ext y).set (ys:=yQ (fun i=>lfM p (xs.getD i 0)) M (j+1)))).rd (QkL hlt)
  have hlf:(lfM p (xs.getD j 0)).natAbs<9223372036854775808:=by unfold lfM;split <;> omega
  have hc:cM=1125899906842624:=rfl
  have nx:(lfM p (xs.getD j 0)).natAbs<=cM->∀ i,i<j+1->(lfM p (xs.getD i 0)).natAbs<=cM:=fun h i hi=>by
   by_cases e:i=j
   ·subst e;exact h
   ·exact hall i (by omega)
  generalize hL:lfM p (xs.getD j 0)=L at *
  by_cases h1:L > 1125899906842624
  ·repeat' first|apply Qf|apply Qb|apply QC|apply Qt|apply Xi|apply Qn|apply Qs|apply Qe|(apply Qg;refine Qk rfl ?_)|(apply Qd;first|refine QA rfl rfl ?_|refine X0 rfl rfl rfl rfl rfl rfl rfl rfl rfl rfl rfl rfl ?_|refine Y5 rfl rfl rfl rfl rfl rfl rfl rfl rfl rfl rfl rfl rfl ?_)|(apply Qc;first|refine QU rfl c9h ?_|refine Qy (esz:=1) rfl rfl (by omega) ?_|refine Q1 rfl r1 ?_|(refine Qj rfl (k97 _) ?_;rintro v1 h1 ⟨x1,rfl⟩)|refine Jk rfl rfl (wv _ x1) ?_|refine Q1 rfl (r2 _ x1) ?_|refine Xd rfl ?_|refine Ql rfl ?_|refine QR rfl rfl ?_|refine Qx rfl rfl (by omega) ?_|refine XK rfl rfl (by omega) ?_)
   exact Xt ⟨Ext.setF (x.trans x1) hl _,.inr ⟨rfl,⟨j,hlt,by rw[hL];omega⟩,rfl⟩⟩
  by_cases h2:L < -1125899906842624
  ·repeat' first|apply Qf|apply Qb|apply QC|apply Qt|apply Xi|apply Qn|apply Qs|apply Qe|(apply Qg;refine Qk rfl ?_)|(apply Qd;first|refine QA rfl rfl ?_|refine X0 rfl rfl rfl rfl rfl rfl rfl rfl rfl rfl rfl rfl ?_|refine Y5 rfl rfl rfl rfl rfl rfl rfl rfl rfl rfl rfl rfl rfl ?_)|(apply Qc;first|refine QU rfl c9h ?_|refine Qy (esz:=1) rfl rfl (by omega) ?_|refine Q1 rfl r1 ?_|(refine Qj rfl (k97 _) ?_;rintro v1 h1 ⟨x1,rfl⟩)|refine Jk rfl rfl (wv _ x1) ?_|refine Q1 rfl (r2 _ x1) ?_|refine QP rfl ?_|refine Ql rfl ?_|refine QJ rfl rfl ?_|refine Qx rfl rfl (by omega) ?_|refine XD rfl rfl (by omega) ?_)
   exact Xt ⟨Ext.setF (x.trans x1) hl _,.inr ⟨rfl,⟨j,hlt,by rw[hL];omega⟩,rfl⟩⟩
  repeat' first|apply Qf|apply Qb|apply Qt|apply QL|apply Qn|apply Qe|(apply Qg;first|refine Qk rfl ?_|refine Qi rfl ?_)|(apply Qd;first|refine Yr rfl rfl rfl rfl rfl rfl rfl rfl rfl rfl rfl ?_|refine X0 rfl rfl rfl rfl rfl rfl rfl rfl rfl rfl rfl rfl ?_|refine Y5 rfl rfl rfl rfl rfl rfl rfl rfl rfl rfl rfl rfl rfl ?_)|(apply Qc;first|refine QU rfl c9h ?_|refine Qy (esz:=1) rfl rfl (by omega) ?_|refine Q1 rfl r1 ?_|(refine Qj rfl (k97 _) ?_;rintro v1 h1 ⟨x1,rfl⟩)|refine Jk rfl rfl (wv _ x1) ?_|refine Q1 rfl (r2 _ x1) ?_|refine QP rfl ?_|refine Ql rfl ?_|refine QJ rfl rfl ?_|refine QM rfl rfl (by omega) ?_|refine Qx rfl rfl (by omega) ?_|refine QF rfl rfl (by omega) ?_|refine XD rfl rfl (by omega) ?_)
  exact Qz (j:=M-(j+1)) (by omega) ⟨j+1,by omega,rfl,Ext.setF (x.trans x1) hl _,(b.ext x1).set,nx (by omega),rfl⟩
 ·have:j=M:=by omega
  subst this
  rw[Qaj]at b
  repeat' first|apply Qf|apply Qb|apply QS|apply QQ|apply Qe|(apply Qg;refine Qi rfl ?_)|(apply Qd;refine X0 rfl rfl rfl rfl rfl rfl rfl rfl rfl rfl rfl rfl ?_)|(apply Qc;refine QF rfl rfl (by omega) ?_)
  exact QB ⟨x,.inl ⟨rfl,b,hall,_,_,_,_,rfl⟩⟩
def Qlu(p g q9 M N:Nat)(xid:Nat)(xs:List Nat)(zs:List Int)(cs:SV)(a0 a1 a22 a23 a24:AV)(hb:Qa)(m:Nat)(E:Env)(h:Qa):Prop:=∃ j,j<=M/\m=M-j/\Ext hb h/\(∀ i,i<j->ofM p (zs.getD i 0)=xs.getD i 0) ∧
 E.keep [0,1,7,9,22,23,24,63,64,65]=[(0,some a0),(1,some a1),(7,some (.sc cs)),(9,some (.sc (.ptr q9 0))),(22,some a22),(23,some a23),(24,some a24),(63,some (.sc (.slc xid 0 M (some N)))),(64,some (.sc (.int .i64 (M:Nat)))),(65,some (.sc (.int .i64 (j:Nat))))]
def R77b(p g q9 M N:Nat)(xs:List Nat)(zs:List Int)(cs:SV)(a0 a1 a22 a23 a24:AV)(hb:Qa)(ex:Ex)(E:Env)(h:Qa):Prop:=Ext hb h ∧
 ((ex = .ex 4 ∧ (∀ i, i < M -> ofM p (zs.getD i 0) = xs.getD i 0) ∧
   ∃ a b c d e,E=[(0,some a0),(1,some a1),(7,some (.sc cs)),(9,e),(22,some a22),(23,some a23),(24,some a24),(63,a),(64,b),(65,c),(66,d)]) ∨
  (ex = .rt/\(∃ i,i<M/\ofM p (zs.getD i 0)≠xs.getD i 0)/\E=[(4,some (.sc .nilS)),(5,some (.sc (.bool false)))]))
theorem QbK(p g q9 M N xid:Nat)(xs:List Nat)(zs:List Int)(cs:SV)(a0 a1 a22 a23 a24:AV)(hb:Qa)(hp:2251799813685248<p/\p<9223372036854775808)(hM:M<=xs.length)(hM2:M<=1000000)(hx:∀ i,i<M->xs.getD i 0<p)(hz:zs.length=M)(hzc:∀ z∈zs,z.natAbs<=cM)(c9:Cel hb q9 (.int .u64 (p:Nat)) (.int .u64 (g:Nat)))(bx:Bu hb xid xs)(ic:IsInts hb cs zs)(m:Nat)(E:Env)(h:Qa)(hI:Qlu p g q9 M N xid xs zs cs a0 a1 a22 a23 a24 hb m E h) :
  wA FT HKt Ql2 (E.keep [0,1,7,9,22,23,24,63,64,65]) h (Qp (Qlu p g q9 M N xid xs zs cs a0 a1 a22 a23 a24 hb) m (R77b p g q9 M N xs zs cs a0 a1 a22 a23 a24 hb)):=by
 obtain⟨j,hj,rfl,x,hall,hE⟩:=hI
 rw[hE]
 have c9h:=c9.ext x
 by_cases hlt:j<M
 ·have r1:=Qw x (bx.rd (i:=j) (by omega))
  have hxj:=hx j hlt
  obtain⟨z,hz0⟩:∃ z,zs[j]?=some z:=⟨_,Ga (by omega)⟩
  obtain⟨id,off,cap,e,r2⟩:=IsInts.at ic hz0
  subst e
  have r2:=fun h' (y:Ext h h')=>Qw (x.trans y) r2
  have hzm:=hzc z (Gg hz0)
  have hc:cM=1125899906842624:=rfl
  have ez:zs.getD j 0=z:=by rw[Ge,hz0];rfl
  have k99:=fun H=>Qdj H p g z hp.2 (by omega)
  have nx:ofM p z=xs.getD j 0->∀ i,i<j+1->ofM p (zs.getD i 0)=xs.getD i 0:=fun h i hi=>by
   by_cases e:i=j
   ·subst e;rw[ez];exact h
   ·exact hall i (by omega)
  have hO:ofM p z<p:=QcZ (by omega)
  have e0:=Ext.refl h
  by_cases hOX:ofM p z=xs.getD j 0
  ·generalize ofM p z=O at *
   generalize hX:xs.getD j 0=X at *
   repeat' first|apply Qf|apply Qb|apply Qt|apply QL|apply Qn|apply Qe|apply Q7|apply Xm|apply Xn|(apply Qg;first|refine Qk rfl ?_|refine Qi rfl ?_)|(apply Qd;first|apply Q5|apply Xw|refine XA rfl rfl rfl rfl rfl rfl rfl rfl rfl rfl ?_|refine Yr rfl rfl rfl rfl rfl rfl rfl rfl rfl rfl rfl ?_|refine X0 rfl rfl rfl rfl rfl rfl rfl rfl rfl rfl rfl rfl ?_)|(apply Qc;first|refine QU rfl c9h ?_|refine Qy (esz:=1) rfl rfl (by omega) ?_|refine Q1 rfl r1 ?_|refine Q1 rfl (r2 _ e0) ?_|(refine Qj rfl (k99 _) ?_;rintro v1 h1 ⟨x1,rfl⟩)|refine Ql rfl ?_|refine QM rfl rfl (by omega) ?_|refine Qx rfl rfl (by omega) ?_|refine XJ rfl rfl (by omega) ?_)
   exact Qz (j:=M-(j+1)) (by omega) ⟨j+1,by omega,rfl,x.trans x1,nx hOX,rfl⟩
  ·have h1':ofM p (zs.getD j 0)≠xs.getD j 0:=by rw[ez];exact hOX
   generalize ofM p z=O at *
   generalize hX:xs.getD j 0=X at *
   repeat' first|apply Qf|apply Qb|apply QC|apply Qt|apply Xi|apply Qn|apply Qs|apply Qe|apply Q7|apply Xm|apply Xn|(apply Qg;refine Qk rfl ?_)|(apply Qd;first|apply Q5|apply Xw|refine QA rfl rfl ?_|refine Yr rfl rfl rfl rfl rfl rfl rfl rfl rfl rfl rfl ?_|refine X0 rfl rfl rfl rfl rfl rfl rfl rfl rfl rfl rfl rfl ?_)|(apply Qc;first|refine QU rfl c9h ?_|refine Qy (esz:=1) rfl rfl (by omega) ?_|refine Q1 rfl r1 ?_|refine Q1 rfl (r2 _ e0) ?_|(refine Qj rfl (k99 _) ?_;rintro v1 h1 ⟨x1,rfl⟩)|refine Ql rfl ?_|refine Qx rfl rfl (by omega) ?_|refine Ya rfl rfl (by omega) ?_)
   exact Xt ⟨x.trans x1,.inr ⟨rfl,⟨j,hlt,by rw[hX];exact h1'⟩,rfl⟩⟩
 ·have:j=M:=by omega
  subst this
  repeat' first|apply Qf|apply Qb|apply QS|apply QQ|apply Qe|(apply Qg;refine Qi rfl ?_)|(apply Qd;refine Yr rfl rfl rfl rfl rfl rfl rfl rfl rfl rfl rfl ?_)|(apply Qc;refine QF rfl rfl (by omega) ?_)
  exact QB ⟨x,.inl ⟨rfl,hall,_,_,_,_,_,rfl⟩⟩
structure FieldOk(p g:Nat):Prop where
 f:FOK p (XZ p)
 r:Rt p 17 g
 lt:g<p
 lo:1152921504606846976<p
 hi:p<2305843009213693952
theorem Qey{c:Nat}{x:Nat×Nat}(h:x∈Yy c):FieldOk x.1 x.2:=by
 have k:x=(p1,r1)∨x=(p2,r2):=by
  unfold Yy at h
  split at h
  ·simp at h;exact .inl h
  ·simpa using h
 rcases k with rfl|rfl
 ·exact⟨fok1,rt1,by decide,by decide,by decide⟩
 ·exact⟨fok2,rt2,by decide,by decide,by decide⟩
theorem Qhm{p a:Nat}(h:a<p):Cg p (lfM p a) (a:Nat):=by
 unfold lfM
 split
 ·exact⟨-1,by omega⟩
 ·exact Cg.rfl
theorem QnM{p a:Nat}(h:a<p):2*(lfM p a).natAbs<=p:=by unfold lfM;split <;> omega
theorem QnL{p a:Nat}{d:Int}(h:a<p)(hc:Cg p (a:Int) d)(hd:2*d.natAbs<p):lfM p a=d:=by
 have:=QnM h
 exact((Qhm h).trans hc).eq (by omega)
theorem QnG{p a:Nat}{z:Int}(ha:a<p)(hz:z.natAbs<p)(hc:Cg p z (a:Int)):ofM p z=a:=((Qc0 hz).trans hc).eqN (QcZ hz) ha
def St77(c M i:Nat)(d:Nat->Int)(cs:SV)(h:Qa):Prop:=(i=0/\cs = .nilS)∨(0<i/\∃ cid zs,cs = .slc cid 0 M (some M)/\Bi h cid zs/\zs.length=M/\(∀ z∈zs,z.natAbs<=cM)/\∀(m:Nat) (x:Nat×Nat),m<i->(Yy c)[m]?=some x->∀ j,j<M->Cg x.1 (zs.getD j 0) (d j))
def I77(c M:Nat)(d:Nat->Int)(esl fs:SV)(hb:Qa)(m:Nat)(E:Env)(h:Qa):Prop:=∃ i cs,i<=(Yy c).length/\m=(Yy c).length-i/\Ext hb h/\St77 c M i d cs h ∧
 E.keep [0,1,7,22,23,24]=[(0,some (.sc esl)),(1,some (.sc (.int .i64 ((M-1:Nat):Int)))),(7,some (.sc cs)),(22,some (.sc fs)),(23,some (.sc (.int .i64 ((Yy c).length:Nat)))),(24,some (.sc (.int .i64 (i:Nat))))]
def R77(c M:Nat)(d:Nat->Int)(hb:Qa)(ex:Ex)(E:Env)(h:Qa):Prop:=Ext hb h ∧
 ((ex = .ex 0 ∧ ∃ cs, St77 c M (Yy c).length d cs h ∧ ∃ a b e f g, E = [(0, a), (1, b), (7, some (.sc cs)), (22, e), (23, f), (24, g), (25, some (.sc (.bool false)))]) ∨
  (ex = .rt/\(∃ j,j<M/\cM<(d j).natAbs)/\E=[(4,some (.sc .nilS)),(5,some (.sc (.bool false)))]))
theorem Qj5(c M n:Nat)(d:Nat->Int)(esl fs:SV)(es:List (List (List Tm)))(hb:Qa)(hM:1<=M/\M<=65537)(hn:n<1000000)(ee:Ents hb esl es)(he:es.length=n)(tok:∀ r∈es,r.length=n/\∀ l∈r,l.length<=1000000/\∀ m∈l,0<=m.1/\m.1<=100000/\m.2.natAbs<=cM)
  (hD:∀ x:Int,D (es.map (evR x)) (List.range' 0 n)=sm M fun j=>d j*x^j) (ff:IsD hb fs (fP (Yy c))) (m:Nat) (E:Env) (h:Qa) (hI:I77 c M d esl fs hb m E h) :
  wA FT HKt Ql4 (E.keep [0,1,7,22,23,24]) h (Qp (I77 c M d esl fs hb) m (R77 c M d hb)):=by
 obtain⟨i,cs,hi,rfl,x,st,hE⟩:=hI
 rw[hE]
 by_cases hlt:i<(Yy c).length
 ·obtain⟨y,hy⟩:∃ y,(Yy c)[i]?=some y:=⟨_,Ga hlt⟩
  have fo:=Qey (Gg hy)
  obtain⟨p,g⟩:=y
  obtain⟨id,off,cap,e1,rA⟩:=ff.at (i:=i) (p:=(SV.int .u64 ((p:Nat):Int),SV.int .u64 ((g:Nat):Int))) (by rw[Gh,hy];rfl)
  rw[Gj]at e1
  subst e1
  have rA0:=Qw x rA
  have lo:=fo.lo
  have hip:=fo.hi
  have tok1:∀ r∈es,r.length=n/\∀ l∈r,l.length<=1000000/\∀ m∈l,VJ p m:=fun r hr=>⟨(tok r hr).1,fun l hl=>⟨((tok r hr).2 l hl).1,fun m hm=>by
   obtain⟨a,b,c⟩:=((tok r hr).2 l hl).2 m hm
   simp only[cM]at c
   exact⟨a,b,by show m.2.natAbs<p;simp only at lo;omega⟩⟩⟩
  have k108:=fun H (e:Ext hb H)=>Qld p g n (M-1) H esl es ⟨by simp only at lo;omega,by simp only at hip;omega⟩ fo.lt fo.r (by omega) hn (ee.ext e) he tok1
  have res:=fun k w (hk:k<=17) (hdk:M-1<2^k) (hw:w<p) (hr:Rt1 p k w)=>resid (d:=d) (deg:=M-1) fo.f (by simp only at lo;omega) hk hw hr hdk he (fun r hr=>⟨(tok1 r hr).1,fun l hl=>((tok1 r hr).2 l hl).2⟩) (fun x=>by rw[hD x,show M-1+1=M by omega])
  simp only at lo hip
  simp only[show M-1+1=M by omega]at k108
  have hf2:(Yy c).length<=2:=by unfold Yy;split <;> simp
  have e0:=Ext.refl h
  repeat' first|apply Qf|apply Qb|apply Qt|apply Qn|apply Qe|(apply Qg;refine Qk rfl ?_)|(apply Qd;first|refine Q4 rfl rfl rfl rfl rfl rfl rfl ?_|refine Xh rfl rfl rfl rfl rfl rfl rfl rfl ?_)|(apply Qc;first|(have z:=c9;refine QU rfl c9 ?_)|(refine qI rfl ?_;intro h1 e1 c9;have x1:=x.trans e1)|refine Qy (esz:=2) rfl rfl (by omega) ?_|refine XH rfl rA0 ?_|(refine Qj rfl (k108 _ x1) ?_;rintro v h2 ⟨e2,k,w,xid,hk,hdk,hw,hr,rfl,bx⟩;have rs:=res k w hk hdk hw hr)|refine Ql rfl ?_|refine Qx rfl rfl (by omega) ?_)
  have lenX:M<=((trM p k ((List.range (2^k)).map (JW p (2^k) n ((List.range (2^k)).map (pwM p w)) es)) (XZ p w)).map fun x=>x*XZ p (2^k)%p).length:=by
   rw[Gj,ZY p k _ _ (by simp)];omega
  simp only at rs
  generalize ((trM p k ((List.range (2^k)).map (JW p (2^k) n ((List.range (2^k)).map (pwM p w)) es)) (XZ p w)).map fun x=>x*XZ p (2^k)%p)=xs at *
  generalize 2^k=N at *
  have hxp:∀ i,i<M->xs.getD i 0<p:=fun i hi=>(rs i (by omega)).1
  have hxc:∀ i,i<M->Cg p ((xs.getD i 0:Nat):Int) (d i):=fun i hi=>(rs i (by omega)).2
  clear rs res k108
  have c92:=c9.ext e2
  have x2:=x1.trans e2
  have hcM:cM=1125899906842624:=rfl
  have bad:∀ zs:List Int,(∀ z∈zs,z.natAbs<=cM)->zs.length=M->(∃(q:Nat),2*cM<q/\∀ j,j<M->Cg q (zs.getD j 0) (d j))->(∃ j,j<M/\ofM p (zs.getD j 0)≠xs.getD j 0)->∃ j,j<M/\cM<(d j).natAbs:=fun zs hz hzl ⟨q,hq,hc⟩ ⟨j,hj,hne⟩=>by
   refine⟨j,hj,Nat.lt_of_not_le fun hle=>hne ?_⟩
   have hzj:(zs.getD j 0).natAbs<=cM:=by rw[Ge,Ga (by omega)];exact hz _ (GI _)
   have e:zs.getD j 0=d j:=(hc j hj).eq (by omega)
   exact QnG (hxp j hj) (by omega) (by rw[e];exact(hxc j hj).symm)
  have good:∀ zs:List Int,(∀ z∈zs,z.natAbs<=cM)->zs.length=M->(∀ j,j<M->ofM p (zs.getD j 0)=xs.getD j 0)->∀ j,j<M->Cg p (zs.getD j 0) (d j):=fun zs hz hzl h j hj=>by
   have hzj:(zs.getD j 0).natAbs<=cM:=by rw[Ge,Ga (by omega)];exact hz _ (GI _)
   have k:=Qc0 (p:=p) (x:=zs.getD j 0) (by omega)
   rw[h j hj]at k
   exact k.symm.trans (hxc j hj)
  rcases st with ⟨rfl,rfl⟩|⟨h0i,cid,zs,rfl,bz,hzl,hzc,hzg⟩
  ·repeat' first|apply Qf|apply Qb|apply Qt|apply Qe|(apply Qg;refine Qk rfl ?_)|(apply Qd;first|refine Xh rfl rfl rfl rfl rfl rfl rfl rfl ?_|refine Q9 rfl rfl rfl rfl rfl rfl rfl rfl rfl ?_|refine Yr rfl rfl rfl rfl rfl rfl rfl rfl rfl rfl rfl ?_)|(apply Qc;first|refine Qr rfl rfl ?_|(refine QlS rfl rfl (by omega) ?_;intro h3 e3 b3)|refine Ql rfl ?_|refine Xk rfl rfl ?_)
   refine QV (I77a p g h.length h2.length xid M N xs (.sc esl) (.sc (.int .i64 ((M-1:Nat):Int))) (.sc (.slc id off (Yy c).length cap)) (.sc (.int .i64 ((Yy c).length:Nat))) (.sc (.int .i64 ((0:Nat):Int))) h2) M (R77a p g h.length h2.length xid M N xs (.sc esl) (.sc (.int .i64 ((M-1:Nat):Int))) (.sc (.slc id off (Yy c).length cap)) (.sc (.int .i64 ((Yy c).length:Nat))) (.sc (.int .i64 ((0:Nat):Int))) h2)
    ⟨0,Gm _,rfl,e3,by rw[Qai];exact b3,fun i hi=>by omega,rfl⟩ (Qgt p g h.length h2.length xid M N xs _ _ _ _ _ h2 ⟨by omega,by omega⟩ lenX (by omega) hxp c92 bx (Gd _)) ?_
   rintro ex E' h4 ⟨x4,⟨rfl,b4,hall,_,_,_,_,rfl⟩|⟨rfl,⟨j,hj,hne⟩,rfl⟩⟩
   ·have hzl:((List.range M).map fun i=>lfM p (xs.getD i 0)).length=M:=by simp
    have hzc:∀ z∈(List.range M).map fun i=>lfM p (xs.getD i 0),z.natAbs<=cM:=fun z hz=>by
     obtain⟨i,hi,rfl⟩:=Gs.1 hz
     exact hall i (Ho.1 hi)
    have hcg:∀ j,j<M->Cg p (((List.range M).map fun i=>lfM p (xs.getD i 0)).getD j 0) (d j):=fun j hj=>by
     rw[Ge,Gh,Gv hj]
     exact(Qhm (hxp j hj)).trans (hxc j hj)
    generalize (List.range M).map (fun i=>lfM p (xs.getD i 0))=zs at *
    have ic:IsInts h4 (.slc h2.length 0 M (some M)) zs:=by have:=b4.ints (c:=some M);rwa [hzl]at this
    repeat' first|apply Qf|apply Qb|apply Qt|apply QK|apply Qe|(apply Qd;refine XA rfl rfl rfl rfl rfl rfl rfl rfl rfl rfl ?_)|(apply Qc;first|refine Qr rfl rfl ?_|refine Ql rfl ?_)
    refine QV (Qlu p g h.length M N xid xs zs (.slc h2.length 0 M (some M)) (.sc esl) (.sc (.int .i64 ((M-1:Nat):Int))) (.sc (.slc id off (Yy c).length cap)) (.sc (.int .i64 ((Yy c).length:Nat))) (.sc (.int .i64 ((0:Nat):Int))) h4) M (R77b p g h.length M N xs zs (.slc h2.length 0 M (some M)) (.sc esl) (.sc (.int .i64 ((M-1:Nat):Int))) (.sc (.slc id off (Yy c).length cap)) (.sc (.int .i64 ((Yy c).length:Nat))) (.sc (.int .i64 ((0:Nat):Int))) h4)
     ⟨0,Gm _,rfl,Ext.refl _,fun i hi=>by omega,rfl⟩ (QbK p g h.length M N xid xs zs _ _ _ _ _ _ h4 ⟨by omega,by omega⟩ lenX (by omega) hxp hzl hzc (c92.ext x4) (bx.ext x4) ic) ?_
    rintro ex E' h5 ⟨x5,⟨rfl,heq,_,_,_,_,_,rfl⟩|⟨rfl,hex,rfl⟩⟩
    ·repeat' first|apply Qb|apply QL|apply QK|apply Qe|(apply Qd;refine QE rfl rfl rfl rfl rfl rfl ?_)|(apply Qc;first|refine Ql rfl ?_|refine QM rfl rfl (by omega) ?_)
     refine Qz (j:=(Yy c).length-1) (by omega) ⟨1,_,by omega,rfl,(x2.trans x4).trans x5,.inr ⟨by omega,h2.length,zs,rfl,b4.ext x5,hzl,hzc,fun m y hm hy' j hj=>?_⟩,rfl⟩
     have:m=0:=by omega
     subst this
     rw[hy]at hy';cases hy'
     exact hcg j hj
    ·repeat' first|apply QC|apply Xi
     exact Xt ⟨(x2.trans x4).trans x5,.inr ⟨rfl,bad zs hzc hzl ⟨p,by omega,hcg⟩ hex,rfl⟩⟩
   ·repeat' first|apply QC|apply Xi
    refine Xt ⟨x2.trans x4,.inr ⟨rfl,⟨j,hj,Nat.lt_of_not_le fun hle=>hne ?_⟩,rfl⟩⟩
    rw[QnL (hxp j hj) (hxc j hj) (by omega)];exact hle
  ·have bz2:=bz.ext (e1.trans e2)
   have ic:IsInts h2 (.slc cid 0 M (some M)) zs:=by have:=bz2.ints (c:=some M);rwa [hzl]at this
   repeat' first|apply Qf|apply Qb|apply Qt|apply Qn|apply Qe|(apply Qg;refine Qi rfl ?_)|(apply Qd;first|refine Q9 rfl rfl rfl rfl rfl rfl rfl rfl rfl ?_|refine XA rfl rfl rfl rfl rfl rfl rfl rfl rfl rfl ?_)|(apply Qc;first|refine Qr rfl rfl ?_|refine Ql rfl ?_|refine Xk rfl rfl ?_)
   refine QV (Qlu p g h.length M N xid xs zs (.slc cid 0 M (some M)) (.sc esl) (.sc (.int .i64 ((M-1:Nat):Int))) (.sc (.slc id off (Yy c).length cap)) (.sc (.int .i64 ((Yy c).length:Nat))) (.sc (.int .i64 (i:Nat))) h2) M (R77b p g h.length M N xs zs (.slc cid 0 M (some M)) (.sc esl) (.sc (.int .i64 ((M-1:Nat):Int))) (.sc (.slc id off (Yy c).length cap)) (.sc (.int .i64 ((Yy c).length:Nat))) (.sc (.int .i64 (i:Nat))) h2)
    ⟨0,Gm _,rfl,Ext.refl _,fun i hi=>by omega,rfl⟩ (QbK p g h.length M N xid xs zs _ _ _ _ _ _ h2 ⟨by omega,by omega⟩ lenX (by omega) hxp hzl hzc c92 bx ic) ?_
   rintro ex E' h5 ⟨x5,⟨rfl,heq,_,_,_,_,_,rfl⟩|⟨rfl,hex,rfl⟩⟩
   ·repeat' first|apply Qb|apply QL|apply QK|apply Qe|(apply Qd;refine QE rfl rfl rfl rfl rfl rfl ?_)|(apply Qc;first|refine Ql rfl ?_|refine QM rfl rfl (by omega) ?_)
    refine Qz (j:=(Yy c).length-(i+1)) (by omega) ⟨i+1,_,by omega,rfl,x2.trans x5,.inr ⟨by omega,cid,zs,rfl,bz2.ext x5,hzl,hzc,fun m y hm hy' j hj=>?_⟩,rfl⟩
    by_cases e:m=i
    ·subst e
     rw[hy]at hy';cases hy'
     exact good zs hzc hzl heq j hj
    ·exact hzg m y (by omega) hy' j hj
   ·repeat' first|apply QC|apply Xi
    obtain⟨y0,hy0⟩:∃ y,(Yy c)[0]?=some y:=⟨_,Ga (by omega)⟩
    have f0:=Qey (Gg hy0)
    have:=f0.lo
    exact Xt ⟨x2.trans x5,.inr ⟨rfl,bad zs hzc hzl ⟨y0.1,by omega,hzg 0 y0 h0i hy0⟩ hex,rfl⟩⟩
 ·have:i=(Yy c).length:=by omega
  subst this
  repeat' first|apply Qf|apply Qb|apply QS|apply QQ|apply Qe|(apply Qg;refine Qi rfl ?_)|(apply Qd;refine Q4 rfl rfl rfl rfl rfl rfl rfl ?_)|(apply Qc;refine QF rfl rfl (by omega) ?_)
  exact QB ⟨x,.inl ⟨rfl,cs,st,_,_,_,_,_,rfl⟩⟩
theorem cop12:Nat.Coprime p1 p2:=by decide +kernel
theorem Qm6{a b:Int}(h1:Cg p1 a b)(h2:Cg p2 a b):Cg (p1*p2) a b:=by
 unfold Cg at *
 have k1:p1 ∣ (a-b).natAbs:=by have:=Int.natAbs_dvd_natAbs.2 h1;simpa using this
 have k2:p2 ∣ (a-b).natAbs:=by have:=Int.natAbs_dvd_natAbs.2 h2;simpa using this
 have k3:p1*p2 ∣ (a-b).natAbs:=Nat.Coprime.mul_dvd_of_dvd_of_dvd cop12 k1 k2
 exact Int.natAbs_dvd_natAbs.1 (by rw[Int.natAbs_natCast];exact k3)
def cnt(T:Nat):Nat:=(max T 50+1)/60+1
theorem Qia{T:Nat}(h:T<=118):1<=cnt T/\cnt T<=2:=by unfold cnt;omega
theorem uniq{T:Nat}(hT:T<=118){z d:Int}(hz:z.natAbs<=cM)(hd:d.natAbs<=2^T)(h:∀ x∈Yy (cnt T),Cg x.1 z d):z=d:=by
 have hc:=Qia hT
 have hcM:cM=1125899906842624:=rfl
 by_cases h1:cnt T=1
 ·have hT58:T<=58:=by unfold cnt at h1;omega
  have hp:(2:Nat)^T<=2^58:=GN (by decide) hT58
  have e58:(2:Nat)^58=288230376151711744:=by decide
  have e1:p1=2305843009211596801:=rfl
  have:=h (p1,r1) (by unfold Yy;rw[if_pos h1];simp)
  exact Cg.eq this (by simp only;omega)
 ·have hp:(2:Nat)^T<=2^118:=GN (by decide) hT
  have e118:(2:Nat)^118=332306998946228968225951765070086144:=by decide
  have e12:p1*p2=5316911983126365312211161035202625537:=by decide
  have k1:=h (p1,r1) (by unfold Yy;rw[if_neg h1];simp)
  have k2:=h (p2,r2) (by unfold Yy;rw[if_neg h1];simp)
  exact Cg.eq (Qm6 k1 k2) (by rw[e12];omega)
theorem Qou(n deg b:Nat)(d:Nat->Int)(h0:Qa)(esl:SV)(es:List (List (List Tm)))(hdeg:deg<=65536)(hn:n<=1000)(hb:b<=60/\b*n<=118)(ee:Ents h0 esl es)(he:es.length=n)
  (tok:∀ r∈es,r.length=n/\∀ l∈r,l.length<=1000000/\∀ m∈l,0<=m.1/\m.1<=100000/\m.2.natAbs<=cM) (hw:∀ r∈es,0<XQ r/\XQ r<2^b)
  (hD:∀ x:Int,D (es.map (evR x)) (List.range' 0 n)=sm (deg+1) fun j=>d j*x^j) (hdb:∀ j,(d j).natAbs<=(es.map XQ).foldr (·*·) 1) :
  ∃ r h',Cal FT HKt 77 [.sc esl,.sc (.int .i64 (deg:Nat))] h0 r h'/\Ext h0 h' ∧
   ((∃ s,r = .tup [.sc s,.sc (.bool true)]/\IsInts h' s ((List.range (deg+1)).map d)/\∀ j,j<=deg->(d j).natAbs<=cM)∨(r = .tup [.sc .nilS,.sc (.bool false)]/\∃ j,j<=deg/\cM<(d j).natAbs)):=by
 refine Cal.of (F:=a77) rfl rfl rfl ?_
 have k107:=fun H (e:Ext h0 H)=>Qle b es esl H hb.1 (by omega) (fun r hr=>⟨by have:=(tok r hr).1;omega,fun l hl=>((tok r hr).2 l hl).1,hw r hr⟩) (ee.ext e)
 repeat' first|apply Qf|apply Qb|apply Qt|apply Qe|(apply Qd;first|refine QA rfl rfl ?_|refine Qu rfl rfl rfl ?_|refine QG rfl rfl rfl rfl ?_|refine QE rfl rfl rfl rfl rfl rfl ?_)|(apply Qc;first|(refine Qj rfl (k107 _ (Ext.refl _)) ?_;rintro v h1 ⟨e1,T,rfl,wt⟩;have hT:T<=118:=Gq wt.2 (by rw[he];exact hb.2);have hc:=Qia hT;have ec:(max (T:Int) 50+1)/60+1=((cnt T:Nat):Int):=(by unfold cnt;omega))|(refine Qj rfl (Qom _ (cnt T) hc) ?_;rintro v h2 ⟨e2,fs,rfl,ofs⟩;have lf:=OwnD.len' ofs)|(refine z8 rfl rfl (by omega) ?_)|(refine QM rfl rfl (by omega) ?_;rw[ec])|refine Qr rfl lf ?_|refine Ql rfl ?_|refine QM rfl rfl (by omega) ?_|refine Qae rfl rfl ?_)
 refine QV (I77 (cnt T) (deg+1) d esl fs h2) (Yy (cnt T)).length (R77 (cnt T) (deg+1) d h2) ⟨0,.nilS,Gm _,rfl,Ext.refl _,.inl ⟨rfl,rfl⟩,rfl⟩
  (Qj5 (cnt T) (deg+1) n d esl fs es h2 (by omega) (by omega) (ee.ext (e1.trans e2)) he tok hD ofs.is) ?_
 rintro ex E' h3 ⟨x3,⟨rfl,cs,st,_,_,_,_,_,rfl⟩|⟨rfl,⟨j,hj,hlt⟩,rfl⟩⟩
 ·rcases st with ⟨h0',-⟩|⟨-,cid,zs,rfl,bz,hzl,hzc,hzg⟩
  ·exfalso
   have:(Yy (cnt T)).length≠0:=by unfold Yy;split <;> simp
   exact this h0'
  have key:∀ j,j<deg+1->zs.getD j 0=d j:=fun j hj=>by
   refine uniq hT ?_ (Gq (hdb j) wt.1) fun x hx=>?_
   ·rw[Ge,Ga (by omega)];exact hzc _ (GI _)
   ·obtain⟨m,hm⟩:=Hs.1 hx
    exact hzg m x (Gb.1 hm).1 hm j hj
  have ezs:zs=(List.range (deg+1)).map d:=by
   apply Gt
   intro j
   rw[Gh]
   rcases GD j (deg+1) with h|h
   ·rw[Gv h,Gp,← key j h,Ge,Ga (by omega)];rfl
   ·rw[Gr (by omega),Gr (by simpa using h)];rfl
  have ic:IsInts h3 (.slc cid 0 (deg+1) (some (deg+1))) zs:=by have:=bz.ints (c:=some (deg+1));rwa [hzl]at this
  repeat' first|apply Qf|apply Qb|apply QK|apply Qs|apply Qe|(apply Qd;refine QA rfl rfl ?_)|(apply Qc;refine Ql rfl ?_)
  refine⟨.inr rfl,(e1.trans e2).trans x3,.inl ⟨_,rfl,by rw[← ezs];exact ic,fun j hj=>?_⟩⟩
  rw[← key j (by omega),Ge,Ga (by omega)]
  exact hzc _ (GI _)
 ·repeat' first|apply QC|apply Xi
  exact⟨.inr rfl,(e1.trans e2).trans x3,.inr ⟨rfl,j,by omega,hlt⟩⟩
def ZB(ts:List Tm)(e:Int):List Tm:=ts.filter fun t=>decide (t.1<e)
theorem QfX{ts:List Tm}{e:Int}(h:∀ t∈ts,t.1<e):ZB ts e=ts:=List.filter_eq_self.2 fun t ht=>by simpa using h t ht
theorem Qdq{ts:List Tm}{e:Int}(h:∀ t∈ts,e<=t.1):ZB ts e=[]:=List.filter_eq_nil_iff.2 fun t ht=>by simpa using h t ht
theorem Qdp{ts:List Tm}{e:Int}(h:∀ t∈ts,t.1≠e):ZB ts (e+1)=ZB ts e:=List.filter_congr fun t ht=>by
 have:=h t ht
 simp only[decide_eq_decide];omega
theorem VD:∀ {ts:List Tm} {t:Tm},ts.Pairwise (fun x y=>x.1<y.1)->t∈ts->ZB ts (t.1+1)=ZB ts t.1++[t]
 | u::r,t,h,ht=>by
  obtain⟨h1,h2⟩:=List.pairwise_cons.1 h
  rcases GO.1 ht with rfl|ht
  ·unfold ZB
   rw[List.filter_cons_of_pos (by simp;omega),List.filter_cons_of_neg (by simp)]
   have e1:r.filter (fun t_1=>decide (t_1.1<t.1+1))=[]:=List.filter_eq_nil_iff.2 fun y hy=>by have:=h1 y hy;simp;omega
   have e2:r.filter (fun t_1=>decide (t_1.1<t.1))=[]:=List.filter_eq_nil_iff.2 fun y hy=>by have:=h1 y hy;simp;omega
   rw[e1,e2];rfl
  ·have:=h1 t ht
   have ih:=VD h2 ht
   unfold ZB at ih ⊢
   rw[List.filter_cons_of_pos (by simp;omega),List.filter_cons_of_pos (by simp;omega),ih];rfl
def shL(low:Int)(l:List Tm):List Tm:=l.map fun t=>(t.1-low,t.2)
def I65(q2:Nat)(low:Int)(ts:List Tm)(hb:Qa)(m:Nat)(E:Env)(h:Qa):Prop:=∃(e:Int) (s:SV),lo0 ts<=e/\e<=hi0 ts+1/\m=(hi0 ts+1-e).toNat/\Ext hb h/\OwnD hb h s (tms (shL low (ZB ts e))) ∧
 E.keep [1,2,5,6]=[(1,some (.sc (.int .i64 low))),(2,some (.sc (.ptr q2 0))),(5,some (.sc s)),(6,some (.sc (.int .i64 e)))]
def R65(low:Int)(ts:List Tm)(hb:Qa)(ex:Ex)(E:Env)(h:Qa):Prop:=ex = .ex 0/\Ext hb h/\∃ s,OwnD hb h s (tms (shL low ts))/\∃ a b c d,E=[(1,a),(2,b),(5,some (.sc s)),(6,c),(13,d)]
theorem QfW{ts:List Tm}{e:Int}:(ZB ts e).length<=ts.length:=List.length_filter_le _ _
theorem Qj7(q2:Nat)(low:Int)(b:Bool)(sp:SV)(ts:List Tm)(hb:Qa)(hlow:low.natAbs<=10000000)(c2:Cel hb q2 (.bool b) sp)(dp:IsD hb sp (tms ts))(ca:Can ts)(hl:ts.length<=100000)(he:∀ t∈ts,t.1.natAbs<=10000000)(hlh:lo0 ts<=hi0 ts+1/\(lo0 ts).natAbs<=10000000/\(hi0 ts).natAbs<=10000000)(m:Nat)(E:Env)(h:Qa)(hI:I65 q2 low ts hb m E h) :
  wA FT HKt Ql6 (E.keep [1,2,5,6]) h (Qp (I65 q2 low ts hb) m (R65 low ts hb)):=by
 obtain⟨e,s,he1,he2,rfl,x,o,hE⟩:=hI
 rw[hE]
 have k54:=fun H (y:Ext hb H)=>zG H b sp ts (dp.ext y) (by omega)
 have k62:=fun H (y:Ext hb H)=>Qow H b sp ts e (dp.ext y) ca (by omega)
 have c2h:=fun H (y:Ext hb H)=>c2.ext y
 by_cases hlt:e<=hi0 ts
 ·by_cases hz:cf ts e=0
  ·have sk:ZB ts (e+1)=ZB ts e:=Qdp fun t ht heq=>by
    have:=Jf ca ht
    rw[heq,hz]at this
    exact ca.nz t ht this.symm
   rw[hz]at k62
   have x0:=x
   repeat' first|apply Qf|apply Qb|apply Qt|apply QL|apply Qn|apply Qe|(apply Qg;first|refine Qk rfl ?_|refine Qi rfl ?_)|(apply Qd;first|refine QG rfl rfl rfl rfl ?_|refine QO rfl rfl rfl rfl rfl ?_|refine QE rfl rfl rfl rfl rfl rfl ?_)|(apply Qc;first|refine QU rfl (c2h _ x0) ?_|(refine Qj rfl (k54 _ x0) ?_;rintro v h1 ⟨e1,rfl⟩;replace x0:=x0.trans e1;replace o:=o.ext e1)|(refine Qj rfl (k62 _ x0) ?_;rintro v h2 ⟨e2,rfl⟩;replace x0:=x0.trans e2;replace o:=o.ext e2)|refine Ql rfl ?_|refine QM rfl rfl (by omega) ?_|refine J3 rfl rfl (by omega) ?_|refine XJ rfl rfl (by omega) ?_)
   exact Qz (j:=(hi0 ts+1-(e+1)).toNat) (by omega) ⟨e+1,s,by omega,by omega,rfl,x0,by rw[sk];exact o,rfl⟩
  ·obtain⟨t,ht,hte⟩:=Qic hz
   have hcf:=Jf ca ht
   rw[hte]at hcf
   have st:=VD ca.asc ht
   rw[hte]at st
   have nx:tms (shL low (ZB ts e))++[(SV.int .i64 (e-low),SV.int .i64 (cf ts e))]=tms (shL low (ZB ts (e+1))):=by
    rw[st,hcf]
    simp[shL,tmP,hte]
   have lb:=QfW (ts:=ts) (e:=e)
   have ll:(tms (shL low (ZB ts e))).length<=100000:=by rw[Q6];unfold shL;rw[Gj];omega
   generalize cf ts e=v0 at *
   have x0:=x
   repeat' first|apply Qf|apply Qb|apply Qt|apply QL|apply Qn|apply Qe|(apply Qg;refine Qk rfl ?_)|(apply Qd;first|refine QG rfl rfl rfl rfl ?_|refine QO rfl rfl rfl rfl rfl ?_|refine QE rfl rfl rfl rfl rfl rfl ?_)|(apply Qc;first|refine QU rfl (c2h _ x0) ?_|(refine Qj rfl (k54 _ x0) ?_;rintro v h1 ⟨e1,rfl⟩;replace x0:=x0.trans e1;replace o:=o.ext e1)|(refine Qj rfl (k62 _ x0) ?_;rintro v h2 ⟨e2,rfl⟩;replace x0:=x0.trans e2;replace o:=o.ext e2)|refine Ya rfl rfl (by omega) ?_|refine Xz rfl rfl ?_|(refine qU rfl ?_;intro h4 x4 s4)|(refine JG (x0.trans x4) (o.ext x4) rfl rfl s4 (by unfold XS;omega) ?_;intro s5 h5 o5 x5 fr5 l5)|refine Ql rfl ?_|refine QM rfl rfl (by omega) ?_|refine Jj rfl rfl (by omega) ?_|refine J3 rfl rfl (by omega) ?_)
   exact Qz (j:=(hi0 ts+1-(e+1)).toNat) (by omega) ⟨e+1,s5,by omega,by omega,rfl,x5,by rw[← nx];exact o5,rfl⟩
 ·have:e=hi0 ts+1:=by omega
  subst this
  have x0:=x
  repeat' first|apply Qf|apply Qb|apply QS|apply QQ|apply Qe|(apply Qg;refine Qi rfl ?_)|(apply Qd;refine QO rfl rfl rfl rfl rfl ?_)|(apply Qc;first|refine QU rfl (c2h _ x0) ?_|(refine Qj rfl (k54 _ x0) ?_;rintro v h1 ⟨e1,rfl⟩;replace x0:=x0.trans e1;replace o:=o.ext e1)|refine Ql rfl ?_|refine JF rfl rfl (by omega) ?_)
  rw[QfX fun t ht=>by have:=zq ca t ht;omega]at o
  exact QB ⟨rfl,x0,s,o,_,_,_,_,rfl⟩
theorem OwnD.older{h0 hb h:Qa}{s:SV}{ps:List P2}(o:OwnD hb h s ps)(x:Ext h0 hb):OwnD h0 h s ps:=by
 rcases o with o|⟨id,cap,bl,h1,h2,h3⟩
 ·exact .inl o
 ·exact .inr ⟨id,cap,bl,h1,Gq x.len h2,h3⟩
theorem lo_hi{ts:List Tm}(ca:Can ts):lo0 ts<=hi0 ts:=by
 by_cases h:ts=[]
 ·subst h;exact Int.le_refl _
 ·obtain⟨t,ht,e⟩:=yH h
  rw[← e];exact zq ca t ht
theorem Qov(h0:Qa)(b:Bool)(sp:SV)(ts:List Tm)(low:Int)(hlow:low.natAbs<=10000000)(dp:IsD h0 sp (tms ts))(ca:Can ts)(hl:ts.length<=100000)(he:∀ t∈ts,t.1.natAbs<=10000000) :
  ∃ r h',Cal FT HKt 65 [.agg [.bool b,sp],.sc (.int .i64 low)] h0 r h'/\Ext h0 h'/\∃ s,r = .sc s/\OwnD h0 h' s (tms (shL low ts)):=by
 refine Cal.of (F:=a65) rfl rfl rfl ?_
 have k53:=fun H (y:Ext h0 H)=>zH H b sp ts (dp.ext y)
 have hlh:lo0 ts<=hi0 ts+1/\(lo0 ts).natAbs<=10000000/\(hi0 ts).natAbs<=10000000:=by
  have:=lo_hi ca
  by_cases h:ts=[]
  ·subst h;simp[lo0,hi0]
  ·obtain⟨t,ht,e⟩:=yH h
   obtain⟨u,hu,e2⟩:=yM h
   have:=he t ht
   have:=he u hu
   omega
 repeat' first|apply Qf|apply Qb|apply Qt|apply Qe|(apply Qd;first|refine QA rfl rfl ?_|refine Qu rfl rfl rfl ?_|refine QG rfl rfl rfl rfl ?_)|(apply Qc;first|(refine QD rfl ?_;intro h1 e1 c1)|refine QU rfl c1 ?_|(refine Qj rfl (k53 _ e1) ?_;rintro v h2 ⟨e2,rfl⟩)|refine Ql rfl ?_)
 have e0:ZB ts (lo0 ts)=[]:=Qdq fun t ht=>Vh ca t ht
 refine QV (I65 h0.length low ts h2) (hi0 ts+1-lo0 ts).toNat (R65 low ts h2) ⟨lo0 ts,.nilS,Int.le_refl _,hlh.1,rfl,Ext.refl _,by rw[e0];exact .inl ⟨rfl,rfl⟩,rfl⟩
  (Qj7 h0.length low b sp ts h2 hlow (c1.ext e2) ((dp.ext e1).ext e2) ca hl he hlh) ?_
 rintro ex E' h3 ⟨rfl,x3,s3,o3,_,_,_,_,rfl⟩
 repeat' first|apply Qf|apply Qb|apply QK|apply Qs|apply Qe|(apply Qd;refine Qq rfl ?_)|(apply Qc;refine Ql rfl ?_)
 exact⟨.inr rfl,(e1.trans e2).trans x3,s3,rfl,OwnD.older o3 (e1.trans e2)⟩
def PolRow(h:Qa)(s:SV)(ps:List Pol):Prop:=∃ ss:List SV,ss.length=ps.length/\IsD h s (List.zipWith (fun (p:Pol) t=>(SV.bool p.big,t)) ps ss)/\∀(i:Nat) (p:Pol) (t:SV),ps[i]?=some p->ss[i]?=some t->IsD h t (tms p.ts)
def PolMx(h:Qa)(s:SV)(m:List (List Pol)):Prop:=∃ ss:List SV,ss.length=m.length/\IsSl h s 1 ss.length ss/\∀(i:Nat) (t:SV) (r:List Pol),ss[i]?=some t->m[i]?=some r->PolRow h t r
theorem PolRow.ext{h h':Qa}{s:SV}{r:List Pol}(e:PolRow h s r)(x:Ext h h'):PolRow h' s r:=by
 obtain⟨ss,h1,h2,h3⟩:=e
 exact⟨ss,h1,h2.ext x,fun i t l a b=>(h3 i t l a b).ext x⟩
theorem PolMx.ext{h h':Qa}{s:SV}{m:List (List Pol)}(e:PolMx h s m)(x:Ext h h'):PolMx h' s m:=by
 obtain⟨ss,h1,h2,h3⟩:=e
 exact⟨ss,h1,h2.ext x,fun i t l a b=>(h3 i t l a b).ext x⟩
theorem PolRow.len{h:Qa}{s:SV}{r:List Pol}(e:PolRow h s r):Yh false s=some (r.length:Int):=by
 obtain⟨ss,h1,h2,-⟩:=e
 have:=h2.len
 rwa [G7,h1,Hw]at this
theorem PolMx.len{h:Qa}{s:SV}{m:List (List Pol)}(e:PolMx h s m):Yh false s=some (m.length:Int):=by
 obtain⟨ss,h1,h2,-⟩:=e
 rw[← h1];exact IsSl.len h2
theorem PolRow.at{h:Qa}{s:SV}{r:List Pol}(e:PolRow h s r){i:Nat}{p:Pol}(hi:r[i]?=some p):∃ id off cap t,s = .slc id off r.length cap/\Q3 h id (off+i*2) 2=some [.bool p.big,t]/\IsD h t (tms p.ts):=by
 obtain⟨ss,h1,h2,h3⟩:=e
 have hl:=(Gb.1 hi).1
 obtain⟨t,ht⟩:∃ t,ss[i]?=some t:=⟨_,Ga (by omega)⟩
 obtain⟨id,off,cap,e1,rd⟩:=h2.at (i:=i) (p:=(SV.bool p.big,t)) (by rw[List.getElem?_zipWith,hi,ht])
 rw[G7,h1,Hw]at e1
 exact⟨id,off,cap,t,e1,rd,h3 i p t hi ht⟩
theorem PolMx.at{h:Qa}{s:SV}{m:List (List Pol)}(e:PolMx h s m){i:Nat}{r:List Pol}(hi:m[i]?=some r):∃ id off cap t,s = .slc id off m.length cap/\Q3 h id (off+i*1) 1=some [t]/\PolRow h t r:=by
 obtain⟨ss,h1,h2,h3⟩:=e
 have hl:=(Gb.1 hi).1
 obtain⟨t,ht⟩:∃ t,ss[i]?=some t:=⟨_,Ga (by omega)⟩
 obtain⟨id,off,cap,e1,rd⟩:=h2.at ht
 rw[h1]at e1
 exact⟨id,off,cap,t,e1,rd,h3 i t r ht hi⟩
def yV(st:Option (Int×Int))(p:Pol):Option (Int×Int):=if p.ts=[] then st else match st with
 | none=>some (lo0 p.ts,hi0 p.ts)
 | some (a,b)=>some (min a (lo0 p.ts),max b (hi0 p.ts))
def Y4(r:List Pol):Option (Int×Int):=r.foldl yV none
def Qlk:Option (Int×Int)->Int
 | none=>0
 | some x=>x.1
def Qlj:Option (Int×Int)->Int
 | none=>0
 | some x=>x.2
theorem QfV{r:List Pol}{i:Nat}{p:Pol}(h:r[i]?=some p):Y4 (r.take (i+1))=yV (Y4 (r.take i)) p:=by
 unfold Y4
 rw[GB,h,List.foldl_append];rfl
def I40b(r:List Pol)(rs:SV)(a0 a2 a4 a5 a6 a7 a24 a25 a26:AV)(hb:Qa)(m:Nat)(E:Env)(h:Qa):Prop:=∃ i,i<=r.length/\m=r.length-i/\Ext hb h ∧
 E.keep [0,2,4,5,6,7,8,9,10,11,24,25,26,31,32,33]=[(0,some a0),(2,some a2),(4,some a4),(5,some a5),(6,some a6),(7,some a7),(8,some (.sc rs)),(9,some (.sc (.int .i64 (Qlk (Y4 (r.take i)))))),(10,some (.sc (.int .i64 (Qlj (Y4 (r.take i)))))),(11,some (.sc (.bool (Y4 (r.take i)).isSome))),(24,some a24),(25,some a25),(26,some a26),(31,some (.sc rs)),(32,some (.sc (.int .i64 (r.length:Nat)))),(33,some (.sc (.int .i64 (i:Nat))))]
def R40b(r:List Pol)(rs:SV)(a0 a2 a4 a5 a6 a7 a24 a25 a26:AV)(hb:Qa)(ex:Ex)(E:Env)(h:Qa):Prop:=ex = .ex 2/\Ext hb h ∧
 ∃ a b c d,E=[(0,some a0),(2,some a2),(4,some a4),(5,some a5),(6,some a6),(7,some a7),(8,some (.sc rs)),(9,some (.sc (.int .i64 (Qlk (Y4 r))))),(10,some (.sc (.int .i64 (Qlj (Y4 r))))),(11,some (.sc (.bool (Y4 r).isSome))),(24,some a24),(25,some a25),(26,some a26),(31,a),(32,b),(33,c),(34,d)]
theorem QgB(r:List Pol)(rs:SV)(a0 a2 a4 a5 a6 a7 a24 a25 a26:AV)(hb:Qa)(pr:PolRow hb rs r)(hl:r.length<=1000000)(ok:∀ p∈r,p.big=false/\p.ts.length<=100000)(m:Nat)(E:Env)(h:Qa)(hI:I40b r rs a0 a2 a4 a5 a6 a7 a24 a25 a26 hb m E h) :
  wA FT HKt Qmg (E.keep [0,2,4,5,6,7,8,9,10,11,24,25,26,31,32,33]) h (Qp (I40b r rs a0 a2 a4 a5 a6 a7 a24 a25 a26 hb) m (R40b r rs a0 a2 a4 a5 a6 a7 a24 a25 a26 hb)):=by
 obtain⟨i,hi,rfl,x,hE⟩:=hI
 rw[hE]
 by_cases hlt:i<r.length
 ·obtain⟨p,hp⟩:∃ p,r[i]?=some p:=⟨_,Ga hlt⟩
  obtain⟨id,off,cap,t,es,rd,dt⟩:=pr.at hp
  subst es
  obtain⟨hbig,hlen⟩:=ok p (Gg hp)
  rw[hbig]at rd
  have rd0:=Qw x rd
  have st:=QfV hp
  have k14:=fun H (y:Ext hb H)=>QoS H false t p.ts (dt.ext y)
  have k53:=fun H (y:Ext hb H)=>zH H false t p.ts (dt.ext y)
  have k54:=fun H (y:Ext hb H)=>zG H false t p.ts (dt.ext y) (by omega)
  have x0:=x
  by_cases hz:p.ts=[]
  ·have st2:Y4 (r.take (i+1))=Y4 (r.take i):=by rw[st];unfold yV;rw[if_pos hz]
   simp only[hz,decide_true,Bool.not_false,Bool.and_true]at k14
   generalize Y4 (r.take i)=B at *
   repeat' first|apply Qf|apply Qb|apply Qt|apply QL|apply Qn|apply Qe|(apply Qg;refine Qk rfl ?_)|(apply Qd;first|refine ZC rfl rfl rfl rfl rfl rfl rfl rfl rfl rfl rfl rfl rfl rfl rfl rfl ?_|refine Jq rfl rfl rfl rfl rfl rfl rfl rfl rfl rfl rfl rfl rfl rfl rfl rfl rfl ?_|refine ZX rfl rfl rfl rfl rfl rfl rfl rfl rfl rfl rfl rfl rfl rfl rfl rfl rfl rfl ?_)|(apply Qc;first|refine Qy (esz:=2) rfl rfl (by omega) ?_|refine XH rfl rd0 ?_|(refine qI rfl ?_;intro h1 e1 c13;replace x0:=x0.trans e1)|refine QU rfl c13 ?_|(refine Qj rfl (k14 _ x0) ?_;rintro v h2 ⟨e2,rfl⟩;replace x0:=x0.trans e2)|refine Ql rfl ?_|refine QM rfl rfl (by omega) ?_|refine Qx rfl rfl (by omega) ?_)
   exact Qz (j:=r.length-(i+1)) (by omega) ⟨i+1,by omega,rfl,x0,by rw[st2];rfl⟩
  ·simp only[hz,decide_false,Bool.and_false]at k14
   cases hB:Y4 (r.take i) with
   | none =>
    have st2:Y4 (r.take (i+1))=some (lo0 p.ts,hi0 p.ts):=by rw[st,hB];unfold yV;rw[if_neg hz]
    have c13':=True.intro
    repeat' first|apply Qf|apply Qb|apply Qt|apply QL|apply Qn|apply Qe|apply Q7|apply Xm|apply Xn|(apply Qg;first|refine Qk rfl ?_|refine Qi rfl ?_)|(apply Qd;first|apply Q5|apply Xw|refine XP (by assumption) ?_|refine ZC rfl rfl rfl rfl rfl rfl rfl rfl rfl rfl rfl rfl rfl rfl rfl rfl ?_|refine Jq rfl rfl rfl rfl rfl rfl rfl rfl rfl rfl rfl rfl rfl rfl rfl rfl rfl ?_|refine ZX rfl rfl rfl rfl rfl rfl rfl rfl rfl rfl rfl rfl rfl rfl rfl rfl rfl rfl ?_)|(apply Qc;first|refine Qy (esz:=2) rfl rfl (by omega) ?_|refine XH rfl rd0 ?_|(refine qI rfl ?_;intro h1 e1 c13;replace x0:=x0.trans e1)|refine QU rfl c13 ?_|(refine Qj rfl (k14 _ x0) ?_;rintro v h2 ⟨e2,rfl⟩;replace x0:=x0.trans e2;replace c13:=c13.ext e2)|(refine Qj rfl (k53 _ x0) ?_;rintro v h2 ⟨e2,rfl⟩;replace x0:=x0.trans e2;replace c13:=c13.ext e2)|(refine Qj rfl (k54 _ x0) ?_;rintro v h2 ⟨e2,rfl⟩;replace x0:=x0.trans e2;replace c13:=c13.ext e2)|refine Ql rfl ?_|refine X1 rfl ?_|refine QM rfl rfl (by omega) ?_|refine Qx rfl rfl (by omega) ?_)
    exact Qz (j:=r.length-(i+1)) (by omega) ⟨i+1,by omega,rfl,x0,by rw[st2];rfl⟩
   | some B =>
    obtain⟨a,b⟩:=B
    have st2:Y4 (r.take (i+1))=some (min a (lo0 p.ts),max b (hi0 p.ts)):=by rw[st,hB];unfold yV;rw[if_neg hz]
    repeat' first|apply Qf|apply Qb|apply Qt|apply QL|apply Qn|apply Qe|apply Q7|apply Xm|apply Xn|(apply Qg;first|refine Qk rfl ?_|refine Qi rfl ?_)|(apply Qd;first|apply Q5|apply Xw|refine XP (by assumption) ?_|refine ZC rfl rfl rfl rfl rfl rfl rfl rfl rfl rfl rfl rfl rfl rfl rfl rfl ?_|refine Jq rfl rfl rfl rfl rfl rfl rfl rfl rfl rfl rfl rfl rfl rfl rfl rfl rfl ?_|refine ZX rfl rfl rfl rfl rfl rfl rfl rfl rfl rfl rfl rfl rfl rfl rfl rfl rfl rfl ?_)|(apply Qc;first|refine Qy (esz:=2) rfl rfl (by omega) ?_|refine XH rfl rd0 ?_|(refine qI rfl ?_;intro h1 e1 c13;replace x0:=x0.trans e1)|refine QU rfl c13 ?_|(refine Qj rfl (k14 _ x0) ?_;rintro v h2 ⟨e2,rfl⟩;replace x0:=x0.trans e2;replace c13:=c13.ext e2)|(refine Qj rfl (k53 _ x0) ?_;rintro v h2 ⟨e2,rfl⟩;replace x0:=x0.trans e2;replace c13:=c13.ext e2)|(refine Qj rfl (k54 _ x0) ?_;rintro v h2 ⟨e2,rfl⟩;replace x0:=x0.trans e2;replace c13:=c13.ext e2)|refine Ql rfl ?_|refine XC rfl ?_|refine QM rfl rfl (by omega) ?_|refine Qae rfl rfl ?_|refine Qch rfl rfl ?_|refine Qx rfl rfl (by omega) ?_)
    exact Qz (j:=r.length-(i+1)) (by omega) ⟨i+1,by omega,rfl,x0,by rw[st2];rfl⟩
 ·have:i=r.length:=by omega
  subst this
  repeat' first|apply Qf|apply Qb|apply QS|apply QQ|apply Qe|(apply Qg;refine Qi rfl ?_)|(apply Qd;refine Jq rfl rfl rfl rfl rfl rfl rfl rfl rfl rfl rfl rfl rfl rfl rfl rfl rfl ?_)|(apply Qc;refine QF rfl rfl (by omega) ?_)
  rw[Gx]
  exact QB ⟨rfl,x,_,_,_,_,rfl⟩
