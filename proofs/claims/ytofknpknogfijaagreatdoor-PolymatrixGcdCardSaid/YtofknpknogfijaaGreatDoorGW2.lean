/- Sums,difference -/
import Derived.Shelf.SlIterI.Nil
import Derived.Shelf.SortM.Plain
import Derived.Shelf.SortM.SortNone
import Derived.Shelf.LaysM
import Derived.Shelf.Spec.TrailingZeros
import Derived.Shelf.Strconv.Itoa3
import Derived.Test.YtofknpknogfijaaGreatDoorAwake
import Derived.Test.YtofknpknogfijaaGreatDoorAb51
import Derived.Lib.ItoaLen
import Derived.Lib.ItoaMem
namespace Go.Proofs.YtofknpknogfijaaGreatDoor
open Go.Ab
set_option linter.all false
set_option maxHeartbeats 16000000
set_option maxRecDepth 20000
attribute [local irreducible] Qk wA Xv Xs QC Qu QP Q6
variable [HB]
def Wop(gf:FuncId)(w:Int->Int->Int):Prop:=∀(h0:Qa) (a b:Int),a.natAbs<=cM->b.natAbs<=cM->(∃ r h',Cal FT HKt gf ([.sc (.int .i64 a),.sc (.int .i64 b)]++([]:List (Nat×Nat)).map fun p=>AV.sc (.ptr p.1 p.2)) h0 r h'/\r = .sc (.int .i64 (w a b))/\h'=h0)/\(w a b).natAbs<=2251799813685248
def mG(w:Int->Int->Int):List Tm->List Tm->List Tm:=mrg w
structure CbG(gf:FuncId)(h0 h:Qa)(q3 q4 q5 q6 q7 q8:Nat)(sp sq s:SV)(F:Bool)(r:List Tm):Prop where
 e:Ext h0 h
 c3:Cel h q3 (.bool false) sp
 c4:Cel h q4 (.bool false) sq
 c5:Cel1 h q5 (.fn gf [])
 c6:Cel h q6 (.bool false) .nilS
 c7:Cel h q7 (.bool false) s
 c8:Cel1 h q8 (.bool F)
 o:OwnD h0 h s (tms r)
 ord:h0.length<=q3/\q3<q4/\q4<q5/\q5<q6/\q6<q7/\q7<q8
theorem CbG.st8{gf:FuncId}{h0 h h1:Qa}{q3 q4 q5 q6 q7 q8:Nat}{sp sq s:SV}{F G:Bool}{r:List Tm}(u:CbG gf h0 h q3 q4 q5 q6 q7 q8 sp sq s F r)(hh:h1=h.set q8 (.cells [.bool G] true 0))(c:Cel1 h1 q8 (.bool G)):CbG gf h0 h1 q3 q4 q5 q6 q7 q8 sp sq s G r:=by
 have o:=u.ord
 subst hh
 exact⟨u.e.set (by omega) _,qh u.c3 (by omega) _,qh u.c4 (by omega) _,u.c5.set (by omega) _,qh u.c6 (by omega) _,qh u.c7 (by omega) _,c,u.o.set (u.o.cel u.c8) _,o⟩
theorem CbG.push{gf:FuncId}{h0 h h6 h7:Qa}{q3 q4 q5 q6 q7 q8:Nat}{sp sq s s':SV}{F:Bool}{r r':List Tm}(u:CbG gf h0 h q3 q4 q5 q6 q7 q8 sp sq s F r)(o6:OwnD h0 h6 s' (tms r'))(e6:Ext h0 h6)(f6:Fram h h6 s s')(w7:Wr h6 h7 q7 (.bool false) s'):CbG gf h0 h7 q3 q4 q5 q6 q7 q8 sp sq s' F r':=by
 have o:=u.ord
 exact⟨w7.ext e6 (by omega),w7.keep (u.c3.fram f6 (u.o.cel u.c3)) (by omega),w7.keep (u.c4.fram f6 (u.o.cel u.c4)) (by omega),Uu (u.c5.fram f6 (u.o.cel u.c5)) w7 (by omega),w7.keep (u.c6.fram f6 (u.o.cel u.c6)) (by omega),w7.cel,Uu (u.c8.fram f6 (u.o.cel u.c8)) w7 (by omega),o6.wrC w7,o⟩
theorem yL{w:Int->Int->Int}{gf:FuncId}(kw:Wop gf w)(h0 h:Qa)(q3 q4 q5 q6 q7 q8:Nat)(sp sq s:SV)(F:Bool)(r:List Tm)(e a b:Int)(u:CbG gf h0 h q3 q4 q5 q6 q7 q8 sp sq s F r)(ha:a.natAbs<=cM)(hb:b.natAbs<=cM)(hl:r.length<=5000000) :
  ∃ v h',Cal FT HKt 83 [.sc (.int .i64 e),.sc (.int .i64 a),.sc (.int .i64 b),.sc (.ptr q5 0),.sc (.ptr q8 0),.sc (.ptr q7 0)] h v h'/\∃ s',CbG gf h0 h' q3 q4 q5 q6 q7 q8 sp sq s' (QbY F (w a b)) (r++put e (w a b)):=by
 refine Cal.of (F:=a83) rfl rfl rfl ?_
 have k54:=(kw h a b ha hb).1
 have hwb:=(kw h a b ha hb).2
 simp only[cM]at ha hb
 have k35:=fun H=>Zl H (w a b) 1125899906842624 (by omega)
 have hd:∀ F',QbY F' (w a b)=(F'&&decide ((w a b).natAbs<=(1125899906842624:Int).toNat)):=fun _=>rfl
 rw[hd]
 generalize decide ((w a b).natAbs<=(1125899906842624:Int).toNat)=D at *
 generalize hC:w a b=C at *
 have c5:=u.c5.at
 have c8:=u.c8.at
 cases F <;> by_cases hz:C=0
 ·have hp:r++put e C=r:=by unfold put;rw[if_pos hz,Hp]
  rw[hp]
  repeat' first|apply Qh|apply Qc|apply Qm|apply Qf|(apply Qg;refine Qj rfl ?_)|(apply Qe;first|refine Qq rfl rfl rfl ?_|refine QA rfl rfl rfl rfl ?_)|(apply Qb;first|refine X5 rfl c5 rfl ?_|refine X5 rfl c8 rfl ?_|(refine Xo rfl rfl k54 ?_;rintro v _ ⟨rfl,rfl⟩)|(refine Ja rfl rfl u.c8 ?_;intro h2 w2 c8';have u2:=u.st8 (G:=false) w2 c8')|refine Xa rfl ?_|refine Qn rfl ?_|refine Qy rfl rfl ?_|refine X2 rfl rfl (by omega) ?_)
  exact⟨.inl rfl,s,u2⟩
 ·have hp:r++put e C=r++[(e,C)]:=by unfold put;rw[if_neg hz]
  rw[hp]
  repeat' first|apply Qh|apply Qc|apply Qf|(apply Qg;refine Qi rfl ?_)|(apply Qe;first|refine Qq rfl rfl rfl ?_|refine QA rfl rfl rfl rfl ?_)|(apply Qb;first|refine X5 rfl c5 rfl ?_|refine X5 rfl c8 rfl ?_|(refine Xo rfl rfl k54 ?_;rintro v _ ⟨rfl,rfl⟩)|(refine Ja rfl rfl u.c8 ?_;intro h2 w2 c8';have u2:=u.st8 (G:=false) w2 c8')|refine QS rfl ?_|refine Qt rfl u2.c7 ?_|(refine Xp rfl rfl ?_)|(refine ZZ u2.e u2.o rfl rfl (by rw[QL];simp only[Yh];omega) ?_;intro s' h6 o6 e6 f6 l6;have cX6:=u2.c7.fram f6 (u2.o.cel u2.c7);have o6':OwnD h0 h6 s' (tms (r++[(e,C)])):=(by simpa [tms,tmP]using o6))|(refine ZO rfl rfl cX6 ?_;intro h7 w7;have u7:=u2.push o6' e6 f6 w7)|refine Xa rfl ?_|refine Qn rfl ?_|refine Qy rfl rfl ?_|refine Zh rfl rfl (by omega) ?_)
  refine yP ?_
  exact⟨.inl rfl,s',u7⟩
 ·have hp:r++put e C=r:=by unfold put;rw[if_pos hz,Hp]
  rw[hp]
  repeat' first|apply Qh|apply Qc|apply Qm|apply Qf|(apply Qg;refine Qj rfl ?_)|(apply Qe;first|refine Qq rfl rfl rfl ?_|refine QA rfl rfl rfl rfl ?_)|(apply Qb;first|refine X5 rfl c5 rfl ?_|refine X5 rfl c8 rfl ?_|(refine Xo rfl rfl k54 ?_;rintro v _ ⟨rfl,rfl⟩)|(refine Qd rfl (k35 _) ?_;rintro v _ ⟨rfl,rfl⟩)|(refine Ja rfl rfl u.c8 ?_;intro h2 w2 c8';have u2:=u.st8 (G:=D) w2 c8')|refine QE rfl ?_|refine Qn rfl ?_|refine QK rfl rfl ?_|refine X2 rfl rfl (by omega) ?_)
  exact⟨.inl rfl,s,u2⟩
 ·have hp:r++put e C=r++[(e,C)]:=by unfold put;rw[if_neg hz]
  rw[hp]
  repeat' first|apply Qh|apply Qc|apply Qf|(apply Qg;refine Qi rfl ?_)|(apply Qe;first|refine Qq rfl rfl rfl ?_|refine QA rfl rfl rfl rfl ?_)|(apply Qb;first|refine X5 rfl c5 rfl ?_|refine X5 rfl c8 rfl ?_|(refine Xo rfl rfl k54 ?_;rintro v _ ⟨rfl,rfl⟩)|(refine Qd rfl (k35 _) ?_;rintro v _ ⟨rfl,rfl⟩)|(refine Ja rfl rfl u.c8 ?_;intro h2 w2 c8';have u2:=u.st8 (G:=D) w2 c8')|refine QS rfl ?_|refine Qt rfl u2.c7 ?_|(refine Xp rfl rfl ?_)|(refine ZZ u2.e u2.o rfl rfl (by rw[QL];simp only[Yh];omega) ?_;intro s' h6 o6 e6 f6 l6;have cX6:=u2.c7.fram f6 (u2.o.cel u2.c7);have o6':OwnD h0 h6 s' (tms (r++[(e,C)])):=(by simpa [tms,tmP]using o6))|(refine ZO rfl rfl cX6 ?_;intro h7 w7;have u7:=u2.push o6' e6 f6 w7)|refine QE rfl ?_|refine Qn rfl ?_|refine QK rfl rfl ?_|refine Zh rfl rfl (by omega) ?_)
  refine yP ?_
  exact⟨.inl rfl,s',u7⟩
structure MgG(w:Int->Int->Int)(p q:List Tm)(i j:Nat)(F:Bool)(r:List Tm):Prop where
 eq:mG w p q=r++mG w (p.drop i) (q.drop j)
 ft:qW (mG w p q)↔(F=true/\qW (mG w (p.drop i) (q.drop j)))
 ln:r.length<=i+j
theorem MgG.step{w:Int->Int->Int}{p q:List Tm}{i j i' j':Nat}{F:Bool}{r:List Tm}(g:MgG w p q i j F r){e c:Int}(h:mG w (p.drop i) (q.drop j)=put e c++mG w (p.drop i') (q.drop j'))(hl:i+j<i'+j'):MgG w p q i' j' (QbY F c) (r++put e c) :=
 ⟨by rw[g.eq,h,GR],by rw[g.ft,h,Qd0],by have:=g.ln;have:=Qdw e c;rw[GK];omega⟩
theorem mG_l{w:Int->Int->Int}{t:Tm}{p:List Tm}:mG w (t::p) []=put t.1 (w t.2 0)++mG w p []:=by unfold mG;rw[mrg]
theorem mG_r{w:Int->Int->Int}{u:Tm}{q:List Tm}:mG w [] (u::q)=put u.1 (w 0 u.2)++mG w [] q:=by unfold mG;rw[mrg]
theorem mG_lt{w:Int->Int->Int}{t u:Tm}{p q:List Tm}(h:t.1<u.1):mG w (t::p) (u::q)=put t.1 (w t.2 0)++mG w p (u::q):=by unfold mG;rw[mrg,if_pos h]
theorem mG_gt{w:Int->Int->Int}{t u:Tm}{p q:List Tm}(h:u.1<t.1):mG w (t::p) (u::q)=put u.1 (w 0 u.2)++mG w (t::p) q:=by unfold mG;rw[mrg,if_neg (by omega),if_pos h]
theorem mG_eq{w:Int->Int->Int}{t u:Tm}{p q:List Tm}(h:t.1=u.1):mG w (t::p) (u::q)=put t.1 (w t.2 u.2)++mG w p q:=by unfold mG;rw[mrg,if_neg (by omega),if_neg (by omega)]
def J53(w:Int->Int->Int)(gf:FuncId)(h0:Qa)(q3 q4 q5 q6 q7 q8:Nat)(sp sq:SV)(p q:List Tm)(E:Env)(h:Qa):Prop:=∃(i j:Nat) (s:SV) (F:Bool) (r:List Tm),i<=p.length/\j<=q.length/\CbG gf h0 h q3 q4 q5 q6 q7 q8 sp sq s F r/\MgG w p q i j F r ∧
 E.keep [3,4,6,7,8,9,10,11]=[(3,some (.sc (.ptr q3 0))),(4,some (.sc (.ptr q4 0))),(6,some (.sc (.ptr q6 0))),(7,some (.sc (.ptr q7 0))),(8,some (.sc (.ptr q8 0))),(9,some (.sc (.fn 83 [(q5,0),(q8,0),(q7,0)]))),(10,some (.sc (.int .i64 (i:Nat)))),(11,some (.sc (.int .i64 (j:Nat))))]
def S53(w:Int->Int->Int)(gf:FuncId)(h0:Qa)(q3 q4 q5 q6 q7 q8:Nat)(sp sq:SV)(p q:List Tm)(ex:Ex)(E:Env)(h:Qa):Prop:=ex = .ex 0/\∃(s:SV) (F:Bool),CbG gf h0 h q3 q4 q5 q6 q7 q8 sp sq s F (mG w p q)/\(qW (mG w p q)↔F=true)/\∃ a b c d e f,
 E=[(3,a),(4,b),(6,some (.sc (.ptr q6 0))),(7,some (.sc (.ptr q7 0))),(8,some (.sc (.ptr q8 0))),(9,c),(10,d),(11,e),(40,f)]
theorem QfG{w:Int->Int->Int}{gf:FuncId}(kw:Wop gf w)(h0:Qa)(q3 q4 q5 q6 q7 q8:Nat)(sp sq:SV)(p q:List Tm)(hp:IsD h0 sp (tms p))(hq:IsD h0 sq (tms q))(fp:∀ t∈p,t.2.natAbs<=cM/\t.1.natAbs<=eM)(fq:∀ t∈q,t.2.natAbs<=cM/\t.1.natAbs<=eM)(pl:p.length<=2097153)(ql:q.length<=2097153)(E:Env)(h:Qa)(hI:J53 w gf h0 q3 q4 q5 q6 q7 q8 sp sq p q E h) :
  wA FT HKt Qhl (E.keep [3,4,6,7,8,9,10,11]) h (QC (J53 w gf h0 q3 q4 q5 q6 q7 q8 sp sq p q) (qC p q) (qC p q E h) (S53 w gf h0 q3 q4 q5 q6 q7 q8 sp sq p q)):=by
 obtain⟨i,j,s,F,r,hi,hj,u,g,hE⟩:=hI
 have hm:qC p q E h=p.length+q.length-(i+j):=by unfold qC;rw[hE];show p.length+q.length-((i:Int)+(j:Int)).toNat=_;omega
 rw[hm,hE]
 have lp:=hp.len
 have lq:=hq.len
 rw[QL]at lp lq
 have gl:=g.ln
 have rl:r.length<=5000000:=by omega
 have z0:(0:Int).natAbs<=cM:=by simp
 have fin:∀ i' j':Nat,i+j<i'+j'->i'<=p.length->j'<=q.length->p.length+q.length-(i'+j')<p.length+q.length-(i+j):=fun i' j' a b c=>by omega
 by_cases hip:i<p.length
 ·obtain⟨t,ht⟩:∃ t,p[i]?=some t:=⟨_,Gc hip⟩
  obtain⟨tc,te⟩:=fp t (Gl ht)
  obtain⟨id1,off1,cap1,e1,r1⟩:=hp.at (i:=i) (p:=tmP t) (by simp[ht])
  rw[QL]at e1
  subst e1
  have rp:=QO u.e r1
  obtain⟨rp1,rp2⟩:=rd1 rp
  by_cases hjq:j<q.length
  ·obtain⟨v,hv⟩:∃ v,q[j]?=some v:=⟨_,Gc hjq⟩
   obtain⟨vc,ve⟩:=fq v (Gl hv)
   obtain⟨id2,off2,cap2,e2,r2⟩:=hq.at (i:=j) (p:=tmP v) (by simp[hv])
   rw[QL]at e2
   subst e2
   have rq:=QO u.e r2
   obtain⟨rq1,rq2⟩:=rd1 rq
   by_cases hlt:t.1<v.1
   ·have g2:=g.step (i':=i+1) (j':=j) (by rw[Xy ht,Xy hv];exact mG_lt hlt) (by omega)
    have k82:=yL kw h0 h q3 q4 q5 q6 q7 q8 _ _ s F r t.1 t.2 0 u tc z0 rl
    repeat' first|apply Qh|apply Qc|apply Qz|apply QV|apply Qm|apply Qf|apply QU|apply Xl|apply Xm|(apply Qg;refine Qi rfl ?_)|(apply Qe;first|apply QR|apply Xu|refine Xh rfl rfl rfl rfl rfl rfl rfl rfl ?_|refine Xd rfl rfl rfl rfl rfl rfl rfl rfl rfl ?_)|(apply Qb;first|refine QS rfl ?_|refine Qt rfl u.c3 ?_|refine Qt rfl u.c4 ?_|refine QG rfl lp ?_|refine QG rfl lq ?_|refine QJ (esz:=2) rfl rfl (by omega) ?_|refine Xx rfl rp1 ?_|refine Xx rfl rp2 ?_|refine Xx rfl rq1 ?_|(refine Xo rfl rfl k82 ?_;rintro w h2 ⟨s',u2⟩)|refine Xa rfl ?_|refine QE rfl ?_|refine Qn rfl ?_|refine QK rfl rfl ?_|refine Qy rfl rfl ?_|refine Q1 rfl rfl (by omega) ?_|refine QH rfl rfl (by omega) ?_|refine Xk rfl rfl (by omega) ?_)
    exact Xg ⟨i+1,j,s',_,_,by omega,hj,u2,g2,rfl⟩ (by unfold qC;show p.length+q.length-(((i:Nat):Int)+1+(j:Int)).toNat<_;omega)
   ·by_cases hgt:v.1<t.1
    ·have g2:=g.step (i':=i) (j':=j+1) (by rw[Xy ht,Xy hv];exact mG_gt hgt) (by omega)
     have k82:=yL kw h0 h q3 q4 q5 q6 q7 q8 _ _ s F r v.1 0 v.2 u z0 vc rl
     repeat' first|apply Qh|apply Qc|apply Qz|apply QV|apply Qm|apply Qf|apply QU|apply Xl|apply Xm|(apply Qg;first|refine Qi rfl ?_|refine Qj rfl ?_)|(apply Qe;first|apply QR|apply Xu|refine Xh rfl rfl rfl rfl rfl rfl rfl rfl ?_|refine Xd rfl rfl rfl rfl rfl rfl rfl rfl rfl ?_)|(apply Qb;first|refine QS rfl ?_|refine Qt rfl u.c3 ?_|refine Qt rfl u.c4 ?_|refine QG rfl lp ?_|refine QG rfl lq ?_|refine QJ (esz:=2) rfl rfl (by omega) ?_|refine Xx rfl rp1 ?_|refine Xx rfl rq1 ?_|refine Xx rfl rq2 ?_|(refine Xo rfl rfl k82 ?_;rintro w h2 ⟨s',u2⟩)|refine Xa rfl ?_|refine QE rfl ?_|refine Qn rfl ?_|refine QK rfl rfl ?_|refine Qy rfl rfl ?_|refine Q1 rfl rfl (by omega) ?_|refine QH rfl rfl (by omega) ?_|refine QW rfl rfl (by omega) ?_|refine Xk rfl rfl (by omega) ?_)
     exact Xg ⟨i,j+1,s',_,_,hi,by omega,u2,g2,rfl⟩ (by unfold qC;show p.length+q.length-((i:Int)+(((j:Nat):Int)+1)).toNat<_;omega)
    ·have heq:t.1=v.1:=by omega
     have g2:=g.step (i':=i+1) (j':=j+1) (by rw[Xy ht,Xy hv];exact mG_eq heq) (by omega)
     have k82:=yL kw h0 h q3 q4 q5 q6 q7 q8 _ _ s F r t.1 t.2 v.2 u tc vc rl
     repeat' first|apply Qh|apply Qc|apply Qz|apply QV|apply Qm|apply Qf|apply QU|apply Xl|apply Xm|(apply Qg;first|refine Qi rfl ?_|refine Qj rfl ?_)|(apply Qe;first|apply QR|apply Xu|refine Xh rfl rfl rfl rfl rfl rfl rfl rfl ?_|refine Xd rfl rfl rfl rfl rfl rfl rfl rfl rfl ?_)|(apply Qb;first|refine QS rfl ?_|refine Qt rfl u.c3 ?_|refine Qt rfl u.c4 ?_|refine QG rfl lp ?_|refine QG rfl lq ?_|refine QJ (esz:=2) rfl rfl (by omega) ?_|refine Xx rfl rp1 ?_|refine Xx rfl rp2 ?_|refine Xx rfl rq1 ?_|refine Xx rfl rq2 ?_|(refine Xo rfl rfl k82 ?_;rintro w h2 ⟨s',u2⟩)|refine Xa rfl ?_|refine QE rfl ?_|refine Qn rfl ?_|refine QK rfl rfl ?_|refine Qy rfl rfl ?_|refine Q1 rfl rfl (by omega) ?_|refine QH rfl rfl (by omega) ?_|refine QW rfl rfl (by omega) ?_|refine Xk rfl rfl (by omega) ?_)
     exact Xg ⟨i+1,j+1,s',_,_,by omega,by omega,u2,g2,rfl⟩ (by unfold qC;show p.length+q.length-(((i:Nat):Int)+1+(((j:Nat):Int)+1)).toNat<_;omega)
  ·have hjn:j=q.length:=by omega
   subst hjn
   have g2:=g.step (i':=i+1) (j':=q.length) (by rw[Xy ht,Hk];exact mG_l) (by omega)
   have k82:=yL kw h0 h q3 q4 q5 q6 q7 q8 _ _ s F r t.1 t.2 0 u tc z0 rl
   repeat' first|apply Qh|apply Qc|apply Qz|apply QV|apply Qm|apply Qf|apply QU|apply Xl|apply Xm|(apply Qg;refine Qi rfl ?_)|(apply Qe;first|apply QR|apply Xu|refine Xh rfl rfl rfl rfl rfl rfl rfl rfl ?_|refine Xd rfl rfl rfl rfl rfl rfl rfl rfl rfl ?_)|(apply Qb;first|refine QS rfl ?_|refine Qt rfl u.c3 ?_|refine Qt rfl u.c4 ?_|refine QG rfl lp ?_|refine QG rfl lq ?_|refine QJ (esz:=2) rfl rfl (by omega) ?_|refine Xx rfl rp1 ?_|refine Xx rfl rp2 ?_|(refine Xo rfl rfl k82 ?_;rintro w h2 ⟨s',u2⟩)|refine Xa rfl ?_|refine QaF rfl ?_|refine Qn rfl ?_|refine QK rfl rfl ?_|refine Q1 rfl rfl (by omega) ?_|refine QH rfl rfl (by omega) ?_|refine XC rfl rfl (by omega) ?_)
   exact Xg ⟨i+1,q.length,s',_,_,by omega,hj,u2,g2,rfl⟩ (by unfold qC;show p.length+q.length-(((i:Nat):Int)+1+(q.length:Int)).toNat<_;omega)
 ·have hin:i=p.length:=by omega
  subst hin
  by_cases hjq:j<q.length
  ·obtain⟨v,hv⟩:∃ v,q[j]?=some v:=⟨_,Gc hjq⟩
   obtain⟨vc,ve⟩:=fq v (Gl hv)
   obtain⟨id2,off2,cap2,e2,r2⟩:=hq.at (i:=j) (p:=tmP v) (by simp[hv])
   rw[QL]at e2
   subst e2
   have rq:=QO u.e r2
   obtain⟨rq1,rq2⟩:=rd1 rq
   have g2:=g.step (i':=p.length) (j':=j+1) (by rw[Xy hv,Hk];exact mG_r) (by omega)
   have k82:=yL kw h0 h q3 q4 q5 q6 q7 q8 _ _ s F r v.1 0 v.2 u z0 vc rl
   repeat' first|apply Qh|apply Qc|apply Qz|apply QV|apply Qm|apply Qf|apply QU|apply Xl|apply Xm|(apply Qg;first|refine Qi rfl ?_|refine Qj rfl ?_)|(apply Qe;first|apply QR|apply Xu|refine Xh rfl rfl rfl rfl rfl rfl rfl rfl ?_|refine Xd rfl rfl rfl rfl rfl rfl rfl rfl rfl ?_)|(apply Qb;first|refine QS rfl ?_|refine Qt rfl u.c3 ?_|refine Qt rfl u.c4 ?_|refine QG rfl lp ?_|refine QG rfl lq ?_|refine QJ (esz:=2) rfl rfl (by omega) ?_|refine Xx rfl rq1 ?_|refine Xx rfl rq2 ?_|(refine Xo rfl rfl k82 ?_;rintro w h2 ⟨s',u2⟩)|refine Xa rfl ?_|refine QE rfl ?_|refine Qn rfl ?_|refine QK rfl rfl ?_|refine Qy rfl rfl ?_|refine Q1 rfl rfl (by omega) ?_|refine QH rfl rfl (by omega) ?_|refine QW rfl rfl (by omega) ?_|refine XC rfl rfl (by omega) ?_|refine Xk rfl rfl (by omega) ?_)
   exact Xg ⟨p.length,j+1,s',_,_,hi,by omega,u2,g2,rfl⟩ (by unfold qC;show p.length+q.length-((p.length:Int)+(((j:Nat):Int)+1)).toNat<_;omega)
  ·have hjn:j=q.length:=by omega
   subst hjn
   repeat' first|apply Qh|apply Qc|apply Xc|apply Q5|apply Qf|(apply Qg;refine Qj rfl ?_)|(apply Qe;refine Xd rfl rfl rfl rfl rfl rfl rfl rfl rfl ?_)|(apply Qb;first|refine QS rfl ?_|refine Qt rfl u.c3 ?_|refine Qt rfl u.c4 ?_|refine QG rfl lp ?_|refine QG rfl lq ?_|refine QE rfl ?_|refine Qn rfl ?_|refine Qy rfl rfl ?_|refine QW rfl rfl (by omega) ?_)
   have h1:=g.eq
   have h2:=g.ft
   have e0:mG w [] []=[]:=by unfold mG;rw[mrg]
   rw[Hk,Hk,e0]at h1 h2
   rw[Hp]at h1
   rw[← h1]at u
   exact XA ⟨rfl,s,F,u,h2.trans ⟨fun h=>h.1,fun h=>⟨h,fun t ht=>absurd ht (by simp)⟩⟩,_,_,_,_,_,_,rfl⟩
open Classical in
noncomputable def ZQ(w:Int->Int->Int)(p q:Pol):Pol:=if p.big=true∨q.big=true then YI else if qW (mG w p.ts q.ts) then ⟨false,mG w p.ts q.ts⟩ else YI
theorem Qi4{w:Int->Int->Int}{gf:FuncId}(kw:Wop gf w)(hw0:w 0 0=0)(h0:Qa)(sp sq:SV)(p q:Pol)(hp:IsD h0 sp (tms p.ts))(hq:IsD h0 sq (tms q.ts))(kp:Pok p)(kq:Pok q) :
  ∃ r h',Cal FT HKt 51 [.agg [.bool p.big,sp],.agg [.bool q.big,sq],.sc (.fn gf [])] h0 r h'/\Ext h0 h'/\Z5 h' r (ZQ w p q):=by
 refine Cal.of (F:=a51) rfl rfl rfl ?_
 have lp:=hp.len
 have lq:=hq.len
 rw[QL]at lp lq
 by_cases hbp:p.big=true
 ·have e:ZQ w p q=YI:=by unfold ZQ;rw[if_pos (.inl hbp)]
  rw[e,hbp]
  repeat' first|apply Qh|apply Qc|apply QD|apply Qs|apply Qf|(apply Qg;refine Qi rfl ?_)|(apply Qe;first|refine Qp rfl ?_|refine QA rfl rfl rfl rfl ?_|refine QM rfl rfl rfl rfl rfl ?_)|(apply Qb;first|(have z:=e5;apply QQ;intro h6 e6 c6;have d3:=c3.ext (e4.trans (e5.trans e6)))|(have z:=e4;refine qU rfl ?_;intro h5 e5 c5)|(have z:=e3;refine Qr rfl ?_;intro h4 e4 c4)|(refine Qr rfl ?_;intro h3 e3 c3)|refine QB rfl d3 ?_|(refine Xp rfl rfl ?_)|(refine QZ rfl rfl c6 ?_;intro h7 w7)|refine Xa rfl ?_|refine Qn rfl ?_|refine QK rfl rfl ?_|refine Xt rfl rfl ?_)
  exact⟨.inr rfl,QY rfl w7.cel.read ⟨w7.ext (e3.trans (e4.trans (e5.trans e6))) (Gh e3.len (Gh e4.len e5.len)),.nilS,rfl,IsD.nil _⟩⟩
 have hbp':p.big=false:=by simpa using hbp
 rw[hbp']
 by_cases hbq:q.big=true
 ·have e:ZQ w p q=YI:=by unfold ZQ;rw[if_pos (.inr hbq)]
  rw[e,hbq]
  repeat' first|apply Qh|apply Qc|apply QD|apply Qs|apply Qf|(apply Qg;refine Qi rfl ?_)|(apply Qe;first|refine Qp rfl ?_|refine QA rfl rfl rfl rfl ?_|refine QM rfl rfl rfl rfl rfl ?_)|(apply Qb;first|(have z:=e5;apply QQ;intro h6 e6 c6;have d3:=c3.ext (e4.trans (e5.trans e6));have d4:=c4.ext (e5.trans e6))|(have z:=e4;refine qU rfl ?_;intro h5 e5 c5)|(have z:=e3;refine Qr rfl ?_;intro h4 e4 c4)|(refine Qr rfl ?_;intro h3 e3 c3)|refine QB rfl d3 ?_|refine QB rfl d4 ?_|(refine Xp rfl rfl ?_)|(refine QZ rfl rfl c6 ?_;intro h7 w7)|refine QE rfl ?_|refine Qn rfl ?_|refine Qy rfl rfl ?_|refine Xt rfl rfl ?_)
  exact⟨.inr rfl,QY rfl w7.cel.read ⟨w7.ext (e3.trans (e4.trans (e5.trans e6))) (Gh e3.len (Gh e4.len e5.len)),.nilS,rfl,IsD.nil _⟩⟩
 have hbq':q.big=false:=by simpa using hbq
 rw[hbq']
 have nb:¬(p.big=true∨q.big=true):=fun h=>h.elim hbp hbq
 have pl:=kp.len
 have ql:=kq.len
 repeat' first|apply Qh|apply Qc|apply Qz|apply Qm|apply Qf|(apply Qg;refine Qj rfl ?_)|(apply Qe;first|refine QA rfl rfl rfl rfl ?_|refine QM rfl rfl rfl rfl rfl ?_|refine Q7 rfl rfl rfl rfl rfl rfl ?_|refine Xh rfl rfl rfl rfl rfl rfl rfl rfl ?_)|(apply Qb;first|(have z:=e7;apply y7;intro h8 e8 c8;have u8:CbG gf h0 h8 h0.length h3.length h4.length h5.length hB.length h7.length sp sq S false []:=⟨xB.trans (e7.trans e8),d3_B.ext (e7.trans e8),d4_B.ext (e7.trans e8),Cel1.ext d5_B (e7.trans e8),c6_B.ext (e7.trans e8),c7.ext e8,c8,((oB.ext e7).ext e8).weaken x6.len,⟨Ge _,c3.lt,c4.lt,Cel1.lt c5,by have:=c6.lt;omega,c7.lt⟩⟩)|(have z:=xB;refine QT rfl ?_;intro h7 e7 c7)|(have z:=e5;apply QQ;intro h6 e6 c6;have d3:=c3.ext (e4.trans (e5.trans e6));have d4:=c4.ext (e5.trans e6);have d5:=Cel1.ext c5 e6;have x6:=e3.trans (e4.trans (e5.trans e6)))|(have z:=e4;refine qU rfl ?_;intro h5 e5 c5)|(have z:=e3;refine Qr rfl ?_;intro h4 e4 c4)|(refine Qr rfl ?_;intro h3 e3 c3)|refine QB rfl d3 ?_|refine QB rfl d4 ?_|refine Qt rfl d3 ?_|refine Qt rfl d4 ?_|refine QG rfl lp ?_|refine QG rfl lq ?_|(refine zW x6 rfl rfl (by simp only[Yh];omega) ?_;intro S hB oB eB xB lB;have d3_B:=d3.ext eB;have d4_B:=d4.ext eB;have d5_B:=Cel1.ext d5 eB;have c6_B:=c6.ext eB)|(refine Xp rfl rfl ?_)|(refine Ja rfl rfl u8.c8 ?_;intro h9 w9 c9;have u9:=u8.st8 (G:=true) w9 c9)|refine QE rfl ?_|refine Qn rfl ?_|refine Qy rfl rfl ?_|refine Q1 rfl rfl (by omega) ?_|refine Xt rfl rfl ?_)
 have g0:MgG w p.ts q.ts 0 0 true []:=⟨rfl,⟨fun h=>⟨rfl,h⟩,fun h=>h.2⟩,Ge _⟩
 refine YK (J53 w gf h0 h0.length h3.length h4.length h5.length hB.length h7.length sp sq p.ts q.ts) (qC p.ts q.ts) (S53 w gf h0 h0.length h3.length h4.length h5.length hB.length h7.length sp sq p.ts q.ts) ⟨0,0,S,true,[],Gs _,Gs _,u9,g0,rfl⟩ (QfG kw h0 h0.length h3.length h4.length h5.length hB.length h7.length sp sq p.ts q.ts hp hq (fun t ht=>⟨kp.cf t ht,kp.ex t ht⟩) (fun t ht=>⟨kq.cf t ht,kq.ex t ht⟩) pl ql) ?_
 rintro ex E' hC ⟨rfl,s,F,uC,hF,_,_,_,_,_,_,rfl⟩
 have o:=uC.ord
 have c8:=uC.c8.at
 have c6:=uC.c6
 have lq6:h0.length<=h5.length:=by omega
 cases F
 ·have e:ZQ w p q=YI:=by unfold ZQ;rw[if_neg nb,if_neg (fun h=>by have:=hF.1 h;simp at this)]
  rw[e]
  repeat' first|apply Qh|apply Qc|apply QD|apply Q8|apply Qs|apply Qf|(apply Qg;refine Qi rfl ?_)|(apply Qe;first|refine Qp rfl ?_|refine Qq rfl rfl rfl ?_)|(apply Qb;first|refine X5 rfl c8 rfl ?_|(refine Xp rfl rfl ?_)|(refine QZ rfl rfl c6 ?_;intro hD wD)|refine YW rfl ?_)
  exact⟨.inr rfl,QY rfl wD.cel.read ⟨wD.ext uC.e lq6,.nilS,rfl,IsD.nil _⟩⟩
 ·have e:ZQ w p q=⟨false,mG w p.ts q.ts⟩:=by unfold ZQ;rw[if_neg nb,if_pos (hF.2 rfl)]
  rw[e]
  repeat' first|apply Qh|apply Qc|apply Q8|apply Qm|apply Qs|apply Qf|(apply Qg;refine Qj rfl ?_)|(apply Qe;first|refine Qp rfl ?_|refine Qq rfl rfl rfl ?_)|(apply Qb;first|refine X5 rfl c8 rfl ?_|refine Qv rfl uC.c7 ?_|(refine QZ rfl rfl c6 ?_;intro hD wD)|refine XX rfl ?_)
  exact⟨.inr rfl,QY rfl wD.cel.read ⟨wD.ext uC.e lq6,s,rfl,(uC.o.wrC wD).is⟩⟩
end Go.Proofs.YtofknpknogfijaaGreatDoor
namespace Go.Proofs.YtofknpknogfijaaGreatDoor
open Go.Ab
set_option linter.all false
variable [HB]
theorem QgY{cs vs:List SV}{off N l m:Nat}(h:cut cs off N=some vs)(hm:l+m<=N):cut cs (off+l) m=some ((vs.drop l).take m):=by
 unfold cut at h ⊢
 split at h
 ·simp only[Option.some.injEq]at h
  rw[if_pos (by omega),← h,List.drop_take,List.drop_drop,List.take_take,GM (by omega)]
 ·cases h
theorem Qfw{h:Qa}{s:SV}{e:ESz}{n l u:Nat}{vs:List SV}(hs:IsSl h s e n vs)(hl:l<=u)(hu:u<=n) :
  ∃ s',(∀(_:e.n=1),Jr l u s=some s')/\YC h e l u s=some s'/\IsSl h s' e (u-l) ((vs.drop (l*e.n)).take ((u-l)*e.n)):=by
 rcases hs with ⟨rfl,rfl,rfl⟩|⟨id,off,cap,b,rfl,h1,h2,h3,h4⟩
 ·have:l=0/\u=0:=by omega
  obtain⟨rfl,rfl⟩:=this
  exact⟨.nilS,fun _=>by simp[Jr],by simp[YC],.inl ⟨rfl,rfl,by simp⟩⟩
 ·refine⟨.slc id (off+l*e.n) (u-l) (cap.map (· - l)),fun h1e=>?_,?_,.inr ⟨id,_,_,b,rfl,h1,h2,fun h0=>by simp[h0],fun h0=>?_⟩⟩
  ·simp[Jr,hl,hu,h1e]
  ·simp[YC,h1,h2,hl,hu]
  ·obtain⟨cs,rw',rfl,hc⟩:=h4 (by omega)
   refine⟨cs,rw',rfl,QgY hc ?_⟩
   rw[← GZ]
   exact Gz _ (by omega)
theorem prsTo{h:Qa}{s:SV}{ps:List P2}{u:Nat}(hs:IsD h s ps)(hu:u<=ps.length):∃ s',YC h 2 0 u s=some s'/\IsD h s' (ps.take u):=by
 obtain⟨s',-,h2,h3⟩:=Qfw (l:=0) (u:=u) hs (Gs _) hu
 refine⟨s',h2,?_⟩
 unfold IsD
 rw[GV,GM hu,yl]
 have e1:((2:ESz)).n=2:=rfl
 rw[e1]at h3
 simpa using h3
theorem Qiu{h:Qa}{s:SV}{ps:List P2}{l:Nat}(hs:IsD h s ps)(hl:l<=ps.length):∃ s',YC h 2 l ps.length s=some s'/\IsD h s' (ps.drop l):=by
 obtain⟨s',-,h2,h3⟩:=Qfw (l:=l) (u:=ps.length) hs hl (Ge _)
 refine⟨s',h2,?_⟩
 unfold IsD
 rw[GW,ym]
 have e1:((2:ESz)).n=2:=rfl
 rw[e1,Gx (by rw[GW,ZV];omega)]at h3
 exact h3
theorem srcD{h:Qa}{t:SV}{ps:List P2}(ht:IsD h t ps):XZ h 2 t=some (ps.length,prs ps):=by
 rcases ht with ⟨rfl,h1,h2⟩|⟨id,off,cap,b,rfl,h1,h2,h3,h4⟩
 ·rw[h1,h2];rfl
 ·simp only[XZ]
  by_cases h0:ps.length=0
  ·rw[if_pos h0,h0,h3 h0]
  ·obtain⟨cs,rw',rfl,hc⟩:=h4 (by omega)
   have e1:((2:ESz)).n=2:=rfl
   rw[e1]at hc
   rw[if_neg h0]
   simp[Q9,h1,hc]
theorem appDs{h0 h:Qa}{s:SV}{ps ws:List P2}{bytes:Nat}(he:Ext h0 h)(ho:OwnD h0 h s ps)(hb:(ps.length+ws.length)*(bytes+1)<=Yh) :
  ∃ s' h',ZG h 2 bytes s ws.length (prs ws)=some (s',h')/\OwnD h0 h' s' (ps++ws)/\Ext h0 h'/\h.length<=h'.length/\Fram h h' s s':=by
 by_cases hw:ws.length=0
 ·have:ws=[]:=Gu hw
  subst this
  refine⟨s,h,?_,by rw[Hp];exact ho,he,Ge _,fun j b hj hn=>⟨hj,hn⟩⟩
  rcases ho with ⟨rfl,rfl⟩|⟨id,cap,bl,rfl,h1,h2,h3,h4⟩ <;> simp[ZG]
 have hl:=he.len
 have hp:prs (ps++ws)=prs ps++prs ws:=Uo _ _
 have hpl:(ps++ws).length=ps.length+ws.length:=by simp
 have hpr:=ZV ps
 have hwr:=ZV ws
 rcases ho with ⟨rfl,rfl⟩|⟨id,cap,bl,rfl,h1,h2,h3,h4⟩
 ·refine⟨.slc h.length 0 ws.length none,h++[.cells (prs ws) true 2],?_,.inr ⟨h.length,none,prs ws,rfl,hl,by simp,by rw[List.nil_append,Gx (by rw[hwr];exact Ge _)],by simp[RoomD,hwr]⟩,he.app _,by simp,fun j b' hj hn=>?_⟩
  ·simp only[ZG]
   rw[if_neg hw,if_pos (by simpa using hb)]
  ·have hjl:=(Gb.1 hj).1
   exact⟨YN j b' hj,fun o n c hc=>by cases hc;omega⟩
 ·have hid:id<h.length:=(Gb.1 h2).1
  have hle:=h4.le
  have hcut:cut bl 0 (ps.length*2)=some (prs ps):=by
   unfold cut
   rw[if_pos (by omega),Hi,h3]
  have fresh:∀(j:Nat) (b:Blk),h[j]?=some b->∀ k,Ys (SV.slc h.length 0 k none) j:=by
   intro j b hj k o n c hc
   have:=(Gb.1 hj).1
   cases hc;omega
  cases cap with
  | none =>
   refine⟨.slc h.length 0 (ps.length+ws.length) none,h.set id (.dead 2)++[.cells (prs ps++prs ws) true 2],?_,?_,(he.set h1 _).app _,by simp,?_⟩
   ·simp only[ZG]
    rw[if_neg hw,if_pos hb,h2]
    simp only[if_true,ez2,hcut]
    rw[if_pos ⟨trivial,.inl rfl⟩]
   ·refine .inr ⟨h.length,none,prs ps++prs ws,by rw[hpl],hl,?_,?_,by simp[RoomD,hpr,hwr];omega⟩
    ·rw[Gk (by simp)];simp
    ·rw[hp,Gx (by simp[hpr,hwr];omega)]
   ·intro j b' hj hn
    have hne:id≠j:=fun e=>by subst e;exact hn _ _ _ rfl
    refine⟨YN j b' ?_,fresh j b' hj _⟩
    rw[Gn hne];exact hj
  | some c =>
   obtain⟨h5,h6⟩:=h4
   by_cases hc:c<ps.length+ws.length
   ·refine⟨.slc h.length 0 (ps.length+ws.length) none,h++[.cells (prs ps++prs ws) true 2],?_,?_,he.app _,by simp,?_⟩
    ·simp only[ZG]
     rw[if_neg hw,if_pos hb,h2]
     simp only[if_true,ez2,hcut]
     rw[if_pos hc]
    ·refine .inr ⟨h.length,none,prs ps++prs ws,by rw[hpl],hl,?_,?_,by simp[RoomD,hpr,hwr];omega⟩
     ·rw[Gk (Ge _)];simp
     ·rw[hp,Gx (by simp[hpr,hwr];omega)]
    ·exact fun j b' hj hn=>⟨YN j b' hj,fresh j b' hj _⟩
   ·have hsl:(Xf bl (0+ps.length*2) (prs ws)).length=c*2:=by simp[Xf];omega
    refine⟨.slc id 0 (ps.length+ws.length) (some c),h.set id (.cells (Xf bl (0+ps.length*2) (prs ws)) true 2),?_,?_,he.set h1 _,by simp,?_⟩
    ·simp only[ZG]
     rw[if_neg hw,if_pos hb,h2]
     simp only[if_true,ez2,hcut]
     rw[if_neg hc]
     simp only[Xz,h2]
     rw[if_pos (by simp;omega)];rfl
    ·refine .inr ⟨id,some c,Xf bl (0+ps.length*2) (prs ws),by rw[hpl],h1,GI hid,?_,?_⟩
     ·rw[hp,hpl]
      simp only[Xf,Hc]
      rw[h3,Hs (by simp[hpr,hwr];omega),Gx (by simp[hpr,hwr];omega)]
     ·rw[hpl];exact⟨hsl,by omega⟩
    ·intro j b' hj hn
     have hne:id≠j:=fun e=>by subst e;exact hn _ _ _ rfl
     refine⟨?_,fun o n c' e=>hn _ _ _ (by cases e;rfl)⟩
     rw[Gn hne];exact hj
section
variable {FT:zzA} {HK:zzH} {E:Env} {h h0:Qa} {K:Env->Qa->Prop} {d:Option Nat} {r:List AOp} {x y lo hi:AO}
theorem QiS{bytes:Nat}{s t:SV}{ps ws:List P2}{z2:List SV}(he:Ext h0 h)(ho:OwnD h0 h s ps)(hs:evS E x=some s)(hy:evS E y=some t)(ht:IsD h t ws)(hb:(ps.length+ws.length)*(bytes+1)<=Yh)
  (hw:∀ s' h',OwnD h0 h' s' (ps++ws)->Ext h0 h'->Fram h h' s s'->h.length<=h'.length->Qk FT HK r (Qw d (some (.sc s')) E) h' K) :
  Qk FT HK (⟨d,.app 2 bytes z2 x y,none⟩::r) E h K:=by
 obtain⟨s',h',h1,h2,h3,h4,h5⟩:=appDs (bytes:=bytes) he ho hb
 refine Xi (v:=some (.sc s')) (h':=h') rfl rfl ?_ (hw s' h' h2 h3 h5 h4)
 simp only[Ql,hs,hy,Gi,ez2,srcD ht,h1,Gm]
end
set_option maxHeartbeats 16000000
set_option maxRecDepth 20000
attribute [local irreducible] Qk wA Xv Xs QC Qu QP Q6
section
variable {FT:zzA} {HK:zzH} {E:Env} {h:Qa} {K:Env->Qa->Prop} {d:Option Nat} {r:List AOp} {x:AO}
theorem k_bl0{z:SV}(hw:Qk FT HK r (Qw d (some (.sc (.slc h.length 0 0 (some 0)))) E) (h++[.cells [] true 1]) K):Qk FT HK (⟨d,.bsl 1 [z] 0 [],none⟩::r) E h K :=
 Xi rfl rfl (by simp[Ql,Yk,ZA,rep]) hw
theorem Qlc{a z0:SV}(hx:ev E x=some (.sc a))(hw:Qk FT HK r (Qw d (some (.sc (.slc h.length 0 1 (some 1)))) E) (h++[.cells [a] true 1]) K):Qk FT HK (⟨d,.bsl 1 [z0] 1 [(0,x)],none⟩::r) E h K:=by
 refine Xi (v:=some (.sc (.slc h.length 0 1 (some 1)))) (h':=h++[.cells [a] true 1]) rfl rfl ?_ hw
 simp[Ql,Yk,hx,AV.cells,ZA,rep,Xf]
end
theorem UC{h h':Qa}(he:Ext h h'){e:ESz}{l u:Nat}{s s':SV}(hs:YC h e l u s=some s'):YC h' e l u s=some s':=by
 cases s
 case nilS=>exact hs
 case slc =>
  simp only[YC]at hs ⊢
  split at hs
  ·rename_i b hg
   rw[he.get _ _ hg]
   exact hs
  ·cases hs
 all_goals exact hs
section
variable {FT:zzA} {HK:zzH} {E:Env} {h hb:Qa} {K:Env->Qa->Prop} {d:Option Nat} {r:List AOp} {x lo hi:AO}
theorem Qlb{a b z0 z1:SV}(hx:ev E x=some (.agg [a,b]))(hw:Qk FT HK r (Qw d (some (.sc (.slc h.length 0 1 (some 1)))) E) (h++[.cells [a,b] true 2]) K):Qk FT HK (⟨d,.bsl 2 [z0,z1] 1 [(0,x)],none⟩::r) E h K:=by
 refine Xi (v:=some (.sc (.slc h.length 0 1 (some 1)))) (h':=h++[.cells [a,b] true 2]) rfl rfl ?_ hw
 simp[Ql,Yk,hx,AV.cells,ZA,rep,Xf,ez2]
theorem Qgv{s:SV}{ps:List P2}{u:Int}(he:Ext hb h)(hs:IsD hb s ps)(hx:evS E x=some s)(hh:evS E hi=some (.int .i64 u))(hu:0<=u/\u<=ps.length)
  (hw:∀ s',IsD hb s' (ps.take u.toNat)->Qk FT HK r (Qw d (some (.sc s')) E) h K):Qk FT HK (⟨d,.sl 2 x none (some hi),none⟩::r) E h K:=by
 obtain⟨s',h1,h2⟩:=prsTo (u:=u.toNat) hs (by omega)
 refine Xi (v:=some (.sc s')) (h':=h) rfl rfl ?_ (hw s' h2)
 simp[Ql,hx,hh,hs.len,bnd,UC he h1,hu.1]
theorem QcM{s:SV}{ps:List P2}{l:Int}(he:Ext hb h)(hs:IsD hb s ps)(hx:evS E x=some s)(hh:evS E lo=some (.int .i64 l))(hl:0<=l/\l<=ps.length)
  (hw:∀ s',IsD hb s' (ps.drop l.toNat)->Qk FT HK r (Qw d (some (.sc s')) E) h K):Qk FT HK (⟨d,.sl 2 x (some lo) none,none⟩::r) E h K:=by
 obtain⟨s',h1,h2⟩:=Qiu (l:=l.toNat) hs (by omega)
 refine Xi (v:=some (.sc s')) (h':=h) rfl rfl ?_ (hw s' h2)
 simp[Ql,hx,hh,hs.len,bnd,UC he h1,hl.1]
end
def wp(u:Tm):P2:=(nh u.2,nl u.2)
def ngT(t:Tm):Tm:=(t.1,-t.2)
def ngP(p:Pol):Pol:=⟨p.big,p.ts.map ngT⟩
structure St48(h0 h:Qa)(q1 q2 q3:Nat)(b:Bool)(s so:SV)(r:List Tm):Prop where
 e:Ext h0 h
 c1:Cel h q1 s (.bool b)
 c2:Cel h q2 .nilS (.bool false)
 c3:Cel h q3 so (.bool b)
 o:OwnD h0 h so (tms r)
 l:h0.length<=q1/\q1<q2/\q2<q3
structure Sm2(h:Qa)(sx st:SV)(M:List Tm)(n B:Nat):Prop where
 x:IsInts h sx (M.map (·.1))
 t:IsD h st (M.map wp)
 len:M.length<=n
 bd:∀ u∈M,u.2.natAbs<=n*B
structure St49(h0 h:Qa)(q2 q3 q4:Nat)(s t:SV)(bp bq:Bool):Prop where
 e:Ext h0 h
 c2:Cel h q2 s (.bool bp)
 c3:Cel h q3 t (.bool bq)
 c4:Cel h q4 .nilS (.bool false)
structure St49b(h0 h:Qa)(q3 q4:Nat)(t:SV)(bq:Bool):Prop where
 e:Ext h0 h
 c3:Cel h q3 t (.bool bq)
 c4:Cel h q4 .nilS (.bool false)
def V1(_ b:Int):Int := -b
theorem wop56:Wop 61 V1:=fun h0 a b ha hb=>by
 simp only[cM]at ha hb
 refine⟨?_,by unfold V1;omega⟩
 refine Cal.of (F:=a61) rfl rfl rfl ?_
 repeat' first|apply Qh|apply Qc|apply Qs|apply Qf|(apply Qe;refine Qp rfl ?_)|(apply Qb;first|refine Qn rfl ?_|refine Zy rfl (by omega) ?_)
 exact⟨.inr rfl,rfl,rfl⟩
noncomputable def QeR(q:Pol):Pol:=ZQ V1 Yf q
theorem QlI(h0:Qa)(sp:SV)(p:Pol)(hp:IsD h0 sp (tms p.ts))(kp:Pok p) :
  ∃ r h',Cal FT HKt 24 [.agg [.bool p.big,sp]] h0 r h'/\Ext h0 h'/\Z5 h' r (QeR p):=by
 refine Cal.of (F:=a24) rfl rfl rfl ?_
 have k53:=fun H (e:Ext h0 H)=>Qi4 wop56 rfl H .nilS sp Yf p (IsD.nil H) (hp.ext e) JS kp
 unfold QeR
 generalize ZQ V1 Yf p=D at *
 repeat' first|apply Qh|apply Qc|apply Qs|apply Qf|(apply Qe;first|refine Qp rfl ?_|refine Qx rfl rfl ?_)|(apply Qb;first|(have z:=e1;apply QQ;intro h2 e2 c2;have d1:=c1.ext e2;have x2:=e1.trans e2)|(refine Qr rfl ?_;intro h1 e1 c1)|refine Qv rfl d1 ?_|(refine Xp rfl rfl ?_)|(refine Qd rfl (k53 h2 x2) ?_;rintro r h3 ⟨e3,s,rfl,is⟩;have c2_3:=c2.ext e3)|(refine QZ rfl rfl c2_3 ?_;intro h4 w4))
 exact⟨.inr rfl,QY rfl w4.cel.read ⟨w4.ext (x2.trans e3) e1.len,s,rfl,is.wrC w4⟩⟩
theorem Qkb(g:Int->Int)(q:List Tm):S g (mG V1 [] q) = - S g q:=by
 unfold mG
 rw[Vm (x:=0) (y := -1) (fun a b=>by unfold V1;omega)];omega
theorem QaY{p q:Pol}(bp:p.big=false)(bq:q.big=false):Y7 p q=open Classical in if qW (mA p.ts q.ts) then ⟨false,mA p.ts q.ts⟩ else YI:=by
 unfold Y7;rw[if_neg (by simp[bp,bq])]
theorem QgZ{w:Int->Int->Int}{p q:Pol}(bp:p.big=false)(bq:q.big=false):ZQ w p q=open Classical in if qW (mG w p.ts q.ts) then ⟨false,mG w p.ts q.ts⟩ else YI:=by
 unfold ZQ;rw[if_neg (by simp[bp,bq])]
theorem Qfb{w:Int->Int->Int}(q:Pol):ZQ w q YI=YI:=by unfold ZQ;rw[if_pos (.inr rfl)]
theorem Qge{p q:Pol}(kp:Pok p)(kq:Pok q)(bp:p.big=false)(bq:q.big=false)(hp:Bd 524288 p.ts)(hq:Bd 524288 q.ts) :
  ∃ L,Can L/\(∀ g,S g L=S2 g p.ts q.ts)/\(Y6 p q=open Classical in if ∀ t∈L,t.2.natAbs<=cM then ⟨false,L⟩ else YI):=by
 by_cases h0:p.ts=[]∨q.ts=[]
 ·refine⟨[],.nil,fun g=>?_,?_⟩
  ·rcases h0 with h|h
   ·rw[h];rfl
   ·rw[h]
    unfold S2
    exact(qo _).symm
  ·unfold Y6
   rw[if_neg (by simp[bp,bq]),if_pos h0,if_pos (by simp)]
 ·have h1:p.ts≠[]:=fun h=>h0 (.inl h)
  have h2:q.ts≠[]:=fun h=>h0 (.inr h)
  obtain⟨a,b⟩:=hp.lh h1
  obtain⟨c,d⟩:=hq.lh h2
  refine⟨Qbx p.ts q.ts (qH p.ts q.ts) (Z8 p.ts q.ts),qz _ _ _,fun g=>QhD (Qat kp.can kq.can) g,?_⟩
  unfold Y6
  rw[if_neg (by simp[bp,bq]),if_neg h0,if_neg (by unfold qH;omega)]
theorem Bd.mono{j k:Nat}{l:List Tm}(h:Bd j l)(hk:j<=k):Bd k l:=fun t ht=>Gh (h t ht) hk
theorem QkZ{q:Pol}(kq:Pok q)(bq:q.big=false):QeR q=⟨false,mG V1 [] q.ts⟩:=by
 unfold QeR
 rw[QgZ rfl bq,if_pos]
 intro t ht
 have h1:=YQ (Zo .nil kq.can) ht
 have h2:cf (mrg V1 [] q.ts) t.1 = - cf q.ts t.1:=Qkb _ _
 rw[h2]at h1
 have:=Vd kq.can kq.cf t.1
 omega
end Go.Proofs.YtofknpknogfijaaGreatDoor
namespace Go.Proofs.YtofknpknogfijaaGreatDoor
set_option linter.all false
variable [HB]
theorem S_ng(g:Int->Int):∀ l:List Tm,S g (l.map ngT) = - S g l
 | []=>rfl
 | t::l=>by
  simp only[List.map_cons,S,ngT]
  rw[S_ng g l,Int.neg_mul];omega
theorem Qc0{l:List Tm}(h:Can l):Can (l.map ngT) :=
 ⟨List.pairwise_map.2 (h.asc.imp fun {x y} hxy=>hxy),fun t ht=>by
  obtain⟨u,hu,rfl⟩:=List.mem_map.1 ht
  have:=h.nz u hu
  show -u.2≠0
  omega⟩
theorem QiG{q:Pol}(k:Pok q):QeR q=ngP q:=by
 cases hb:q.big with
 | true =>
  have:=QlR k hb
  rw[this]
  unfold QeR;rw[Qfb];rfl
 | false =>
  rw[QkZ k hb]
  have e:mG V1 [] q.ts=q.ts.map ngT:=Can.ext (Zo .nil k.can) (Qc0 k.can) fun e=>by
   show S (dl e) _=S (dl e) _
   rw[Qkb,S_ng]
  rw[e];unfold ngP;rw[hb]
theorem QkY{q:Pol}(k:Pok q):Pok (ngP q):=by
 refine⟨fun h=>?_,Qc0 k.can,fun t ht=>?_,fun t ht=>?_⟩
 ·have:=k.big h
  show q.ts.map ngT=[]
  rw[this];rfl
 ·obtain⟨u,hu,rfl⟩:=List.mem_map.1 (show t∈q.ts.map ngT from ht)
  have:=k.cf u hu
  show (-u.2).natAbs<=cM
  omega
 ·obtain⟨u,hu,rfl⟩:=List.mem_map.1 (show t∈q.ts.map ngT from ht)
  exact k.ex u hu
theorem QcJ(l:List Tm):lo0 (l.map ngT)=lo0 l:=by cases l <;> rfl
def hd0(l:List Tm):Int:=match l with
 | []=>0
 | t::_=>t.2
theorem Qg3{l:List Tm}(h:Can l):cf l (lo0 l)=hd0 l:=by
 cases l with
 | nil=>rfl
 | cons t r=>exact h.cf_head
def shT(l:List Tm):List Tm:=l.map fun t=>(t.1-lo0 l,t.2)
def sgT(l:List Tm):List Tm:=if hd0 l<0 then l.map ngT else l
def XP(p:Pol):Pol:=if p.big=true∨p.ts=[] then p else ⟨false,shT (sgT p.ts)⟩
theorem UY(l:List Tm):lo0 (sgT l)=lo0 l:=by unfold sgT;split;exact QcJ l;rfl
theorem Qg4{l:List Tm}(h:Can l):Can (sgT l):=by unfold sgT;split;exact Qc0 h;exact h
theorem Qlp{l:List Tm}(h:Can l):Can (shT l) :=
 ⟨List.pairwise_map.2 (h.asc.imp fun {x y} hxy=>by simp only;omega),fun t ht=>by
  obtain⟨u,hu,rfl⟩:=List.mem_map.1 ht
  exact h.nz u hu⟩
def Sml(p:Pol):Prop:=∀ t∈p.ts,t.1.natAbs<=300
theorem UD{l:List Tm}{t:Tm}(h:t∈sgT l):∃ u∈l,u.1=t.1/\u.2.natAbs=t.2.natAbs:=by
 unfold sgT at h
 split at h
 ·obtain⟨u,hu,rfl⟩:=List.mem_map.1 h
  exact⟨u,hu,rfl,by simp[ngT]⟩
 ·exact⟨t,h,rfl,rfl⟩
theorem Qgc{p:Pol}(k:Pok p)(s:Sml p):Pok (XP p):=by
 unfold XP
 split
 ·exact k
 ·rename_i hn
  refine⟨by simp,Qlp (Qg4 k.can),fun t ht=>?_,fun t ht=>?_⟩
  ·obtain⟨u,hu,rfl⟩:=List.mem_map.1 (show t∈(sgT p.ts).map _ from ht)
   obtain⟨v,hv,e1,e2⟩:=UD hu
   have:=k.cf v hv
   show u.2.natAbs<=cM
   omega
  ·obtain⟨u,hu,rfl⟩:=List.mem_map.1 (show t∈(sgT p.ts).map _ from ht)
   obtain⟨v,hv,e1,e2⟩:=UD hu
   have:=s v hv
   obtain⟨w,hw,e3⟩:=X7 (p:=p.ts) (fun e=>hn (.inr e))
   have:=s w hw
   show (u.1-lo0 (sgT p.ts)).natAbs<=eM
   rw[UY]
   simp only[eM];omega
theorem QiF{p:Pol}(k:Pok p):(XP p).ts.length=p.ts.length:=by
 unfold XP
 split
 ·rfl
 ·show (shT (sgT p.ts)).length=_
  unfold shT sgT
  split <;> simp
theorem QiE{p:Pol}(k:Pok p)(s:Sml p)(hb:p.big=false)(h0:p.ts≠[]):UX (fun e=>e + -lo0 p.ts) true ⟨false,sgT p.ts⟩=XP p:=by
 have e:XP p=⟨false,shT (sgT p.ts)⟩:=by unfold XP;rw[if_neg (by rw[hb];simp[h0])]
 rw[e,Qbz rfl fun t ht=>?_]
 ·congr 1
  unfold mvL shT
  rw[if_pos rfl,UY]
  rfl
 ·obtain⟨v,hv,e1,e2⟩:=UD ht
  have:=s v hv
  obtain⟨w,hw,e3⟩:=X7 h0
  have:=s w hw
  show (t.1 + -lo0 p.ts).natAbs<=eM
  simp only[eM];omega
theorem QjE(l:List Tm):¬ hd0 (sgT l)<0:=by
 unfold sgT
 split
 ·rename_i h
  cases l with
  | nil=>simp[hd0]
  | cons t r=>show ¬ -t.2<0;have:t.2<0:=h;omega
 ·assumption
theorem sg_sh(l:List Tm):sgT (shT l)=shT (sgT l):=by
 unfold sgT
 have e:hd0 (shT l)=hd0 l:=by cases l <;> rfl
 rw[e]
 split
 ·unfold shT
  rw[QcJ,List.map_map,List.map_map]
  rfl
 ·rfl
theorem sg_sg(l:List Tm):sgT (sgT l)=sgT l:=by
 show (if hd0 (sgT l)<0 then (sgT l).map ngT else sgT l)=sgT l
 rw[if_neg (QjE l)]
theorem sh_sh(l:List Tm):shT (shT l)=shT l:=by
 have e:lo0 (shT l)=0:=by
  cases l with
  | nil=>rfl
  | cons t r=>show t.1-t.1=0;omega
 show (shT l).map (fun t=>(t.1-lo0 (shT l),t.2))=shT l
 rw[e]
 simp
theorem QdH(p:Pol):XP (XP p)=XP p:=by
 by_cases h:p.big=true∨p.ts=[]
 ·have e:XP p=p:=by unfold XP;rw[if_pos h]
  rw[e,e]
 ·have e:XP p=⟨false,shT (sgT p.ts)⟩:=by unfold XP;rw[if_neg h]
  rw[e]
  unfold XP
  split
  ·rfl
  ·rw[sg_sh,sg_sg,sh_sh]
open Go.Ab
set_option maxHeartbeats 16000000
set_option maxRecDepth 20000
attribute [local irreducible] Qk wA Xv Xs QC Qu QP Q6
theorem QiL{h0:Qa}{q:Nat}{b:Int}(c:Cel1 h0 q (.int .i64 b))(hb:b.natAbs<=2097152):QhG h0 64 [(q,0)] fun e=>e+b:=fun H he e hx=>by
 simp only[eM]at hx
 have c1:=c.ext he
 refine Cal.of (F:=a64) rfl rfl rfl ?_
 repeat' first|apply Qh|apply Qc|apply Qs|apply Qf|(apply Qe;first|refine Qp rfl ?_|refine Qx rfl rfl ?_)|(apply Qb;first|refine X5 rfl c1.at rfl ?_|refine Qn rfl ?_|refine Q1 rfl rfl (by omega) ?_)
 exact⟨.inr rfl,rfl,rfl⟩
theorem QiH(b:Int):Mvf (fun e=>e+b) true:=fun x y h=>by simp;omega
theorem Qhc(h0:Qa)(sp:SV)(p:Pol)(hp:IsD h0 sp (tms p.ts))(kp:Pok p)(b:Int)(hb:b.natAbs<=2097152) :
  ∃ r h',Cal FT HKt 28 [.agg [.bool p.big,sp],.sc (.int .i64 b)] h0 r h'/\Ext h0 h'/\Z5 h' r (UX (fun e=>e+b) true p):=by
 refine Cal.of (F:=a28) rfl rfl rfl ?_
 have k57:=fun H (e:Ext h0 H) q (c:Cel1 H q (.int .i64 b))=>QlB H sp p (hp.ext e) kp (fun e=>e+b) true (QiH b) 64 [(q,0)] (QiL c hb)
 have k35:=fun H=>Zl H b 2097152 (by omega)
 have e6:((2097152:Int)).toNat=2097152:=rfl
 rw[e6,decide_eq_true hb]at k35
 generalize UX (fun e=>e+b) true p=D at *
 repeat' first|apply Qh|apply Qc|apply Qm|apply Qs|apply Qf|(apply Qg;refine Qj rfl ?_)|(apply Qe;first|refine Qp rfl ?_|refine Qq rfl rfl rfl ?_|refine QA rfl rfl rfl rfl ?_)|(apply Qb;first|(have z:=e2;apply QQ;intro h3 e3 c3;have d1:=(c1.ext e2).ext e3;have d2:=Cel1.ext c2 e3;have x3:=e1.trans (e2.trans e3))|(have z:=e1;refine qU rfl ?_;intro h2 e2 c2)|(refine Qr rfl ?_;intro h1 e1 c1)|refine X5 rfl d2.at rfl ?_|(refine Qd rfl (k35 _) ?_;rintro r _ ⟨rfl,rfl⟩)|refine Qv rfl d1 ?_|(refine Qd rfl (k57 _ x3 _ d2) ?_;rintro r h4 ⟨e4,s,rfl,is⟩;have c3_4:=c3.ext e4)|(refine QZ rfl rfl c3_4 ?_;intro h5 w5)|refine Xa rfl ?_|refine Qn rfl ?_|refine Qy rfl rfl ?_|refine XX rfl ?_|refine Xt rfl rfl ?_)
 exact⟨.inr rfl,QY rfl w5.cel.read ⟨w5.ext (x3.trans e4) (Gh e1.len e2.len),s,rfl,is.wrC w5⟩⟩
theorem Vf(h0:Qa)(sp:SV)(p:Pol)(hp:IsD h0 sp (tms p.ts))(kp:Pok p)(hs:Sml p)(hl:p.ts.length<=1000000) :
  ∃ r h',Cal FT HKt 25 [.agg [.bool p.big,sp]] h0 r h'/\Ext h0 h'/\Z5 h' r (XP p):=by
 refine Cal.of (F:=a25) rfl rfl rfl ?_
 have k39:=fun H=>zx H p.big sp
 have k14:=fun H (e:Ext h0 H)=>zy H p.big sp p.ts (hp.ext e)
 cases hb:p.big with
 | true =>
  rw[hb]at k39 k14
  have hn:XP p=p:=by unfold XP;rw[if_pos (.inl hb)]
  rw[hn]
  repeat' first|apply Qh|apply Qc|apply QD|apply Qs|apply Qf|(apply Qg;refine Qi rfl ?_)|(apply Qe;first|refine Qp rfl ?_|refine Qx rfl rfl ?_|refine Qq rfl rfl rfl ?_)|(apply Qb;first|(have z:=e1;apply QQ;intro h2 e2 c2;have c1':=c1.ext e2)|(refine Qr rfl ?_;intro h1 e1 c1)|(refine Qd rfl (k39 _) ?_;rintro r h3 ⟨e3,rfl⟩;replace c1':=c1'.ext e3;replace c2:=c2.ext e3)|refine Qv rfl c1' ?_|(refine QZ rfl rfl c2 ?_;intro h5 w5)|refine Xa rfl ?_|refine Qn rfl ?_|refine QK rfl rfl ?_)
  exact⟨.inr rfl,QY rfl w5.cel.read ⟨w5.ext ((e1.trans e2).trans e3) e1.len,sp,by rw[hb],(((hp.ext e1).ext e2).ext e3).wrC w5⟩⟩
 | false =>
  rw[hb]at k39 k14
  by_cases hz:p.ts=[]
  ·have hn:XP p=p:=by unfold XP;rw[if_pos (.inr hz)]
   rw[hn]
   simp only[hz,decide_true,Bool.not_false,Bool.and_true]at k14
   repeat' first|apply Qh|apply Qc|apply QD|apply Qs|apply Qf|(apply Qg;refine Qi rfl ?_)|(apply Qe;first|refine Qp rfl ?_|refine Qx rfl rfl ?_|refine Qq rfl rfl rfl ?_)|(apply Qb;first|(have z:=e1;apply QQ;intro h2 e2 c2;have c1':=c1.ext e2;have x:=e1.trans e2)|(refine Qr rfl ?_;intro h1 e1 c1)|(refine Qd rfl (k39 _) ?_;rintro r h3 ⟨e3,rfl⟩;replace c1':=c1'.ext e3;replace c2:=c2.ext e3;replace x:=x.trans e3)|refine Qv rfl c1' ?_|(refine Qd rfl (k14 _ x) ?_;rintro r h4 ⟨e4,rfl⟩;replace c1':=c1'.ext e4;replace c2:=c2.ext e4;replace x:=x.trans e4)|(refine QZ rfl rfl c2 ?_;intro h5 w5)|refine QE rfl ?_|refine Qn rfl ?_|refine Qy rfl rfl ?_)
   exact⟨.inr rfl,QY rfl w5.cel.read ⟨w5.ext x e1.len,sp,by rw[hb],(hp.ext x).wrC w5⟩⟩
  ·simp only[hz,decide_false,Bool.and_false]at k14
   have k53:=fun H (e:Ext h0 H)=>Y2 H false sp p.ts (hp.ext e)
   have k62:=fun H (e:Ext h0 H)=>Qc4 H false sp p.ts (lo0 p.ts) (hp.ext e) kp.can (by omega)
   rw[Qg3 kp.can]at k62
   have k24:=fun H (e:Ext h0 H)=>QlI H sp p (hp.ext e) kp
   rw[hb]at k24
   have hmov:=QiE kp hs hb hz
   obtain⟨t0,ht0,elo⟩:=X7 hz
   have hlo:=hs t0 ht0
   by_cases hd:hd0 p.ts<0
   ·have hsg:sgT p.ts=p.ts.map ngT:=by unfold sgT;rw[if_pos hd]
    rw[QiG kp]at k24
    have hng:ngP p=⟨false,p.ts.map ngT⟩:=by unfold ngP;rw[hb]
    have kn:=QkY kp
    rw[hng]at k24 kn
    rw[hsg]at hmov
    have k53':=fun H s1 (e:IsD H s1 (tms (p.ts.map ngT)))=>Y2 H false s1 (p.ts.map ngT) e
    have k28:=fun H s1 (e:IsD H s1 (tms (p.ts.map ngT)))=>Qhc H s1 ⟨false,p.ts.map ngT⟩ e kn (-lo0 p.ts) (by omega)
    rw[hmov]at k28
    simp only[QcJ]at k53'
    repeat' first|apply Qh|apply Qc|apply Qm|apply Qs|apply Qf|apply QU|apply Xl|apply Xm|(apply Qg;first|refine Qi rfl ?_|refine Qj rfl ?_)|(apply Qe;first|apply QR|apply Xu|refine Ye (by assumption) ?_|refine Qp rfl ?_|refine Qx rfl rfl ?_|refine Qq rfl rfl rfl ?_)|(apply Qb;first|(have z:=e1;apply QQ;intro h2 e2 c2;have c1':=c1.ext e2;have x:=e1.trans e2)|(refine Qr rfl ?_;intro h1 e1 c1;have n1:=c1.lt)|(have z:=w6;refine Qv rfl c6 ?_)|(refine Qd rfl (k39 _) ?_;rintro r h3 ⟨e3,rfl⟩;replace c1':=c1'.ext e3;replace c2:=c2.ext e3;replace x:=x.trans e3)|refine Qv rfl c1' ?_|(refine Qd rfl (k14 _ x) ?_;rintro r h4 ⟨e4,rfl⟩;replace c1':=c1'.ext e4;replace c2:=c2.ext e4;replace x:=x.trans e4)|(refine Qd rfl (k53 _ x) ?_;rintro r h4 ⟨e4,rfl⟩;replace c1':=c1'.ext e4;replace c2:=c2.ext e4;replace x:=x.trans e4)|(refine Qd rfl (k62 _ x) ?_;rintro r h4 ⟨e4,rfl⟩;replace c1':=c1'.ext e4;replace c2:=c2.ext e4;replace x:=x.trans e4)|(refine Qd rfl (k24 _ x) ?_;rintro r h5 ⟨e5,s5,rfl,d5⟩;replace c1':=c1'.ext e5;replace c2:=c2.ext e5;replace x:=x.trans e5)|(refine QZ rfl rfl c1' ?_;intro h6 w6;have c6:=w6.cel;have d6:=d5.wrC w6;replace c2:=w6.keep c2 (by omega);replace x:=w6.ext x (by omega))|(refine Qd rfl (k53' _ _ d6) ?_;rintro r h7 ⟨e7,rfl⟩;replace c6:=c6.ext e7;replace c2:=c2.ext e7;replace d6:=d6.ext e7;replace x:=x.trans e7)|(refine Qd rfl (k28 _ _ d6) ?_;rintro r h8 ⟨e8,s8,rfl,d8⟩;replace c2:=c2.ext e8;replace x:=x.trans e8)|(refine QZ rfl rfl c2 ?_;intro h9 w9)|refine QE rfl ?_|refine Qn rfl ?_|refine Qy rfl rfl ?_|refine Zy rfl (by omega) ?_|refine QH rfl rfl (by omega) ?_)
    exact⟨.inr rfl,QY rfl w9.cel.read ⟨w9.ext x e1.len,s8,rfl,d8.wrC w9⟩⟩
   ·have hsg:sgT p.ts=p.ts:=by unfold sgT;rw[if_neg hd]
    rw[hsg]at hmov
    have hpe:p=⟨false,p.ts⟩:=by obtain⟨b,ts⟩:=p;simp only at hb;subst hb;rfl
    have k28:=fun H (e:Ext h0 H)=>Qhc H sp p (hp.ext e) kp (-lo0 p.ts) (by omega)
    rw[hb]at k28
    rw[← hpe]at hmov
    rw[hmov]at k28
    repeat' first|apply Qh|apply Qc|apply Qm|apply Qs|apply Qf|apply QU|apply Xl|apply Xm|(apply Qg;refine Qj rfl ?_)|(apply Qe;first|apply QR|apply Xu|refine Ye (by assumption) ?_|refine Qp rfl ?_|refine Qx rfl rfl ?_|refine Qq rfl rfl rfl ?_)|(apply Qb;first|(have z:=e1;apply QQ;intro h2 e2 c2;have c1':=c1.ext e2;have x:=e1.trans e2)|(refine Qr rfl ?_;intro h1 e1 c1)|(refine Qd rfl (k39 _) ?_;rintro r h3 ⟨e3,rfl⟩;replace c1':=c1'.ext e3;replace c2:=c2.ext e3;replace x:=x.trans e3)|refine Qv rfl c1' ?_|(refine Qd rfl (k14 _ x) ?_;rintro r h4 ⟨e4,rfl⟩;replace c1':=c1'.ext e4;replace c2:=c2.ext e4;replace x:=x.trans e4)|(refine Qd rfl (k53 _ x) ?_;rintro r h4 ⟨e4,rfl⟩;replace c1':=c1'.ext e4;replace c2:=c2.ext e4;replace x:=x.trans e4)|(refine Qd rfl (k62 _ x) ?_;rintro r h4 ⟨e4,rfl⟩;replace c1':=c1'.ext e4;replace c2:=c2.ext e4;replace x:=x.trans e4)|(refine Qd rfl (k28 _ x) ?_;rintro r h8 ⟨e8,s8,rfl,d8⟩;replace c2:=c2.ext e8;replace x:=x.trans e8)|(refine QZ rfl rfl c2 ?_;intro h9 w9)|refine QE rfl ?_|refine Qn rfl ?_|refine Qy rfl rfl ?_|refine Zy rfl (by omega) ?_|refine QW rfl rfl (by omega) ?_)
    exact⟨.inr rfl,QY rfl w9.cel.read ⟨w9.ext x e1.len,s8,rfl,d8.wrC w9⟩⟩
theorem QiB{a:Int}(h:a.natAbs<=1000):ofP a [1]=⟨false,[(a,1)]⟩:=by
 unfold ofP
 have e:ofN a [1] 1=some [(a,1)]:=by
  show (some []).bind _=_
  rw[Gi,if_neg (by decide),if_pos ⟨by decide,by simp only[eM];omega,by simp only[eM];omega⟩]
  simp
 show (match ofN a [1] 1 with|some r=>(⟨false,r⟩:Pol)|none=>YI)=_
 rw[e]
section
variable {FT:zzA} {HK:zzH} {E:Env} {h:Qa} {K:Env->Qa->Prop} {d:Option Nat} {r:List AOp} {xo:AO}
theorem Qgz{x:Int}{z0:SV}(hx:ev E xo=some (.sc (.int .i64 x)))(hw:∀ h1,Ext h h1->IsInts h1 (.slc h.length 0 1 (some 1)) [x]->Qk FT HK r (Qw d (some (.sc (.slc h.length 0 1 (some 1)))) E) h1 K) :
  Qk FT HK (⟨d,.bsl 1 [z0] 1 [(0,xo)],none⟩::r) E h K :=
 Qlc hx (hw _ ⟨_,rfl⟩ (IsInts.lit rfl rfl))
end
end Go.Proofs.YtofknpknogfijaaGreatDoor
namespace Go.Proofs.YtofknpknogfijaaGreatDoor
open Go.Shelf Go.RowKit Go.Maps Go.Sort
def VP:Go.Shelf.Ren:=⟨fun|7=>86|10=>116|n=>n,fun|23=>135|26=>3|3=>101|28=>138|0=>0|27=>137|33=>172|4=>4|n=>n,fun|n=>n⟩
theorem Qjx:Go.Proofs.SlLaysZI.n7 Tryz.prog VP:={
 mixed:=by kernel_rfl
 f7:=⟨Tryz.f86.name,by decide,Tryz.func86.trans (congrArg some (by kernel_rfl))⟩
 f10:=⟨Tryz.f116.name,by decide,Tryz.func116.trans (congrArg some (by kernel_rfl))⟩
 t0:=Tryz.underlying0
 a0:=Tryz.isAgg0
 z0:=Tryz.sizeOf0
 v0:=Tryz.zeroValue0
 t4:=Tryz.underlying4
 a4:=Tryz.isAgg4
 z4:=Tryz.sizeOf4
 v4:=Tryz.zeroValue4
 t23:=Tryz.underlying135
 a23:=Tryz.isAgg135
 z23:=Tryz.sizeOf135
 v23:=Tryz.zeroValue135
 t26:=Tryz.underlying3
 a26:=Tryz.isAgg3
 z26:=Tryz.sizeOf3
 v26:=Tryz.zeroValue3
 t27:=Tryz.underlying137
 a27:=Tryz.isAgg137
 z27:=Tryz.sizeOf137
 v27:=Tryz.zeroValue137
 t28:=Tryz.underlying138
 a28:=Tryz.isAgg138
 z28:=Tryz.sizeOf138
 v28:=Tryz.zeroValue138
 t33:=Tryz.underlying172
 a33:=Tryz.isAgg172
 z33:=Tryz.sizeOf172
 v33:=Tryz.zeroValue172 }
def zG:Go.Shelf.Ren:=⟨fun|6=>85|8=>114|9=>115|11=>136|13=>128|12=>137|23=>140|24=>139|14=>146|15=>147|16=>148|17=>149|18=>150|19=>151|20=>152|21=>153|22=>154|25=>156|26=>157|27=>158|28=>159|29=>160|30=>117|31=>161|n=>n,fun|26=>3|28=>138|24=>42|0=>0|3=>3|37=>159|48=>190|50=>99|4=>4|40=>197|39=>196|45=>104|5=>5|9=>9|51=>203|55=>207|57=>210|58=>211|33=>172|n=>n,fun|n=>n⟩
theorem QhY:Go.Proofs.SlLaysZI.n6 Tryz.prog zG:={
 mixed:=by kernel_rfl
 f6:=⟨Tryz.f85.name,by decide,Tryz.func85.trans (congrArg some (by kernel_rfl))⟩
 f8:=⟨Tryz.f114.name,by decide,Tryz.func114.trans (congrArg some (by kernel_rfl))⟩
 f11:=⟨Tryz.f136.name,by decide,Tryz.func136.trans (congrArg some (by kernel_rfl))⟩
 t0:=Tryz.underlying0
 a0:=Tryz.isAgg0
 z0:=Tryz.sizeOf0
 v0:=Tryz.zeroValue0
 t24:=Tryz.underlying42
 a24:=Tryz.isAgg42
 z24:=Tryz.sizeOf42
 v24:=Tryz.zeroValue42
 t26:=Tryz.underlying3
 a26:=Tryz.isAgg3
 z26:=Tryz.sizeOf3
 v26:=Tryz.zeroValue3
 t28:=Tryz.underlying138
 a28:=Tryz.isAgg138
 z28:=Tryz.sizeOf138
 v28:=Tryz.zeroValue138
 i26:=by kernel_rfl }
def Qev:Go.Shelf.Ren:=⟨fun|5=>115|8=>128|7=>137|19=>140|20=>139|10=>146|11=>147|12=>148|13=>149|14=>150|15=>151|16=>152|17=>153|18=>154|30=>156|31=>157|32=>158|33=>159|34=>160|35=>117|40=>161|n=>n,fun|23=>42|25=>3|3=>3|32=>159|22=>42|0=>0|44=>190|46=>99|4=>4|36=>197|35=>196|41=>104|5=>5|9=>9|53=>203|57=>207|63=>210|64=>211|n=>n,fun|n=>n⟩
theorem Qjl:Go.Proofs.SlLaysM.n5 Tryz.prog Qev:={
 mixed:=by kernel_rfl
 f5:=⟨Tryz.f115.name,by decide,Tryz.func115.trans (congrArg some (by kernel_rfl))⟩
 f7:=⟨Tryz.f137.name,by decide,Tryz.func137.trans (congrArg some (by kernel_rfl))⟩
 f8:=Tryz.func128.trans (congrArg some (by kernel_rfl))
 f10:=⟨Tryz.f146.name,by decide,Tryz.func146.trans (congrArg some (by kernel_rfl))⟩
 f11:=⟨Tryz.f147.name,by decide,Tryz.func147.trans (congrArg some (by kernel_rfl))⟩
 f12:=⟨Tryz.f148.name,by decide,Tryz.func148.trans (congrArg some (by kernel_rfl))⟩
 f13:=⟨Tryz.f149.name,by decide,Tryz.func149.trans (congrArg some (by kernel_rfl))⟩
 f14:=⟨Tryz.f150.name,by decide,Tryz.func150.trans (congrArg some (by kernel_rfl))⟩
 f15:=⟨Tryz.f151.name,by decide,Tryz.func151.trans (congrArg some (by kernel_rfl))⟩
 f16:=⟨Tryz.f152.name,by decide,Tryz.func152.trans (congrArg some (by kernel_rfl))⟩
 f17:=⟨Tryz.f153.name,by decide,Tryz.func153.trans (congrArg some (by kernel_rfl))⟩
 f18:=⟨Tryz.f154.name,by decide,Tryz.func154.trans (congrArg some (by kernel_rfl))⟩
 f19:=Tryz.func140.trans (congrArg some (by kernel_rfl))
 f20:=Tryz.func139.trans (congrArg some (by kernel_rfl))
 f30:=⟨Tryz.f156.name,by decide,Tryz.func156.trans (congrArg some (by kernel_rfl))⟩
 f31:=Tryz.func157.trans (congrArg some (by kernel_rfl))
 f32:=Tryz.func158.trans (congrArg some (by kernel_rfl))
 f33:=⟨Tryz.f159.name,by decide,Tryz.func159.trans (congrArg some (by kernel_rfl))⟩
 f34:=⟨Tryz.f160.name,by decide,Tryz.func160.trans (congrArg some (by kernel_rfl))⟩
 f35:=⟨Tryz.f117.name,by decide,Tryz.func117.trans (congrArg some (by kernel_rfl))⟩
 f40:=⟨Tryz.f161.name,by decide,Tryz.func161.trans (congrArg some (by kernel_rfl))⟩
 t0:=Tryz.underlying0
 a0:=Tryz.isAgg0
 z0:=Tryz.sizeOf0
 v0:=Tryz.zeroValue0
 t3:=Tryz.underlying3
 a3:=Tryz.isAgg3
 z3:=Tryz.sizeOf3
 v3:=Tryz.zeroValue3
 t4:=Tryz.underlying4
 a4:=Tryz.isAgg4
 z4:=Tryz.sizeOf4
 v4:=Tryz.zeroValue4
 t5:=Tryz.underlying5
 a5:=Tryz.isAgg5
 z5:=Tryz.sizeOf5
 v5:=Tryz.zeroValue5
 t9:=Tryz.underlying9
 a9:=Tryz.isAgg9
 z9:=Tryz.sizeOf9
 v9:=Tryz.zeroValue9
 t22:=Tryz.underlying42
 a22:=Tryz.isAgg42
 z22:=Tryz.sizeOf42
 v22:=Tryz.zeroValue42
 t23:=Tryz.underlying42
 a23:=Tryz.isAgg42
 z23:=Tryz.sizeOf42
 v23:=Tryz.zeroValue42
 t25:=Tryz.underlying3
 a25:=Tryz.isAgg3
 z25:=Tryz.sizeOf3
 v25:=Tryz.zeroValue3
 t32:=Tryz.underlying159
 a32:=Tryz.isAgg159
 z32:=Tryz.sizeOf159
 v32:=Tryz.zeroValue159
 t35:=Tryz.underlying196
 a35:=Tryz.isAgg196
 z35:=Tryz.sizeOf196
 v35:=Tryz.zeroValue196
 t36:=Tryz.underlying197
 a36:=Tryz.isAgg197
 z36:=Tryz.sizeOf197
 v36:=Tryz.zeroValue197
 t41:=Tryz.underlying104
 a41:=Tryz.isAgg104
 z41:=Tryz.sizeOf104
 v41:=Tryz.zeroValue104
 t44:=Tryz.underlying190
 a44:=Tryz.isAgg190
 z44:=Tryz.sizeOf190
 v44:=Tryz.zeroValue190
 t46:=Tryz.underlying99
 a46:=Tryz.isAgg99
 z46:=Tryz.sizeOf99
 v46:=Tryz.zeroValue99
 t53:=Tryz.underlying203
 a53:=Tryz.isAgg203
 z53:=Tryz.sizeOf203
 v53:=Tryz.zeroValue203
 t57:=Tryz.underlying207
 a57:=Tryz.isAgg207
 z57:=Tryz.sizeOf207
 v57:=Tryz.zeroValue207
 t63:=Tryz.underlying210
 a63:=Tryz.isAgg210
 z63:=Tryz.sizeOf210
 v63:=Tryz.zeroValue210
 t64:=Tryz.underlying211
 a64:=Tryz.isAgg211
 z64:=Tryz.sizeOf211
 v64:=Tryz.zeroValue211 }
theorem Qku(m:Nat):AnyZI.SortsIn Tryz.prog zG Fence.wide m :=
 ⟨fun blk off cap ss W hH hblk hsz => callsIn_wide.2 (AnyM.slices_Sort_int Qjl blk off cap ss W hH hblk hsz),
  fun p cap W=>callsIn_wide.2 (AnyM.slices_Sort_int_none Qjl p cap W)⟩
theorem VO(mb:Option Nat)(w:World):Calls Tryz.prog 86 #[.map mb] w fun e w'=>e = .returned (.func (.func 116) #[] #[.pointer (some ⟨w.heap.size,0,none⟩)])/\w'=w.alloc (.cells #[.map mb] 135) :=
 (callsIn_wide (n:=5)).1 (AnyZI.keys_in Qjx Fence.wide 5 trivial rfl mb w)
theorem zE(b Bm nn:Nat)(D0:DataW Unit)(R:Value->Option (DataW Unit×List MemPlace))(w:World)(h1:Bm<w.heap.size)(h2:w.cell? ⟨Bm,0,none⟩=some (.map (some b)))(hown:w.ownsMap Tryz.prog 3 R b nn D0)(hmax:Go.Maps.size D0<=maxLen)(hbytes:Go.Maps.size D0*8<=140737488355328) :
  Calls Tryz.prog 85 #[.func (.func 116) #[] #[.pointer (some ⟨Bm,0,none⟩)]] w fun e w'=>∃(v:Value) (ss:List Int),e = .returned v/\ss.Perm (intKeys D0) ∧
   w'.ownsRow w.heap.size 3 1 v ss.length ((ss.mergeSort fun x y=>decide (x<=y)).map (Value.int .i64))/\(v = .slice none 0 0↔ss=[])/\Below w.heap.size w w':=by
 have hseq:SeqGives Fence.wide 2 Tryz.prog 116 #[.pointer (some ⟨Bm,0,none⟩)] encZ (fun ss=>ss.Perm (intKeys D0)) (Go.Maps.size D0) w :=
  AnyZI.keys_gives (ρ:=VP) { Qjx with } Fence.wide _ trivial rfl (by omega) Bm b nn D0 w h1 h2 hown
 have cS:=AnyZI.sorted_in QhY Fence.wide 5 trivial trivial trivial trivial rfl (by omega) (Qku _) (enters_of Tryz.func115 (by kernel_rfl) rfl) 116 #[.pointer (some ⟨Bm,0,none⟩)] trivial (enters_of Tryz.func116 (by kernel_rfl) rfl) _ _ hmax hbytes w hseq
 exact(callsIn_wide (n:=5)).1 cS
end Go.Proofs.YtofknpknogfijaaGreatDoor
namespace Go.Proofs.YtofknpknogfijaaGreatDoor
open Go.Shelf
def Qay:Go.Shelf.Ren:=⟨fun|171=>43|243=>79|246=>110|283=>132|284=>133|285=>134|286=>135|129=>139|317=>142|318=>143|319=>144|320=>145|337=>155|338=>138|n=>n,fun|3=>3|9=>9|2=>2|4=>4|171=>182|0=>0|53=>99|37=>75|5=>5|173=>184|212=>193|51=>190|20=>20|213=>194|46=>159|232=>209|233=>202|n=>n,fun|17=>2|18=>4|19=>3|n=>n⟩
theorem Qgn:Go.Proofs.LaysM.n171 Tryz.prog Qay:={
 mixed:=by kernel_rfl
 f129:=Tryz.func139.trans (congrArg some (by kernel_rfl))
 f171:=Tryz.func43.trans (congrArg some (by kernel_rfl))
 f243:=Tryz.func79.trans (congrArg some (by kernel_rfl))
 f246:=Tryz.func110.trans (congrArg some (by kernel_rfl))
 f283:=Tryz.func132.trans (congrArg some (by kernel_rfl))
 f284:=Tryz.func133.trans (congrArg some (by kernel_rfl))
 f285:=Tryz.func134.trans (congrArg some (by kernel_rfl))
 f286:=Tryz.func135.trans (congrArg some (by kernel_rfl))
 f317:=Tryz.func142.trans (congrArg some (by kernel_rfl))
 f318:=Tryz.func143.trans (congrArg some (by kernel_rfl))
 f319:=Tryz.func144.trans (congrArg some (by kernel_rfl))
 f320:=Tryz.func145.trans (congrArg some (by kernel_rfl))
 f337:=Tryz.func155.trans (congrArg some (by kernel_rfl))
 f338:=Tryz.func138.trans (congrArg some (by kernel_rfl))
 t0:=Tryz.underlying0
 a0:=Tryz.isAgg0
 z0:=Tryz.sizeOf0
 v0:=Tryz.zeroValue0
 t2:=Tryz.underlying2
 a2:=Tryz.isAgg2
 z2:=Tryz.sizeOf2
 v2:=Tryz.zeroValue2
 t3:=Tryz.underlying3
 a3:=Tryz.isAgg3
 z3:=Tryz.sizeOf3
 v3:=Tryz.zeroValue3
 t4:=Tryz.underlying4
 a4:=Tryz.isAgg4
 z4:=Tryz.sizeOf4
 v4:=Tryz.zeroValue4
 t5:=Tryz.underlying5
 a5:=Tryz.isAgg5
 z5:=Tryz.sizeOf5
 v5:=Tryz.zeroValue5
 t9:=Tryz.underlying9
 a9:=Tryz.isAgg9
 z9:=Tryz.sizeOf9
 v9:=Tryz.zeroValue9
 t20:=Tryz.underlying20
 a20:=Tryz.isAgg20
 z20:=Tryz.sizeOf20
 v20:=Tryz.zeroValue20
 t37:=Tryz.underlying75
 a37:=Tryz.isAgg75
 z37:=Tryz.sizeOf75
 v37:=Tryz.zeroValue75
 t46:=Tryz.underlying159
 a46:=Tryz.isAgg159
 z46:=Tryz.sizeOf159
 v46:=Tryz.zeroValue159
 t51:=Tryz.underlying190
 a51:=Tryz.isAgg190
 z51:=Tryz.sizeOf190
 v51:=Tryz.zeroValue190
 t53:=Tryz.underlying99
 a53:=Tryz.isAgg99
 z53:=Tryz.sizeOf99
 v53:=Tryz.zeroValue99
 t171:=Tryz.underlying182
 a171:=Tryz.isAgg182
 z171:=Tryz.sizeOf182
 v171:=Tryz.zeroValue182
 t173:=Tryz.underlying184
 a173:=Tryz.isAgg184
 z173:=Tryz.sizeOf184
 v173:=Tryz.zeroValue184
 t212:=Tryz.underlying193
 a212:=Tryz.isAgg193
 z212:=Tryz.sizeOf193
 v212:=Tryz.zeroValue193
 t213:=Tryz.underlying194
 a213:=Tryz.isAgg194
 z213:=Tryz.sizeOf194
 t232:=Tryz.underlying209
 a232:=Tryz.isAgg209
 z232:=Tryz.sizeOf209
 v232:=Tryz.zeroValue209
 t233:=Tryz.underlying202
 a233:=Tryz.isAgg202
 z233:=Tryz.sizeOf202
 v233:=Tryz.zeroValue202
 g17:=by kernel_rfl
 g18:=by kernel_rfl
 g19:=by kernel_rfl
 i0:=by kernel_rfl
 i2:=by kernel_rfl
 i3:=by kernel_rfl
 i4:=by kernel_rfl
 i5:=by kernel_rfl
 i9:=by kernel_rfl
 i20:=by kernel_rfl
 i37:=by kernel_rfl
 i46:=by kernel_rfl
 i51:=by kernel_rfl
 i53:=by kernel_rfl
 i171:=by kernel_rfl
 i173:=by kernel_rfl
 i212:=by kernel_rfl
 i232:=by kernel_rfl
 i233:=by kernel_rfl
 m17:=by kernel_rfl
 m18:=by kernel_rfl
 m19:=by kernel_rfl }
open Go.RowKit Go.Sort Go.Lib in
theorem strconv_Itoa(n:Int)(h0 : -9223372036854775808<=n)(h1:n<=9223372036854775807)(w:World)(htab:Lib.TabIs Tryz.prog w "internal/strconv.uint64pow10" .u64 Lib.pow10Tab) :
 Calls Tryz.prog 43 #[.int .i64 n] w fun e w'=>e = .returned (.string ⟨(Lib.itoa n).toArray⟩)/\∃ k os,w'=grow (w.drewN k) os:=Any.strconv_Itoa Qgn n h0 h1 w htab
def Qaz:Go.Shelf.Ren:=⟨fun|29=>138|n=>n,fun|0=>0|3=>3|4=>4|5=>5|22=>99|25=>159|54=>202|n=>n,fun|1=>3|n=>n⟩
theorem Qgo:Go.Proofs.Lays7.n29 Tryz.prog Qaz:={
 mixed:=by kernel_rfl
 f29:=Tryz.func138.trans (congrArg some (by kernel_rfl))
 t0:=Tryz.underlying0
 a0:=Tryz.isAgg0
 z0:=Tryz.sizeOf0
 v0:=Tryz.zeroValue0
 i0:=by kernel_rfl
 t3:=Tryz.underlying3
 a3:=Tryz.isAgg3
 z3:=Tryz.sizeOf3
 v3:=Tryz.zeroValue3
 i3:=by kernel_rfl
 t4:=Tryz.underlying4
 a4:=Tryz.isAgg4
 z4:=Tryz.sizeOf4
 v4:=Tryz.zeroValue4
 i4:=by kernel_rfl
 t5:=Tryz.underlying5
 a5:=Tryz.isAgg5
 z5:=Tryz.sizeOf5
 v5:=Tryz.zeroValue5
 i5:=by kernel_rfl
 t22:=Tryz.underlying99
 a22:=Tryz.isAgg99
 z22:=Tryz.sizeOf99
 v22:=Tryz.zeroValue99
 i22:=by kernel_rfl
 t25:=Tryz.underlying159
 a25:=Tryz.isAgg159
 z25:=Tryz.sizeOf159
 v25:=Tryz.zeroValue159
 i25:=by kernel_rfl
 t54:=Tryz.underlying202
 a54:=Tryz.isAgg202
 z54:=Tryz.sizeOf202
 g1:=by kernel_rfl }
theorem bits_TrailingZeros64(x:Nat)(hx:x<18446744073709551616)(w:World)(hT:x≠0->TabAt 3 Lib.deBruijn64tab w) :
 Calls Tryz.prog 138 #[.int .u64 x] w fun e w'=>e = .returned (.int .i64 (Lib.ctz 64 x))/\w'=w:=Any7.bits_TrailingZeros64 Qgo x hx w hT
end Go.Proofs.YtofknpknogfijaaGreatDoor
namespace Go.Proofs.YtofknpknogfijaaGreatDoor
open Go.Ab
set_option linter.all false
def Qer:List Int:=List.map (fun n:Nat=>(n:Int)) Lib.deBruijn64tab
structure Facts(W:World):Prop where
 pow:Lib.TabIs Tryz.prog W "internal/strconv.uint64pow10" .u64 Lib.pow10Tab
 deb:Lib.TabIs Tryz.prog W "math/bits.deBruijn64tab" .u8 Qer
abbrev BW(W:World):Base:=⟨W.heap.size,W⟩
theorem Qkp{w:World}(h:Lib.TabIs Tryz.prog w "math/bits.deBruijn64tab" .u8 Qer):TabAt 3 Lib.deBruijn64tab w:=fun j hj=>by
 have:=h.cell (g:=3) (by kernel_rfl) j (by unfold Qer;rw[Gp];exact hj)
 rw[this]
 congr 2
 unfold Qer
 rw[Gf,Gf,Gj]
 cases Lib.deBruijn64tab[j]? <;> rfl
theorem Qeq[Base](hg:3<Base.B)(htab:Lib.TabIs Tryz.prog Base.W "math/bits.deBruijn64tab" .u8 Qer):HkOK Tryz.prog 138 qN where
 fn:=by kernel_rfl
 len:=fun args h v h' hs=>by
  unfold qN at hs
  split at hs
  ·split at hs
   ·rw[Yw]at hs;simp only[Option.some.injEq,Prod.mk.injEq]at hs;rw[← hs.2];exact Ge _
   ·simp at hs
  ·simp at hs
 run:=fun args h v h' hs β w vs hvs R hf=>by
  unfold qN at hs
  split at hs
  ·rename_i a
   split at hs
   ·rename_i hp
    rw[Yw]at hs
    simp only[Option.some.injEq,Prod.mk.injEq]at hs
    obtain⟨rfl,rfl⟩:=hs
    cases hvs with
    | cons k1 hvs =>
     cases hvs
     cases k1 with
     | sc k1 =>
      cases k1
      have e:a=((a.toNat:Nat):Int):=by omega
      have hw:=Qkp ((R.var (by kernel_rfl) hg).trans htab)
      have hc:=bits_TrailingZeros64 a.toNat (by omega) w fun _=>hw
      rw[← e]at hc
      refine hc.mono ?_
      rintro e w' ⟨rfl,rfl⟩
      exact⟨β,_,rfl,.sc (.int _ _),Stp.refl _ _ _,R⟩
   ·simp at hs
  ·simp at hs
section
variable (W:World) (hF:Facts W)
include hF
theorem Qao:@HkOK (BW W) Tryz.prog 43 ZP:=by
 letI:Base:=BW W
 exact QbK (g:=2) (nm := "internal/strconv.uint64pow10") (by kernel_rfl) (VK (by kernel_rfl) hF.pow) (by kernel_rfl) hF.pow fun n h1 h2 w h3=>strconv_Itoa n h1 h2 w h3
theorem Qjt:@HkOK (BW W) Tryz.prog 138 qN:=by
 letI:Base:=BW W
 exact Qeq (VK (by kernel_rfl) hF.deb) hF.deb
theorem ye:@qE (BW W) Tryz.prog (@HKt ⟨false⟩):=by
 letI:Base:=BW W
 intro f g h
 unfold HKt at h
 split at h
 ·rename_i hf;simp only[Option.some.injEq]at h;subst hf h;exact Qao W hF
 split at h
 ·rename_i hf;simp only[Option.some.injEq]at h;subst hf h;exact Qjt W hF
 split at h
 ·cases h
 split at h
 ·rename_i hf;simp only[Option.some.injEq]at h;subst hf h;exact zV (by kernel_rfl) VO
 split at h
 ·rename_i hf;simp only[Option.some.injEq]at h;subst hf h;exact qF (by kernel_rfl) Tryz.underlying3 zE
 ·exact Qdh f g h
theorem Qmz:@qE (BW W) Tryz.prog HKs:=by
 letI:Base:=BW W
 letI:HB:=⟨false⟩
 intro f g h
 unfold HKs at h
 split at h
 ·rename_i hf;simp only[Option.some.injEq]at h;subst hf h;exact(Qao W hF).less U0
 split at h
 ·rename_i hf;simp only[Option.some.injEq]at h;subst hf h;exact Qmb (ye W hF)
 split at h
 ·rename_i hf;simp only[Option.some.injEq]at h;subst hf h;exact Qkr (ye W hF)
 split at h
 ·rename_i hf;simp only[Option.some.injEq]at h;subst hf h;exact of_ok (ye W hF)
 split at h
 ·rename_i hf;simp only[Option.some.injEq]at h;subst hf h;exact Qle (ye W hF)
 split at h
 ·rename_i hf;simp only[Option.some.injEq]at h;subst hf h;exact Qk0 (ye W hF)
 split at h
 ·rename_i hf;simp only[Option.some.injEq]at h;subst hf h;exact QkO (ye W hF)
 split at h
 ·rename_i hf;simp only[Option.some.injEq]at h;subst hf h;exact pr_ok (ye W hF)
 ·exact Qdh f g h
theorem Qmy:@qE (BW W) Tryz.prog (@HKt ⟨true⟩):=by
 letI:Base:=BW W
 intro f g h
 unfold HKt at h
 split at h
 ·rename_i hf;simp only[Option.some.injEq]at h;subst hf h;exact Qao W hF
 split at h
 ·rename_i hf;simp only[Option.some.injEq]at h;subst hf h;exact Qjt W hF
 split at h
 ·rename_i hf
  replace h:some (Zj (.sc (.bool true)))=some g:=h
  simp only[Option.some.injEq]at h
  subst hf h
  exact Qht (Qmz W hF)
 split at h
 ·rename_i hf;simp only[Option.some.injEq]at h;subst hf h;exact zV (by kernel_rfl) VO
 split at h
 ·rename_i hf;simp only[Option.some.injEq]at h;subst hf h;exact qF (by kernel_rfl) Tryz.underlying3 zE
 ·exact Qdh f g h
end
set_option maxHeartbeats 16000000
set_option maxRecDepth 20000
attribute [local irreducible] Qk wA Xv Xs QC Qu QP Q6
variable [HB]
abbrev Ent:=Int×List Int
def ERow(h:Qa)(s:SV)(r:List Ent):Prop:=∃ ss:List SV,ss.length=r.length/\IsD h s (List.zipWith (fun (p:Ent) t=>(SV.int .i64 p.1,t)) r ss)/\∀(i:Nat) (p:Ent) (t:SV),r[i]?=some p->ss[i]?=some t->IsInts h t p.2
def EMx(h:Qa)(s:SV)(m:List (List Ent)):Prop:=∃ ss:List SV,ss.length=m.length/\IsSl h s 1 ss.length ss/\∀(i:Nat) (t:SV) (r:List Ent),ss[i]?=some t->m[i]?=some r->ERow h t r
theorem ERow.at{h:Qa}{s:SV}{r:List Ent}(e:ERow h s r){i:Nat}{p:Ent}(hi:r[i]?=some p):∃ id off cap t,s = .slc id off r.length cap/\Q9 h id (off+i*2) 2=some [.int .i64 p.1,t]/\IsInts h t p.2:=by
 obtain⟨ss,h1,h2,h3⟩:=e
 have hl:=(Gb.1 hi).1
 obtain⟨t,ht⟩:∃ t,ss[i]?=some t:=⟨_,Gc (by omega)⟩
 obtain⟨id,off,cap,e1,rd⟩:=h2.at (i:=i) (p:=(SV.int .i64 p.1,t)) (by rw[List.getElem?_zipWith,hi,ht])
 rw[List.length_zipWith,h1,Nat.min_self]at e1
 exact⟨id,off,cap,t,e1,rd,h3 i p t hi ht⟩
theorem EMx.at{h:Qa}{s:SV}{m:List (List Ent)}(e:EMx h s m){i:Nat}{r:List Ent}(hi:m[i]?=some r):∃ id off cap t,s = .slc id off m.length cap/\Q9 h id (off+i*1) 1=some [t]/\ERow h t r:=by
 obtain⟨ss,h1,h2,h3⟩:=e
 have hl:=(Gb.1 hi).1
 obtain⟨t,ht⟩:∃ t,ss[i]?=some t:=⟨_,Gc (by omega)⟩
 obtain⟨id,off,cap,e1,rd⟩:=h2.at ht
 rw[h1]at e1
 exact⟨id,off,cap,t,e1,rd,h3 i t r ht hi⟩
def smE(e:Ent):Prop:=e.2.length<=3 ∧ -10<=e.1/\e.1<=10/\∀ c∈e.2,-4<=c/\c<=4
instance (e:Ent):Decidable (smE e):=by unfold smE;infer_instance
def smN(b:Bool):AV := .sc (.int .i64 (if b then 1 else 0))
def I19(e:Ent)(q:Nat)(s:SV)(hb:Qa)(k:Nat)(E:Env)(h:Qa):Prop:=∃ i,i<=e.2.length/\k=e.2.length-i/\h=hb/\(∀ c∈e.2.take i,-4<=c/\c<=4) ∧
 E.keep [1,3]=[(1,some (.sc (.ptr q 0))),(3,some (.sc (.int .i64 (i:Nat))))]
def R19(e:Ent)(hb:Qa)(ex:Ex)(E:Env)(h:Qa):Prop:=h=hb/\((ex = .ex 0/\(∀ c∈e.2,-4<=c/\c<=4)/\∃ a b c,E=[(1,a),(3,b),(22,c)])∨(ex = .rt/\¬(∀ c∈e.2,-4<=c/\c<=4)/\E=[(2,some (.sc (.int .i64 0)))]))
theorem Qik(e:Ent)(q:Nat)(s:SV)(hb:Qa)(hl:e.2.length<=3)(c1:Cel hb q (.int .i64 e.1) s)(hs:IsInts hb s e.2)(k:Nat)(E:Env)(h:Qa)(hI:I19 e q s hb k E h) :
  wA FT HKt Qj9 (E.keep [1,3]) h (Qu (I19 e q s hb) k (R19 e hb)):=by
 obtain⟨i,hi,rfl,rfl,hall,hE⟩:=hI
 rw[hE]
 have ls:Yv false s=some (e.2.length:Int):=IsSl.len hs
 by_cases hlt:i<e.2.length
 ·obtain⟨c,hc⟩:∃ c,e.2[i]?=some c:=⟨_,Gc hlt⟩
  obtain⟨id,off,cap,es,rd⟩:=IsInts.at hs hc
  subst es
  have hm:=Gl hc
  by_cases h1:c < -4
  ·repeat' first|apply Qh|apply Qc|apply QD|apply Qz|apply Xn|apply Qm|apply Qs|apply Qf|(apply Qg;refine Qi rfl ?_)|(apply Qe;first|refine Qp rfl ?_|refine Qq rfl rfl rfl ?_)|(apply Qb;first|refine QS rfl ?_|refine Qt rfl c1 ?_|refine QG rfl ls ?_|refine QJ (esz:=1) rfl rfl (by omega) ?_|refine Xx rfl rd ?_|refine Xa rfl ?_|refine Qn rfl ?_|refine QK rfl rfl ?_|refine QH rfl rfl (by omega) ?_)
   exact Zf ⟨rfl,.inr ⟨rfl,fun hf=>by have:=hf c hm;omega,rfl⟩⟩
  ·by_cases h2:4<c
   ·repeat' first|apply Qh|apply Qc|apply QD|apply Qz|apply Xn|apply Qm|apply Qs|apply Qf|(apply Qg;refine Qi rfl ?_)|(apply Qe;first|refine Qp rfl ?_|refine Qq rfl rfl rfl ?_)|(apply Qb;first|refine QS rfl ?_|refine Qt rfl c1 ?_|refine QG rfl ls ?_|refine QJ (esz:=1) rfl rfl (by omega) ?_|refine Xx rfl rd ?_|refine QE rfl ?_|refine Qn rfl ?_|refine Qy rfl rfl ?_|refine QH rfl rfl (by omega) ?_|refine QW rfl rfl (by omega) ?_|refine X9 rfl rfl (by omega) ?_)
    exact Zf ⟨rfl,.inr ⟨rfl,fun hf=>by have:=hf c hm;omega,rfl⟩⟩
   ·repeat' first|apply Qh|apply Qc|apply Qz|apply QV|apply Qm|apply Qf|(apply Qg;first|refine Qi rfl ?_|refine Qj rfl ?_)|(apply Qe;first|refine Qx rfl rfl ?_|refine Qq rfl rfl rfl ?_)|(apply Qb;first|refine QS rfl ?_|refine Qt rfl c1 ?_|refine QG rfl ls ?_|refine QJ (esz:=1) rfl rfl (by omega) ?_|refine Xx rfl rd ?_|refine QE rfl ?_|refine Qn rfl ?_|refine Qy rfl rfl ?_|refine Q1 rfl rfl (by omega) ?_|refine QH rfl rfl (by omega) ?_|refine QW rfl rfl (by omega) ?_|refine XY rfl rfl (by omega) ?_)
    refine Xb (j:=e.2.length-(i+1)) (by omega) ⟨i+1,by omega,rfl,rfl,fun x hx=>?_,rfl⟩
    rw[G1,hc]at hx
    rcases GD.1 hx with hx|hx
    ·exact hall x hx
    ·simp at hx;subst hx;omega
 ·have:i=e.2.length:=by omega
  subst this
  rw[GH]at hall
  repeat' first|apply Qh|apply Qc|apply Xc|apply Q5|apply Qf|(apply Qg;refine Qj rfl ?_)|(apply Qe;refine Qq rfl rfl rfl ?_)|(apply Qb;first|refine QS rfl ?_|refine Qt rfl c1 ?_|refine QG rfl ls ?_|refine Qn rfl ?_|refine QW rfl rfl (by omega) ?_)
  exact Xj ⟨rfl,.inl ⟨rfl,hall,_,_,_,rfl⟩⟩
theorem Qc7(h0:Qa)(e:Ent)(s:SV)(hs:IsInts h0 s e.2):∃ r h',Cal FT HKt 19 [.agg [.int .i64 e.1,s]] h0 r h'/\(Ext h0 h'/\r=smN (decide (smE e))):=by
 refine Cal.of (F:=a19) rfl rfl rfl ?_
 have ls:Yv false s=some (e.2.length:Int):=IsSl.len hs
 by_cases h1:3<e.2.length
 ·rw[show decide (smE e)=false from decide_eq_false fun hf=>by have:=hf.1;omega]
  repeat' first|apply Qh|apply Qc|apply QD|apply Qs|apply Qf|(apply Qg;refine Qi rfl ?_)|(apply Qe;first|refine Qp rfl ?_|refine Qx rfl rfl ?_)|(apply Qb;first|(refine Qr rfl ?_;intro h1 e1 c1)|refine QS rfl ?_|refine Qt rfl c1 ?_|refine QG rfl ls ?_|refine Xa rfl ?_|refine Qn rfl ?_|refine QK rfl rfl ?_|refine X9 rfl rfl (by omega) ?_)
  exact⟨.inr rfl,e1,rfl⟩
 by_cases h2:e.1 < -10
 ·rw[show decide (smE e)=false from decide_eq_false fun hf=>by have:=hf.2.1;omega]
  repeat' first|apply Qh|apply Qc|apply QD|apply Qs|apply Qf|(apply Qg;refine Qi rfl ?_)|(apply Qe;first|refine Qp rfl ?_|refine Qx rfl rfl ?_)|(apply Qb;first|(refine Qr rfl ?_;intro h1 e1 c1)|refine QS rfl ?_|refine Qt rfl c1 ?_|refine QB rfl c1 ?_|refine QG rfl ls ?_|refine Xa rfl ?_|refine QE rfl ?_|refine Qn rfl ?_|refine QK rfl rfl ?_|refine Qy rfl rfl ?_|refine QH rfl rfl (by omega) ?_|refine XY rfl rfl (by omega) ?_)
  exact⟨.inr rfl,e1,rfl⟩
 by_cases h3:10<e.1
 ·rw[show decide (smE e)=false from decide_eq_false fun hf=>by have:=hf.2.2.1;omega]
  repeat' first|apply Qh|apply Qc|apply QD|apply Qs|apply Qf|(apply Qg;refine Qi rfl ?_)|(apply Qe;first|refine Qp rfl ?_|refine Qx rfl rfl ?_)|(apply Qb;first|(refine Qr rfl ?_;intro h1 e1 c1)|refine QS rfl ?_|refine Qt rfl c1 ?_|refine QB rfl c1 ?_|refine QG rfl ls ?_|refine QE rfl ?_|refine Qn rfl ?_|refine Qy rfl rfl ?_|refine QW rfl rfl (by omega) ?_|refine X9 rfl rfl (by omega) ?_|refine XY rfl rfl (by omega) ?_)
  exact⟨.inr rfl,e1,rfl⟩
 repeat' first|apply Qh|apply Qc|apply Qz|apply Qm|apply Qf|(apply Qg;refine Qj rfl ?_)|(apply Qe;first|refine Qp rfl ?_|refine Qx rfl rfl ?_)|(apply Qb;first|(refine Qr rfl ?_;intro h1 e1 c1)|refine QS rfl ?_|refine Qt rfl c1 ?_|refine QB rfl c1 ?_|refine QG rfl ls ?_|refine QE rfl ?_|refine Qn rfl ?_|refine Qy rfl rfl ?_|refine QW rfl rfl (by omega) ?_|refine XY rfl rfl (by omega) ?_)
 refine XJ (I19 e h0.length s h1) e.2.length (R19 e h1) ⟨0,Gs _,rfl,rfl,by simp,rfl⟩ (Qik e h0.length s h1 (by omega) c1 (IsSl.ext hs e1)) ?_
 rintro ex E' h4 ⟨rfl,⟨rfl,hf,_,_,_,rfl⟩|⟨rfl,hf,rfl⟩⟩
 ·rw[show decide (smE e)=true from decide_eq_true ⟨by omega,by omega,by omega,hf⟩]
  repeat' first|apply Qh|apply Qc|apply Q8|apply Qs|apply Qf|(apply Qe;refine Qp rfl ?_)|(apply Qb;refine Qn rfl ?_)
  exact⟨.inr rfl,e1,rfl⟩
 ·rw[show decide (smE e)=false from decide_eq_false fun hg=>hf hg.2.2.2]
  repeat' first|apply QD|apply Xn
  exact⟨.inr rfl,e1,rfl⟩
def smR(n:Nat)(r:List Ent):Prop:=r.length<=n/\∀ e∈r,smE e
instance (n:Nat) (r:List Ent):Decidable (smR n r):=by unfold smR;infer_instance
def smM(n:Nat)(l:List (List Ent)):Prop:=l.length<=n/\∀ r∈l,smR n r
instance (n:Nat) (l:List (List Ent)):Decidable (smM n l):=by unfold smM;infer_instance
end Go.Proofs.YtofknpknogfijaaGreatDoor
namespace Go.Proofs.YtofknpknogfijaaGreatDoor
open Go.Ab
set_option linter.all false
abbrev Qji:Int->Qa->List SV->Prop:=fun n _ ss=>ss=[.int .i64 n]/\(Lit.int .i64 n).wf=true
abbrev RIs:List Int->Qa->List SV->Prop:=fun ds h ss=>∃ s l,ss=[s]/\IsSl h s ⟨1,none⟩ ds.length l/\RL Qji ds h l
abbrev Qa0:Ent->Qa->List SV->Prop:=fun d h ss=>∃ l1 l2,ss=l1++l2/\Qji d.1 h l1/\RIs d.2 h l2
abbrev RRow:List Ent->Qa->List SV->Prop:=fun ds h ss=>∃ s l,ss=[s]/\IsSl h s ⟨2,none⟩ ds.length l/\RL Qa0 ds h l
abbrev RMx:List (List Ent)->Qa->List SV->Prop:=fun ds h ss=>∃ s l,ss=[s]/\IsSl h s ⟨1,none⟩ ds.length l/\RL RRow ds h l
theorem Qdr:∀ {ds:List Int} {h:Qa} {l:List SV},RL Qji ds h l->l=ds.map (.int .i64)
 | [],h,l,e=>e
 | d::ds,h,l,⟨l1,l2,e,⟨a,_⟩,b⟩=>by rw[e,a,Qdr b];rfl
theorem RIs.ok{ds:List Int}{h:Qa}{ss:List SV}(a:RIs ds h ss):∃ s,ss=[s]/\IsInts h s ds:=by
 obtain⟨s,l,e,q,r⟩:=a
 rw[Qdr r]at q
 exact⟨s,e,q⟩
theorem Qds:∀ {ds:List Ent} {h:Qa} {l:List SV},RL Qa0 ds h l->∃ ts:List SV,ts.length=ds.length/\l=prs (List.zipWith (fun (p:Ent) t=>(SV.int .i64 p.1,t)) ds ts)/\∀(i:Nat) (p:Ent) (t:SV),ds[i]?=some p->ts[i]?=some t->IsInts h t p.2
 | [],h,l,e=>⟨[],rfl,e,fun i p t a=>by simp at a⟩
 | d::ds,h,l,⟨l1,l2,e,⟨m1,m2,e2,⟨e3,_⟩,r⟩,b⟩=>by
  obtain⟨ts,q1,q2,q3⟩:=Qds b
  obtain⟨s,e4,hs⟩:=r.ok
  refine⟨s::ts,by simp[q1],?_,fun i p t hi ht=>?_⟩
  ·rw[e,e2,e3,e4,q2];rfl
  ·cases i with
   | zero=>simp at hi ht;subst hi ht;exact hs
   | succ i=>exact q3 i p t (by simpa using hi) (by simpa using ht)
theorem RRow.ok{ds:List Ent}{h:Qa}{ss:List SV}(a:RRow ds h ss):∃ s,ss=[s]/\ERow h s ds:=by
 obtain⟨s,l,e,q,r⟩:=a
 obtain⟨ts,q1,q2,q3⟩:=Qds r
 refine⟨s,e,ts,q1,?_,q3⟩
 unfold IsD
 rw[List.length_zipWith,q1,Nat.min_self,← q2]
 exact q
theorem Qdq:∀ {ds:List (List Ent)} {h:Qa} {l:List SV},RL RRow ds h l->l.length=ds.length/\∀(i:Nat) (t:SV) (r:List Ent),l[i]?=some t->ds[i]?=some r->ERow h t r
 | [],h,l,e=>by
  have:l=[]:=e
  subst this
  exact⟨rfl,fun i t r a=>by simp at a⟩
 | d::ds,h,l,⟨l1,l2,e,a,b⟩=>by
  obtain⟨q1,q2⟩:=Qdq b
  obtain⟨s,e1,hs⟩:=a.ok
  subst e1
  subst e
  refine⟨by simp[q1],fun i t r hi hr=>?_⟩
  cases i with
  | zero=>simp at hi hr;subst hi hr;exact hs
  | succ i=>exact q2 i t r (by simpa using hi) (by simpa using hr)
theorem RMx.ok{ds:List (List Ent)}{h:Qa}{ss:List SV}(a:RMx ds h ss):∃ s,ss=[s]/\EMx h s ds:=by
 obtain⟨s,l,e,q,r⟩:=a
 obtain⟨q1,q2⟩:=Qdq r
 refine⟨s,e,l,q1,?_,q2⟩
 rw[q1]
 exact q
section
variable {H:Type} {enc:TypeId×Value->H} {P:Program} {w:World} {base:Nat} {held:Bool}
theorem V7{te ti tl:TypeId}{f0 f1:Field}(he:P.underlying te=some (.struct #[f0,f1]))(h0:f0.type=ti/\f0.offset=0)(h1:f1.type=tl/\f1.offset=1)(hi:P.underlying ti=some (.int .i64))(hl:P.underlying tl=some (.slice ti))
  (ci:P.cellsOf ti=1) (cl:P.cellsOf tl=1) (ce:P.cellsOf te=2):TOk enc P w base held te 2 Ent Qa0:=by
 have a:TOk enc P w base held ti 1 Int Qji:=TOk.int hi
 have b:TOk enc P w base held tl 1 (List Int) RIs:=TOk.slice hl ci (by decide) a
 exact TOk.struct2 (c0:=1) (c1:=1) he ⟨h0.2,by rw[h0.1];exact ci⟩ ⟨h1.2,by rw[h1.1];exact cl⟩ ce (by rw[h0.1];exact a) (by rw[h1.1];exact b)
end
set_option maxHeartbeats 16000000
set_option maxRecDepth 20000
attribute [local irreducible] Qk wA Xv Xs QC Qu QP Q6
variable [HB]
def PE(e:Ent):Pol:=ofP e.1 e.2
def RowF(f:Pol->SV->P2)(h:Qa)(s:SV)(ps:List Pol):Prop:=∃ ss:List SV,ss.length=ps.length/\IsD h s (List.zipWith f ps ss)/\∀(i:Nat) (p:Pol) (t:SV),ps[i]?=some p->ss[i]?=some t->IsD h t (tms p.ts)
def MxF(f:Pol->SV->P2)(h:Qa)(s:SV)(m:List (List Pol)):Prop:=∃ ss:List SV,ss.length=m.length/\IsSl h s 1 ss.length ss/\∀(i:Nat) (t:SV) (r:List Pol),ss[i]?=some t->m[i]?=some r->RowF f h t r
def fL:Pol->SV->P2:=fun p t=>(SV.bool p.big,t)
def fR:Pol->SV->P2:=fun p t=>(t,SV.bool p.big)
structure SRow(f:Pol->SV->P2)(hr h:Qa)(s:SV)(ps:List Pol):Prop where
 x:Ext hr h
 o:∃ ss:List SV,ss.length=ps.length/\OwnD hr h s (List.zipWith f ps ss)/\∀(i:Nat) (p:Pol) (t:SV),ps[i]?=some p->ss[i]?=some t->IsD h t (tms p.ts)/\Apart s t
theorem SRow.nil{f:Pol->SV->P2}{hr h:Qa}(x:Ext hr h){s:SV}(o:OwnD hr h s []):SRow f hr h s []:=⟨x,[],rfl,o,fun i p t a b=>by simp at a⟩
structure SMx(f:Pol->SV->P2)(hb h:Qa)(s:SV)(m:List (List Pol)):Prop where
 x:Ext hb h
 o:∃ vs:List SV,vs.length=m.length/\Own hb h s vs/\∀(i:Nat) (t:SV) (r:List Pol),vs[i]?=some t->m[i]?=some r->RowF f h t r
theorem RowF.at{f:Pol->SV->P2}{h:Qa}{s:SV}{r:List Pol}(e:RowF f h s r){i:Nat}{p:Pol}(hi:r[i]?=some p):∃ id off cap t,s = .slc id off r.length cap/\Q9 h id (off+i*2) 2=some [(f p t).1,(f p t).2]/\IsD h t (tms p.ts):=by
 obtain⟨ss,h1,h2,h3⟩:=e
 have hl:=(Gb.1 hi).1
 obtain⟨t,ht⟩:∃ t,ss[i]?=some t:=⟨_,Gc (by omega)⟩
 obtain⟨id,off,cap,e1,rd⟩:=h2.at (i:=i) (p:=f p t) (by rw[List.getElem?_zipWith,hi,ht])
 rw[List.length_zipWith,h1,Nat.min_self]at e1
 exact⟨id,off,cap,t,e1,rd,h3 i p t hi ht⟩
theorem MxF.at{f:Pol->SV->P2}{h:Qa}{s:SV}{m:List (List Pol)}(e:MxF f h s m){i:Nat}{r:List Pol}(hi:m[i]?=some r):∃ id off cap t,s = .slc id off m.length cap/\Q9 h id (off+i*1) 1=some [t]/\RowF f h t r:=by
 obtain⟨ss,h1,h2,h3⟩:=e
 have hl:=(Gb.1 hi).1
 obtain⟨t,ht⟩:∃ t,ss[i]?=some t:=⟨_,Gc (by omega)⟩
 obtain⟨id,off,cap,e1,rd⟩:=h2.at ht
 rw[h1]at e1
 exact⟨id,off,cap,t,e1,rd,h3 i t r ht hi⟩
end Go.Proofs.YtofknpknogfijaaGreatDoor
namespace Go.Proofs.YtofknpknogfijaaGreatDoor
open Go.Ab
set_option linter.all false
variable [HB]
def KZ(h h':Qa):Prop:=h.length<=h'.length/\∀(j:Nat) (b:Blk),h[j]?=some b->b.esz≠0->h'[j]?=some b
theorem KZ.trans{a b c:Qa}(x:KZ a b)(y:KZ b c):KZ a c:=⟨Gh x.1 y.1,fun j u h h0=>y.2 j u (x.2 j u h h0) h0⟩
structure SRowZ(f:Pol->SV->P2)(h0 hr h:Qa)(s:SV)(ps:List Pol):Prop where
 x:Ext h0 h
 z:KZ hr h
 nt:∀ j,j<hr.length->Ys s j
 o:∃ ss:List SV,ss.length=ps.length/\OwnD h0 h s (List.zipWith f ps ss)/\∀(i:Nat) (p:Pol) (t:SV),ps[i]?=some p->ss[i]?=some t->IsD h t (tms p.ts)/\Apart s t
def NoI(bl:List SV):Prop:=∀ v∈bl,∀(k:IntKind) (n:Int),v ≠ .int k n
theorem NoI.app{a b:List SV}(x:NoI a)(y:NoI b):NoI (a++b):=fun v hv=>(GD.1 hv).elim (x v) (y v)
def KI(h h':Qa):Prop:=h.length<=h'.length/\∀(j:Nat) (b:Blk),h[j]?=some b->h'[j]?=some b∨∃ b',h'[j]?=some b'/\b'.esz=b.esz/\(b.esz≠2∨∃ bl,b = .cells bl true 2/\NoI bl)
theorem KI.trans{a b c:Qa}(x:KI a b)(y:KI b c):KI a c:=by
 refine⟨Gh x.1 y.1,fun j u hu=>?_⟩
 rcases x.2 j u hu with h1|⟨b',h1,h2,h3⟩
 ·exact y.2 j u h1
 ·rcases y.2 j b' h1 with h4|⟨b2,h4,h5,h6⟩
  ·exact .inr ⟨b',h4,h2,h3⟩
  ·exact .inr ⟨b2,h4,h5.trans h2,h3⟩
def OwnX(lo:Nat)(h:Qa)(s:SV)(ps:List P2):Prop:=∃ id cap,s = .slc id 0 ps.length cap/\lo<=id/\h[id]?=some (.cells (prs ps) true 2)/\(cap=none∨cap=some ps.length)/\NoI (prs ps)
theorem OwnX.is{lo:Nat}{h:Qa}{s:SV}{ps:List P2}(o:OwnX lo h s ps):IsD h s ps:=by
 obtain⟨id,cap,rfl,b,c,d,e⟩:=o
 have hl:=ZV ps
 refine .inr ⟨id,0,cap,_,rfl,c,rfl,fun h0=>?_,fun _=>⟨_,_,rfl,?_⟩⟩
 ·have:ps=[]:=Gu h0
  rw[this];rfl
 ·unfold cut
  rw[show ESz.n 2=2 from rfl,if_pos (by omega),Hi,Gx (by omega)]
section
variable {FT:zzA} {HK:zzH} {E:Env} {h h0:Qa} {K:Env->Qa->Prop} {d:Option Nat} {r:List AOp} {x y xo so:AO} {m n:Int}
end
structure GP(f:Int->Int)(p:Pol):Prop where
 nb:p.big=false
 can:Can p.ts
 cf:∀ e,cf p.ts e=f e
def FB(K B:Nat)(f:Int->Int):Prop:=∀ e,f e≠0->e.natAbs<=K/\(f e).natAbs<=B
theorem GP.bd{f:Int->Int}{p:Pol}{K B:Nat}(g:GP f p)(h:FB K B f):∀ t∈p.ts,t.1.natAbs<=K/\t.2.natAbs<=B:=fun t ht=>by
 have e:=YQ g.can ht
 have nz:=g.can.nz t ht
 rw[g.cf]at e
 rw[← e]at nz ⊢
 exact h _ nz
theorem Zn{q:List Tm}{f:Int->Int}(h:∀ e,cf q e=f e)(e:Int):∀ l:List Tm,mc l q e=mulT l f e
 | []=>rfl
 | t::l=>by rw[QdP,Zn h e l,h];rfl
theorem FB.mono{K K' B B':Nat}{f:Int->Int}(h:FB K B f)(h1:K<=K')(h2:B<=B'):FB K' B' f:=fun e he=>⟨Gh (h e he).1 h1,Gh (h e he).2 h2⟩
structure EOk(p:Pol):Prop where
 nb:p.big=false
 can:Can p.ts
 len:p.ts.length<=3
 bd:∀ t∈p.ts,t.1.natAbs<=12/\t.2.natAbs<=4
theorem Qa7{B:Nat}:∀ {l:List Tm},(∀ t∈l,t.2.natAbs<=B)->V6 l<=l.length*B
 | [],_=>by simp[V6]
 | t::l,h=>by
  have:=Qa7 (l:=l) fun u hu=>h u (.tail _ hu)
  have:=h t (.head _)
  simp only[V6,GQ,GZ];omega
theorem EOk.sum{p:Pol}(k:EOk p):V6 p.ts<=12:=by
 have:=Qa7 (B:=4) fun t ht=>(k.bd t ht).2
 have:=k.len
 omega
structure ROk(n:Nat)(rows:List (List Pol)):Prop where
 n4:n<=4
 len:∀ r∈rows,r.length=n
 ok:∀ r∈rows,∀ p∈r,EOk p
theorem ROk.tail{n:Nat}{r:List Pol}{rs:List (List Pol)}(k:ROk n (r::rs)):ROk n rs:=⟨k.n4,fun q hq=>k.len q (.tail _ hq),fun q hq=>k.ok q (.tail _ hq)⟩
theorem ZX{f g:Int->Int}(h:∀ e,f e=g e)(l:List Tm)(e:Int):mulT l f e=mulT l g e:=Qbw fun t _=>h _
structure PF(n:Nat)(f:Int->Int):Prop where
 fb:FB (12*n) (12^n) f
 sp:∃ lo:Int,∀ e,f e≠0->lo<=e/\e<=lo+2*(n:Int)
theorem QdK{l:List Tm}{f:Int->Int}{e:Int}(h:mulT l f e≠0):∃ t∈l,f (e-t.1)≠0:=by
 refine Decidable.byContradiction fun hn=>h (yY fun t ht=>?_)
 refine Decidable.byContradiction fun h2=>hn ⟨t,ht,h2⟩
theorem GP.pok{f:Int->Int}{p:Pol}(g:GP f p)(h:FB eM cM f):Pok p:=⟨fun hb=>(by rw[g.nb]at hb;cases hb),g.can,fun t ht=>(g.bd h t ht).2,fun t ht=>(g.bd h t ht).1⟩
theorem EOk.pok{p:Pol}(k:EOk p):Pok p:=⟨fun hb=>(by rw[k.nb]at hb;cases hb),k.can,fun t ht=>by have:=k.bd t ht;simp only[cM];omega,fun t ht=>by have:=k.bd t ht;simp only[eM];omega⟩
theorem QiT{f:Int->Int}{p q:Pol}(g:GP f p)(hf:FB 524288 cM f)(kq:Pok q)(bq:q.big=false)(hq:Bd 524288 q.ts)(hb:∀ e,(mulT q.ts f e).natAbs<=cM):GP (mulT q.ts f) (Y6 p q):=by
 have kp:=g.pok (hf.mono (by decide) (Ge _))
 obtain⟨L,hc,hs,he⟩:=Qge kp kq g.nb bq (fun t ht=>(g.bd hf t ht).1) hq
 have hcf:∀ e,cf L e=mulT q.ts f e:=fun e=>by
  show S (dl e) L=_
  rw[hs]
  show mc p.ts q.ts e=_
  rw[yy,Zn g.cf]
 have:∀ t∈L,t.2.natAbs<=cM:=fun t ht=>by
  rw[← YQ hc ht,hcf];exact hb _
 rw[he,if_pos this]
 exact⟨rfl,hc,hcf⟩
def evS(k:Nat)(x:Int):List Tm->Int
 | []=>0
 | t::l=>t.2*x^(t.1+k).toNat+evS k x l
def SpF(k:Nat)(f:Int->Int):Prop:=∀ e:Int,k<e.natAbs->f e=0
theorem SpF.mono{j k:Nat}{f:Int->Int}(h:SpF j f)(hk:j<=k):SpF k f:=fun e he=>h e (by omega)
theorem eok{e:Ent}(h:smE e):EOk (PE e):=by
 obtain⟨h1,h2,h3,h4⟩:=h
 obtain⟨r,e1,can,hr,-⟩:=VH (low:=e.1) (xs:=e.2) (fun x hx=>by have:=h4 x hx;simp only[cM];omega) (by simp only[eM];omega) (fun i hi=>by simp only[eM];omega)
 have hv:∀ t∈r,t.2.natAbs<=4:=fun t ht=>by
  have hc:=yW (low:=e.1) (xs:=e.2) (i:=e.2.length) (r:=r) (by
   unfold ofP at e1
   cases h:ofN e.1 e.2 e.2.length with
   | none=>rw[h]at e1;cases e1
   | some q=>rw[h]at e1;simp at e1;rw[e1])
  have h5:=YQ hc.1 ht
  have h6:=hr t ht
  rw[hc.2.2,if_pos ⟨h6.1,h6.2.1⟩]at h5
  have hm:e.2.getD (t.1-e.1).toNat 0∈e.2:=by
   rw[Gf,Gc (by omega)];exact List.getElem_mem _
  have:=h4 _ hm
  omega
 unfold PE
 rw[e1]
 refine⟨rfl,can,?_,fun t ht=>⟨?_,hv t ht⟩⟩
 ·have:=ZF can (lo:=e.1) (n:=e.2.length) fun t ht=>⟨(hr t ht).1,(hr t ht).2.1⟩
  simp only;omega
 ·have:=hr t ht
  simp only at *;omega
theorem esp{e:Ent}(h:smE e):∃ lo:Int,∀ t∈(PE e).ts,lo<=t.1/\t.1<=lo+2:=by
 refine⟨e.1,fun t ht=>?_⟩
 unfold PE ofP at ht
 cases hn:ofN e.1 e.2 e.2.length with
 | none=>rw[hn]at ht;simp[YI]at ht
 | some r =>
  rw[hn]at ht
  have:=(yW hn).2.1 t ht
  have:=h.1
  omega
set_option maxHeartbeats 16000000
set_option maxRecDepth 20000
attribute [local irreducible] Qk wA Xv Xs QC Qu QP Q6
def rwC(n:Nat)(R:Nat->Pol)(U:Nat->SV):List P2:=(List.range n).map fun c=>fL (R c) (U c)
structure RX(lo hi:Nat)(h:Qa)(n m:Nat)(M:Nat->Nat->Pol)(ids:Nat->Nat)(U:Nat->Nat->SV):Prop where
 b:∀ a,a<m->lo<=ids a/\ids a<hi/\h[ids a]?=some (.cells (prs (rwC n (M a) (U a))) true 2)
 d:∀ a c,a<m->c<n->IsD h (U a c) (tms (M a c).ts)
 ne:∀ a b,a<m->b<m->a≠b->ids a≠ids b
def hdR(n:Nat)(ids:Nat->Nat)(caps:Nat->Option Nat)(a:Nat):SV := .slc (ids a) 0 n (caps a)
structure BX(hb h:Qa)(s:SV)(n m:Nat)(M:Nat->Nat->Pol):Prop where
 x:Ext hb h
 o:∃(ids:Nat->Nat) (caps:Nat->Option Nat) (U:Nat->Nat->SV),Own hb h s ((List.range m).map (hdR n ids caps))/\RX hb.length h.length h n m M ids U
def mE(l:List (List Ent))(a c:Nat):Pol:=PE ((l.getD a []).getD c (0,[]))
structure SX(hr h:Qa)(s:SV)(m:Nat)(R:Nat->Pol):Prop where
 x:Ext hr h
 o:∃ V:Nat->SV,OwnX hr.length h s (rwC m R V)/\∀ c,c<m->IsD h (V c) (tms (R c).ts)
end Go.Proofs.YtofknpknogfijaaGreatDoor
namespace Go.Proofs.YtofknpknogfijaaGreatDoor
open Go.Ab
set_option linter.all false
variable [HB]
theorem Qd2(k:Nat)(x:Int):∀ l:List Tm,evS k x l=S (fun e=>x^(e+k).toNat) l
 | []=>rfl
 | t::l=>by simp only[evS,S];rw[Qd2 k x l]
theorem EOk.gp{p:Pol}(k:EOk p):GP (cf p.ts) p:=⟨k.nb,k.can,fun _=>rfl⟩
theorem EOk.fb{p:Pol}(k:EOk p):FB 12 4 (cf p.ts):=fun e he=>by
 obtain⟨t,ht,rfl⟩:=Z2 he
 rw[YQ k.can ht]
 exact k.bd t ht
structure EG(p:Pol):Prop where
 nb:p.big=false
 can:Can p.ts
 bd:∀ t∈p.ts,t.1.natAbs<=24/\t.2.natAbs<=48
theorem GP.eg{f:Int->Int}{p:Pol}(g:GP f p)(h:FB 24 48 f):EG p:=⟨g.nb,g.can,g.bd h⟩
theorem Qdz(x:Int){a b:Int}(ha:0<=a)(hb:0<=b):x^(a+b).toNat=x^a.toNat*x^b.toNat:=by
 rw[Int.toNat_add ha hb,Int.pow_add]
theorem QiI{p q:Pol}(kp:EOk p)(kq:EOk q):EG (Y6 p q)/\∀ x,x^12*evS 24 x (Y6 p q).ts=evS 12 x q.ts*evS 24 x p.ts:=by
 have fb:FB 24 48 (mulT q.ts (cf p.ts)):=fun e he=>by
  obtain⟨t,ht,h2⟩:=QdK he
  have h3:=(kp.fb _ h2).1
  have h4:=(kq.bd t ht).1
  refine⟨by omega,?_⟩
  have:=QdL (B:=4) (f:=cf p.ts) (fun e=>by
   by_cases h:cf p.ts e=0
   ·rw[h];exact Gs _
   ·exact(kp.fb _ h).2) (l:=q.ts) (e:=e)
  have:=kq.sum
  omega
 have g:=QiT kp.gp (kp.fb.mono (by decide) (by decide)) kq.pok kq.nb (fun t ht=>by have:=(kq.bd t ht).1;omega) (fun e=>by
  by_cases h0:mulT q.ts (cf p.ts) e=0
  ·rw[h0];exact Gs _
  ·have:=(fb e h0).2
   simp only[cM];omega)
 obtain⟨L,hc,hs,he⟩:=Qge kp.pok kq.pok kp.nb kq.nb (fun t ht=>by have:=(kp.bd t ht).1;omega) (fun t ht=>by have:=(kq.bd t ht).1;omega)
 have hL:(Y6 p q).ts=L:=by
  have nb:=g.nb
  rw[he]at nb ⊢
  split at nb
  ·rename_i h;rw[if_pos h]
  ·cases nb
 refine⟨g.eg fb,fun x=>?_⟩
 rw[hL,Qd2,Qd2,Qd2,hs]
 unfold S2
 rw[GX (S _ q.ts),← yO (c:=x^12),← GX (S _ q.ts),← yO]
 refine Ym fun t ht=>?_
 rw[← yO,GX,← yO]
 refine Ym fun u hu=>?_
 have h1:=(kp.bd t ht).1
 have h2:=(kq.bd u hu).1
 rw[← Qdz x (by omega) (by omega),show x^12=x^((12:Int)).toNat from rfl,← Qdz x (by omega) (by omega)]
 congr 2;omega
def Wd(n:Nat)(f:Int->Int):Prop:=∃ lo:Int,∀ e,f e≠0->lo<=e/\e<lo+n
theorem Wd.mono{m n:Nat}{f:Int->Int}(h:Wd m f)(hn:m<=n):Wd n f:=by
 obtain⟨lo,h⟩:=h
 exact⟨lo,fun e he=>by have:=h e he;omega⟩
theorem QdS{P:Nat->Prop}(h:∃ n,P n):∃ n,P n/\∀ m,m<n->¬ P m:=by
 obtain⟨n,hn⟩:=h
 induction n using Nat.strongRecOn with
 | _ n ih =>
  by_cases hm:∃ m,m<n/\P m
  ·obtain⟨m,h1,h2⟩:=hm
   exact ih m h1 h2
  ·exact⟨n,hn,fun m h1 h2=>hm ⟨m,h1,h2⟩⟩
theorem YM(f:Int->Int)(c a e:Int):mulT [(a,c)] f e=c*f (e-a):=by simp[mulT]
theorem XH(a b:List Tm)(f:Int->Int)(e:Int):mulT (a++b) f e=mulT a f e+mulT b f e:=by
 induction a with
 | nil=>simp[mulT]
 | cons t a ih=>simp only[List.cons_append,mulT,ih];omega
def scT(k:Int)(l:List Tm):List Tm:=l.map fun t=>(t.1,k*t.2)
theorem Yi(k:Int)(l:List Tm)(f:Int->Int)(e:Int):mulT (scT k l) f e=k*mulT l f e:=by
 induction l with
 | nil=>simp[mulT,scT]
 | cons t l ih =>
  have:mulT (scT k (t::l)) f e=k*t.2*f (e-t.1)+mulT (scT k l) f e:=rfl
  rw[this,ih]
  show _=k*(t.2*f (e-t.1)+mulT l f e)
  rw[Hj,GB]
theorem pdiv{n:Nat}{g:Int->Int}{hi:Int}(h0:g hi≠0)(hg:∀ e,g e≠0->hi-n<e/\e<=hi):∀(m:Nat) (f:Int->Int),Wd m f->∃(k:Int) (s:List Tm) (r:Int->Int),k≠0/\Wd (n-1) r/\∀ e,k*f e=mulT s g e+r e:=by
 intro m
 induction m with
 | zero=>intro f hf;exact⟨1,[],f,by decide,hf.mono (Gs _),fun e=>by simp[mulT]⟩
 | succ m ih =>
  intro f hf
  by_cases hm:m+1<n
  ·exact⟨1,[],f,by decide,hf.mono (by omega),fun e=>by simp[mulT]⟩
  obtain⟨lo,hf⟩:=hf
  obtain⟨k,s,r,hk,hr,he⟩:=ih (fun e=>g hi*f e-f (lo+m)*g (e-(lo+m-hi))) ⟨lo,fun e he=>by
   replace he:g hi*f e-f (lo+m)*g (e-(lo+m-hi))≠0:=he
   have h1:f e≠0∨g (e-(lo+m-hi))≠0:=by
    by_cases h:f e=0
    ·right
     intro h2
     rw[h,h2]at he;simp at he
    ·exact .inl h
   have h2:lo<=e/\e<lo+(m+1:Nat):=by
    rcases h1 with h1|h1
    ·exact hf e h1
    ·have:=hg _ h1
     omega
   have h3:e≠lo+m:=by
    rintro rfl
    apply he
    rw[show lo+(m:Int)-(lo+m-hi)=hi by omega,GX]
    exact Int.sub_self _
   omega⟩
  refine⟨k*g hi,scT (k*f (lo+m)) [(lo+m-hi,1)]++s,r,GN hk h0,hr,fun e=>?_⟩
  have:=he e
  rw[XH,Yi,YM,G5,Int.add_assoc,← this,Int.mul_sub,GB,GB]
  omega
def Mk(p q f:Int->Int):Prop:=∃ u v:List Tm,∀ e,f e=mulT u p e+mulT v q e
theorem Mk.left(p q:Int->Int):Mk p q p:=⟨[(0,1)],[],fun e=>by rw[YM];simp[mulT]⟩
theorem Mk.right(p q:Int->Int):Mk p q q:=⟨[],[(0,1)],fun e=>by rw[YM];simp[mulT]⟩
theorem J0(s:List Tm)(f g h:Int->Int)(a b:Int)(he:∀ e,h e=a*f e+b*g e)(e:Int):mulT s h e=a*mulT s f e+b*mulT s g e:=by
 induction s with
 | nil=>simp[mulT]
 | cons t s ih =>
  simp only[mulT,ih,he,Hj]
  rw[Int.mul_left_comm t.2 a,Int.mul_left_comm t.2 b]
  omega
def mlT(a b:List Tm):List Tm:=(a.map fun t=>b.map fun u=>(t.1+u.1,t.2*u.2)).flatten
theorem YG(a b:List Tm)(f:Int->Int)(e:Int):mulT (mlT a b) f e=mulT a (mulT b f) e:=by
 induction a with
 | nil=>rfl
 | cons t a ih =>
  have h1:mlT (t::a) b=(b.map fun u=>(t.1+u.1,t.2*u.2))++mlT a b:=by simp[mlT]
  rw[h1,XH,ih]
  show _=t.2*mulT b f (e-t.1)+_
  congr 1
  clear h1 ih
  induction b with
  | nil=>simp[mulT]
  | cons u b ih =>
   simp only[G8,mulT,ih,Hj]
   rw[GB,show e-(t.1+u.1)=e-t.1-u.1 by omega]
theorem Mk.comb{p q f g h:Int->Int}(a b:Int)(s t:List Tm)(hf:Mk p q f)(hg:Mk p q g)(he:∀ e,h e=a*mulT s f e+b*mulT t g e):Mk p q h:=by
 obtain⟨u1,v1,h1⟩:=hf
 obtain⟨u2,v2,h2⟩:=hg
 refine⟨scT a (mlT s u1)++scT b (mlT t u2),scT a (mlT s v1)++scT b (mlT t v2),fun e=>?_⟩
 have e1:=J0 s (mulT u1 p) (mulT v1 q) f 1 1 (fun e=>by rw[h1];omega) e
 have e2:=J0 t (mulT u2 p) (mulT v2 q) g 1 1 (fun e=>by rw[h2];omega) e
 rw[he,e1,e2,XH,XH,Yi,Yi,Yi,Yi,YG,YG,YG,YG]
 simp only[G5,Hj]
 omega
theorem Qbv(f:Int->Int)(e:Int):mulT [] f e=0:=rfl
theorem Qau(f:Int->Int)(e:Int):mulT [(0,1)] f e=f e:=by rw[YM,G5,Int.sub_zero]
theorem bez{p q:Int->Int}{m:Nat}(hp:Wd m p)(hq:Wd m q)(h0:∃ e,p e≠0):∃ g:Int->Int,Mk p q g/\(∃ e,g e≠0)/\(∃ n,Wd n g)/\∀ f,Mk p q f->(∃ j,Wd j f)->∃(k:Int) (s:List Tm),k≠0/\∀ e,k*f e=mulT s g e:=by
 obtain⟨n,⟨g,hg,⟨e0,he0⟩,lo,hw⟩,hmin⟩:=QdS (P:=fun n=>∃ g:Int->Int,Mk p q g/\(∃ e,g e≠0)/\Wd n g) ⟨m,p,Mk.left p q,h0,hp⟩
 have hn:0<n:=by have:=hw e0 he0;omega
 have htop:g (lo+n-1)≠0:=fun h=>hmin (n-1) (by omega) ⟨g,hg,⟨e0,he0⟩,lo,fun e he=>by
  have h1:=hw e he
  have h2:e≠lo+n-1:=by rintro rfl;exact he h
  omega⟩
 refine⟨g,hg,⟨e0,he0⟩,⟨n,lo,hw⟩,fun f hf hj=>?_⟩
 obtain⟨j,hj⟩:=hj
 obtain⟨k,s,r,hk,hr,he⟩:=pdiv (n:=n) htop (fun e he=>by have:=hw e he;omega) j f hj
 refine⟨k,s,hk,fun e=>?_⟩
 have hz:∀ e,r e=0:=fun e=>Decidable.byContradiction fun h=>hmin (n-1) (by omega) ⟨r,hf.comb k (-1) [(0,1)] s hg (fun e=>by
  have:=he e
  rw[Qau];omega),⟨e,h⟩,hr⟩
 rw[he,hz,G2]
def Prm(P:Nat):Prop:=1<P/\∀ x y:Int,(P:Int) ∣ x*y->(P:Int) ∣ x∨(P:Int) ∣ y
theorem QkL{k:Nat}(hk:1<k):∃ P,Prm P/\P ∣ k:=by
 obtain⟨P,⟨h1,h2⟩,hmin⟩:=QdS (P:=fun n=>1<n/\n ∣ k) ⟨k,hk,Nat.dvd_refl k⟩
 refine⟨P,⟨h1,fun x y h=>?_⟩,h2⟩
 have h3:=Int.natAbs_dvd_natAbs.2 h
 rw[He,GL]at h3
 have h4:Nat.gcd P x.natAbs ∣ P:=Nat.gcd_dvd_left _ _
 have h5:¬ Nat.gcd P x.natAbs<P∨Nat.gcd P x.natAbs=1:=by
  by_cases h:Nat.gcd P x.natAbs<P
  ·right
   have h6:¬(1<Nat.gcd P x.natAbs):=fun h7=>hmin _ h ⟨h7,Nat.dvd_trans h4 h2⟩
   have:0<Nat.gcd P x.natAbs:=Nat.gcd_pos_of_pos_left _ (by omega)
   omega
  ·exact .inl h
 rcases h5 with h5|h5
 ·left
  have h6:Nat.gcd P x.natAbs=P:=Nat.le_antisymm (Nat.le_of_dvd (by omega) h4) (by omega)
  have h7:P ∣ x.natAbs:=by rw[← h6];exact Nat.gcd_dvd_right _ _
  exact Int.natAbs_dvd_natAbs.1 (by rwa [GL])
 ·right
  have h7:P ∣ y.natAbs:=Nat.Coprime.dvd_of_dvd_mul_left h5 h3
  exact Int.natAbs_dvd_natAbs.1 (by rwa [GL])
def Vt(s:List Tm):Prop:=s.Pairwise fun t u=>t.1<u.1
def Vq(t:Tm):List Tm->List Tm
 | []=>[t]
 | u::s=>if t.1<u.1 then t::u::s else if t.1=u.1 then (u.1,t.2+u.2)::s else u::Vq t s
theorem QbO{t x:Tm}:∀ {s:List Tm},x∈Vq t s->x.1=t.1∨∃ u∈s,x.1=u.1
 | [],h=>by simp[Vq]at h;subst h;exact .inl rfl
 | u::s,h=>by
  unfold Vq at h
  split at h
  ·rcases GT.1 h with rfl|h
   ·exact .inl rfl
   ·exact .inr ⟨x,h,rfl⟩
  ·split at h
   ·rcases GT.1 h with rfl|h
    ·exact .inr ⟨u,.head _,rfl⟩
    ·exact .inr ⟨x,.tail _ h,rfl⟩
   ·rcases GT.1 h with rfl|h
    ·exact .inr ⟨x,.head _,rfl⟩
    ·rcases QbO h with h|⟨v,hv,h⟩
     ·exact .inl h
     ·exact .inr ⟨v,.tail _ hv,h⟩
theorem QbP(t:Tm):∀ {s:List Tm},Vt s->Vt (Vq t s)
 | [],_=>by simp[Vq,Vt]
 | u::s,h=>by
  obtain⟨h1,h2⟩:=Hm.1 h
  unfold Vq
  split
  ·rename_i hlt
   refine Hm.2 ⟨fun v hv=>?_,h⟩
   rcases GT.1 hv with rfl|hv
   ·exact hlt
   ·have:=h1 v hv;omega
  ·split
   ·exact Hm.2 ⟨h1,h2⟩
   ·rename_i n1 n2
    refine Hm.2 ⟨fun v hv=>?_,QbP t h2⟩
    rcases QbO hv with e|⟨w,hw,e⟩
    ·omega
    ·have:=h1 w hw;omega
theorem QbN(t:Tm)(f:Int->Int)(e:Int):∀ s:List Tm,mulT (Vq t s) f e=t.2*f (e-t.1)+mulT s f e
 | []=>rfl
 | u::s=>by
  unfold Vq
  split
  ·rfl
  ·split
   ·rename_i h
    simp only[mulT,Ho,h];omega
   ·simp only[mulT,QbN t f e s];omega
theorem JL:∀ s:List Tm,∃ s',Vt s'/\∀ f e,mulT s' f e=mulT s f e
 | []=>⟨[],List.Pairwise.nil,fun _ _=>rfl⟩
 | t::s=>by
  obtain⟨s',h1,h2⟩:=JL s
  exact⟨Vq t s',QbP t h1,fun f e=>by rw[QbN,h2];rfl⟩
theorem yH{P:Int}{f:Int->Int}:∀ {s:List Tm} {e:Int},(∀ t∈s,P ∣ f (e-t.1))->P ∣ mulT s f e
 | [],_,_=>GO _
 | t::s,e,h=>Int.dvd_add (Int.dvd_trans (h t (.head _)) (Hv _ _)) (yH fun u hu=>h u (.tail _ hu))
theorem QgF{P:Nat}(hp:Prm P){g:Int->Int}{j:Int}(hj:¬(P:Int) ∣ g j)(hl:∀ e,e<j->(P:Int) ∣ g e):∀ s:List Tm,Vt s->(∀ e,(P:Int) ∣ mulT s g e)->∀ t∈s,(P:Int) ∣ t.2
 | [],_,_=>fun t ht=>by simp at ht
 | t::s,h,hd=>by
  obtain⟨h1,h2⟩:=Hm.1 h
  have ht:(P:Int) ∣ t.2:=by
   have h3:=hd (t.1+j)
   have h4:(P:Int) ∣ mulT s g (t.1+j):=yH fun u hu=>hl _ (by have:=h1 u hu;omega)
   have h5:(P:Int) ∣ t.2*g (t.1+j-t.1):=(Int.dvd_add_left h4).1 h3
   rw[show t.1+j-t.1=j by omega]at h5
   exact(hp.2 _ _ h5).resolve_right hj
  intro u hu
  rcases GT.1 hu with rfl|hu
  ·exact ht
  ·refine QgF hp hj hl s h2 (fun e=>?_) u hu
   exact(Int.dvd_add_right (Int.dvd_trans ht (Int.dvd_mul_right _ _))).1 (hd e)
def Prim(f:Int->Int):Prop:=∀ d:Nat,(∀ e,(d:Int) ∣ f e)->d=1
theorem Qgl{P:Nat}{g:Int->Int}{n:Nat}(hw:Wd n g)(h:∃ e,¬(P:Int) ∣ g e):∃ j,¬(P:Int) ∣ g j/\∀ e,e<j->(P:Int) ∣ g e:=by
 obtain⟨lo,hw⟩:=hw
 obtain⟨e0,h0⟩:=h
 have hz:∀ e,e<lo->g e=0:=fun e he=>Decidable.byContradiction fun h=>by have:=hw e h;omega
 have h1:lo<=e0:=by
  refine Decidable.byContradiction fun h=>h0 ?_
  rw[hz e0 (by omega)];exact GO _
 obtain⟨m,hm,hmin⟩:=QdS (P:=fun m:Nat=>¬(P:Int) ∣ g (lo+m)) ⟨(e0-lo).toNat,by rwa [show lo+((e0-lo).toNat:Int)=e0 by omega]⟩
 refine⟨lo+m,hm,fun e he=>?_⟩
 by_cases h:e<lo
 ·rw[hz e h];exact GO _
 ·refine Decidable.byContradiction fun h2=>hmin (e-lo).toNat (by omega) ?_
  rwa [show lo+((e-lo).toNat:Int)=e by omega]
theorem QgG{G:Int->Int}{n:Nat}(hG:Prim G)(hw:Wd n G):∀(m:Nat) (k:Int) (f:Int->Int) (s:List Tm),k.natAbs=m->k≠0->(∀ e,k*f e=mulT s G e)->∃ s',∀ e,f e=mulT s' G e:=by
 intro m
 induction m using Nat.strongRecOn with
 | _ m ih =>
  intro k f s hm hk he
  by_cases h1:1<m
  ·obtain⟨P,hp,hd⟩:=QkL h1
   obtain⟨k',hk'⟩:(P:Int) ∣ k:=Int.natAbs_dvd_natAbs.1 (by rw[GL,hm];exact hd)
   obtain⟨j,hj,hl⟩:=Qgl (P:=P) hw (Classical.byContradiction fun h=>by
    have:=hG P fun e=>Classical.byContradiction fun h2=>h ⟨e,h2⟩
    have:=hp.1
    omega)
   obtain⟨s1,a1,a2⟩:=JL s
   have hs:=QgF hp hj hl s1 a1 fun e=>by
    rw[a2,← he,hk',GB];exact Int.dvd_mul_right _ _
   have hP:(P:Int)≠0:=by have:=hp.1;omega
   have e2:∀ e,mulT s1 G e=P*mulT (s1.map fun t=>(t.1,t.2/P)) G e:=fun e=>by
    clear a1 a2
    induction s1 with
    | nil=>simp[mulT]
    | cons t s1 ih2 =>
     simp only[G8,mulT,Hj]
     rw[ih2 fun u hu=>hs u (.tail _ hu),← GB,Hq (hs t (.head _))]
   refine ih k'.natAbs ?_ k' f (s1.map fun t=>(t.1,t.2/P)) rfl (fun h=>hk (by rw[hk',h,GE])) fun e=>?_
   ·have h3:k.natAbs=P*k'.natAbs:=by rw[hk',He,GL]
    have h4:0<k'.natAbs:=Int.natAbs_pos.2 fun h=>hk (by rw[hk',h,GE])
    have h5:1*k'.natAbs<P*k'.natAbs:=Nat.mul_lt_mul_of_pos_right hp.1 h4
    omega
   ·have h3:=he e
    rw[← a2,e2,hk',GB]at h3
    exact Int.eq_of_mul_eq_mul_left hP h3
  ·have h2:k=1∨k = -1:=by have:=Int.natAbs_pos.2 hk;omega
   rcases h2 with rfl|rfl
   ·exact⟨s,fun e=>by rw[← he];omega⟩
   ·exact⟨scT (-1) s,fun e=>by rw[Yi,← he];omega⟩
end Go.Proofs.YtofknpknogfijaaGreatDoor
namespace Go.Proofs.YtofknpknogfijaaGreatDoor
set_option linter.all false
variable [HB]
theorem Zv{b:Nat}{l:List Nat}(hb:Pr b)(h:∀ q∈l,Pr q):∀ q∈b::l,Pr q:=fun q hq=>by
 rcases List.mem_cons.1 hq with rfl|hq
 ·exact hb
 ·exact h q hq
theorem Qf0:Pr 61681:=Yo (by decide) (XU (g:=29) (l:=[2,2,2,2,3,5,257]) (by decide +kernel) (by decide) (Xw (by decide +kernel)))
def Fer(n:Nat):Prop:=∀ a,0<a->a<n->a^(n-1)%n=1
theorem JA:Fer 2305843009211596801:=XU (g:=37) (l:=61681::[2,2,2,2,2,2,2,2,2,2,2,2,2,2,2,2,2,2,2,2,2,3,5,5,11,17,31,41]) (by decide +kernel) (by decide) (Zv Qf0 (Xw (by decide +kernel)))
theorem UL:Pr 77158710721:=Yo (by decide) (XU (g:=41) (l:=[2,2,2,2,2,2,3,3,5,7,13,37,73,109]) (by decide +kernel) (by decide) (Xw (by decide +kernel)))
theorem JB:Fer 2305843009210023937:=XU (g:=5) (l:=77158710721::[2,2,2,2,2,2,2,2,2,2,2,2,2,2,2,2,2,2,2,3,19]) (by decide +kernel) (by decide) (Zv UL (Xw (by decide +kernel)))
theorem Qiw:Pr 6899:=Yo (by decide) (XU (g:=2) (l:=[2,3449]) (by decide +kernel) (by decide) (Xw (by decide +kernel)))
theorem Qcy:Pr 5312231:=Yo (by decide) (XU (g:=11) (l:=6899::[2,5,7,11]) (by decide +kernel) (by decide) (Zv Qiw (Xw (by decide +kernel))))
theorem JC:Fer 2305843009208713217:=XU (g:=3) (l:=5312231::[2,2,2,2,2,2,2,2,2,2,2,2,2,2,2,2,2,2,11,109,1381]) (by decide +kernel) (by decide) (Zv Qcy (Xw (by decide +kernel)))
theorem Uc:Pr 104715393121:=Yo (by decide) (XU (g:=14) (l:=[2,2,2,2,2,3,3,5,13,19,37,73,109]) (by decide +kernel) (by decide) (Xw (by decide +kernel)))
theorem JD:Fer 2305843009202159617:=XU (g:=10) (l:=104715393121::[2,2,2,2,2,2,2,2,2,2,2,2,2,2,2,2,2,2,2,2,3,7]) (by decide +kernel) (by decide) (Zv Uc (Xw (by decide +kernel)))
theorem Qag:Pr 721967663:=Yo (by decide) (XU (g:=5) (l:=[2,13,13,17,17,19,389]) (by decide +kernel) (by decide) (Xw (by decide +kernel)))
theorem JE:Fer 2305843009201242113:=XU (g:=3) (l:=721967663::[2,2,2,2,2,2,2,2,2,2,2,2,2,2,2,2,2,7,59,59]) (by decide +kernel) (by decide) (Zv Qag (Xw (by decide +kernel)))
theorem Qf2:Pr 39569:=Yo (by decide) (XU (g:=3) (l:=[2,2,2,2,2473]) (by decide +kernel) (by decide) (Xw (by decide +kernel)))
theorem Qf1:Pr 53773:=Yo (by decide) (XU (g:=2) (l:=[2,2,3,4481]) (by decide +kernel) (by decide) (Xw (by decide +kernel)))
theorem JF:Fer 2305843009200586753:=XU (g:=5) (l:=39569::53773::[2,2,2,2,2,2,2,2,2,2,2,2,2,2,2,2,2,2,2,3,13,53]) (by decide +kernel) (by decide) (Zv Qf2 (Zv Qf1 (Xw (by decide +kernel))))
theorem Qah:Pr 616318177:=Yo (by decide) (XU (g:=5) (l:=[2,2,2,2,2,3,37,167,1039]) (by decide +kernel) (by decide) (Xw (by decide +kernel)))
theorem JG:Fer 2305843009196916737:=XU (g:=3) (l:=616318177::[2,2,2,2,2,2,2,2,2,2,2,2,2,2,2,2,2,2,2,2,2,2,2,2,223]) (by decide +kernel) (by decide) (Zv Qah (Xw (by decide +kernel)))
theorem Qf3:Pr 24049:=Yo (by decide) (XU (g:=19) (l:=[2,2,2,2,3,3,167]) (by decide +kernel) (by decide) (Xw (by decide +kernel)))
theorem Qai:Pr 237219337:=Yo (by decide) (XU (g:=5) (l:=24049::[2,2,2,3,3,137]) (by decide +kernel) (by decide) (Zv Qf3 (Xw (by decide +kernel))))
theorem Vn:Pr 1423316023:=Yo (by decide) (XU (g:=3) (l:=237219337::[2,3]) (by decide +kernel) (by decide) (Zv Qai (Xw (by decide +kernel))))
theorem JH:Fer 2305843009195868161:=XU (g:=14) (l:=1423316023::[2,2,2,2,2,2,2,2,2,2,2,2,2,2,2,2,2,2,2,2,3,5,103]) (by decide +kernel) (by decide) (Zv Vn (Xw (by decide +kernel)))
theorem Pr.prm{n:Nat}(h:Pr n):Prm n:=⟨h.1,fun x y hd=>by
 have h2:n ∣ x.natAbs*y.natAbs:=by
  rw[← Int.natAbs_mul];exact Int.ofNat_dvd_left.1 hd
 rcases h.euclid h2 with h3|h3
 ·exact .inl (Int.ofNat_dvd_left.2 h3)
 ·exact .inr (Int.ofNat_dvd_left.2 h3)⟩
structure GF(n:Nat):Prop where
 fok:FOK n (Jj n)
 prm:Prm n
 lo:2305843009000000000<n
 hi:n<2305843009213693952
theorem zZ{n:Nat}(h1:2305843009000000000<n)(h2:n<2305843009213693952)(h:Fer n):GF n:=⟨Qlg (by omega) (by omega) h,(Yo (by omega) h).prm,h1,h2⟩
def tabG:List (Nat×Nat×Nat):=[(15,13,1681162619342215248),(27,5,1308300859968897983),(37,3,185117037529818557),(87,5,1504684988245386521),(94,3,1033797205708045575),(99,5,297282434563275721),(127,3,1733940720819854913),(135,7,1454513390878286822)]
open Go.Ab
set_option maxHeartbeats 16000000
set_option maxRecDepth 20000
attribute [local irreducible] Qk wA Xv Xs QC Qu QP Q6
def Yr(i:Nat):Nat:=2305843009213562881-131072*i
def Js(n b:Nat):Nat:=YL n 64 1 b ((n-1)/131072)
def JW(n b:Nat):Bool:=YL n 64 1 (Js n b) 65536==n-1
abbrev fPg(l:List (Nat×Nat)):List P2:=l.map fun x=>(SV.int .u64 (x.1:Int),SV.int .u64 (x.2:Int))
def XR(i:Nat):List (Nat×Nat):=(tabG.filter fun x=>decide (x.1<i)).map fun x=>(Yr x.1,x.2.2)
theorem Qiv:((List.range 136).all fun i=>prM (Yr i)==tabG.any fun x=>x.1==i)=true:=by decide +kernel
theorem QfZ{i:Nat}(h:i<136):prM (Yr i)=tabG.any fun x=>x.1==i:=by
 have:=G4.1 Qiv i (Hl.2 h)
 exact eq_of_beq this
def QfR(x:Nat×Nat×Nat):Bool:=JW (Yr x.1) x.2.1&&(((List.range x.2.1).all fun b=>decide (b<2) || JW (Yr x.1) b==false)&&(Js (Yr x.1) x.2.1==x.2.2&&(decide (2<=x.2.1)&&decide (x.2.1<=100))))
theorem QfQ:tabG.all QfR=true:=by decide +kernel
structure RootAtg(n B r:Nat):Prop where
 ok:JW n B=true
 no:∀ b,2<=b->b<B->JW n b=false
 eq:Js n B=r
 two:2<=B
 le:B<=100
theorem QkX{n B:Nat}(h:((List.range B).all fun b=>decide (b<2) || JW n b==false)=true):∀ b,2<=b->b<B->JW n b=false:=fun b h1 h2=>by
 have:=G4.1 h b (Hl.2 h2)
 rw[Bool.or_eq_true,decide_eq_true_iff]at this
 rcases this with h|h
 ·omega
 ·exact eq_of_beq h
theorem Qil{x:Nat×Nat×Nat}(h:x∈tabG):RootAtg (Yr x.1) x.2.1 x.2.2:=by
 have:=G4.1 QfQ x h
 unfold QfR at this
 simp only[Bool.and_eq_true,decide_eq_true_iff,beq_iff_eq]at this
 obtain⟨h1,h2,h3,h4,h5⟩:=this
 exact⟨h1,QkX h2,h3,h4,h5⟩
structure F95g(q5 n r:Nat)(s:SV)(ps:List P2)(h0 h:Qa):Prop where
 x:Ext h0 h
 c5:Cel h q5 (.int .u64 (n:Nat)) (.int .u64 (r:Nat))
 o:OwnD h0 h s ps
 l:h0.length<=q5
theorem F95g.ext{q5 n r:Nat}{s:SV}{ps:List P2}{h0 h h':Qa}(f:F95g q5 n r s ps h0 h)(e:Ext h h'):F95g q5 n r s ps h0 h':=⟨f.x.trans e,f.c5.ext e,f.o.ext e,f.l⟩
def QhH(q5 n B c:Nat)(s:SV)(ps:List P2)(h0:Qa)(m:Nat)(E:Env)(h:Qa):Prop:=∃ b r,2<=b/\b<=B/\m=B-b/\F95g q5 n r s ps h0 h ∧
 E.keep [0,3,4,5,6]=[(0,some (.sc (.int .i64 (c:Nat)))),(3,some (.sc s)),(4,some (u n)),(5,some (.sc (.ptr q5 0))),(6,some (u b))]
def Qkd(q5 n r c:Nat)(s:SV)(ps:List P2)(h0:Qa)(ex:Ex)(E:Env)(h:Qa):Prop:=ex = .ex 2/\F95g q5 n r s ps h0 h ∧
 ∃ a b,E=[(0,some (.sc (.int .i64 (c:Nat)))),(3,some (.sc s)),(4,some (u n)),(5,some (.sc (.ptr q5 0))),(6,a),(35,b)]
theorem Qey(q5 n B R c:Nat)(s:SV)(ps:List P2)(h0:Qa)(hn:2<n/\n<9223372036854775808)(hB:RootAtg n B R)(m:Nat)(E:Env)(h:Qa)(hI:QhH q5 n B c s ps h0 m E h) :
  wA FT HKt QjK (E.keep [0,3,4,5,6]) h (Qu (QhH q5 n B c s ps h0) m (Qkd q5 n R c s ps h0)):=by
 obtain⟨b,r,h2,hb,rfl,f,hE⟩:=hI
 rw[hE]
 have le:=hB.le
 have c5:=f.c5
 have k1:=fun H (r':Nat)=>yM H n r' b ((n-1)/131072) ⟨by omega,by omega⟩ (by omega) (by omega)
 have hlt:YL n 64 1 b ((n-1)/131072)<18446744073709551616:=GJ (Jh 64 1 b _ (by omega)) (by omega)
 have k2:=fun H=>yM H n (YL n 64 1 b ((n-1)/131072)) (YL n 64 1 b ((n-1)/131072)) 65536 ⟨by omega,by omega⟩ hlt (by omega)
 have eR:YL n 64 1 b ((n-1)/131072)=Js n b:=rfl
 rw[eR]at k1 k2 hlt
 have hsh:((n:Int)-1)/((2^17:Nat):Int)=(((n-1)/131072:Nat):Int):=by omega
 have e1:((n:Int)-1)=((n-1:Nat):Int):=by omega
 have hlt2:YL n 64 1 (Js n b) 65536<n:=Jh 64 1 _ _ (by omega)
 by_cases hok:JW n b=true
 ·have hv:YL n 64 1 (Js n b) 65536=n-1:=eq_of_beq hok
  have:b=B:=by
   apply Classical.byContradiction
   intro hne
   have:=hB.no b h2 (by omega)
   rw[this]at hok;cases hok
  subst this
  have eq:=hB.eq
  rw[hv]at k2
  repeat' first|apply Qh|apply Qc|apply Xc|apply Qz|apply Q5|apply Qf|(refine JU ?_ ?_;rfl)|(apply Qg;refine Qi rfl ?_)|(apply Qe;first|refine QM rfl rfl rfl rfl rfl ?_|refine Q7 rfl rfl rfl rfl rfl rfl ?_)|(apply Qb;first|refine Qv rfl c5 ?_|refine QS rfl ?_|(refine XI rfl rfl (by omega) ?_)|(refine XQ (q:=17) rfl rfl rfl (by decide) ?_;rw[hsh])|(refine Qd rfl (k1 _ _) ?_;rintro v1 h1 ⟨x1,rfl⟩;have f1:=f.ext x1;have c6:=f1.c5)|(refine ZO rfl rfl c6 ?_;intro h2 w2;have c7:=w2.cel)|refine Qv rfl c7 ?_|refine Qt rfl c7 ?_|(refine Qd rfl (k2 _) ?_;rintro v3 h3 ⟨x3,rfl⟩)|refine Qn rfl ?_|refine XC rfl rfl (by omega) ?_)
  exact Xj ⟨rfl,⟨(w2.ext f1.x f1.l).trans x3,by rw[← eq];exact c7.ext x3,(f1.o.wrC w2).ext x3,f1.l⟩,_,_,rfl⟩
 ·have hv:YL n 64 1 (Js n b) 65536≠n-1:=fun e=>hok (by unfold JW;rw[e];simp)
  have hbB:b<B:=by
   rcases Gt b B with h|h
   ·exact h
   ·have:b=B:=by omega
    subst this;exact absurd hB.ok hok
  generalize YL n 64 1 (Js n b) 65536=V at *
  repeat' first|apply Qh|apply Qc|apply Qz|apply QV|apply Qm|apply Qf|(apply Qg;refine Qj rfl ?_)|(apply Qe;first|refine QM rfl rfl rfl rfl rfl ?_|refine Q7 rfl rfl rfl rfl rfl rfl ?_)|(apply Qb;first|refine Qv rfl c5 ?_|refine QS rfl ?_|(refine XI rfl rfl (by omega) ?_)|(refine XQ (q:=17) rfl rfl rfl (by decide) ?_;rw[hsh])|(refine Qd rfl (k1 _ _) ?_;rintro v1 h1 ⟨x1,rfl⟩;have f1:=f.ext x1;have c6:=f1.c5)|(refine ZO rfl rfl c6 ?_;intro h2 w2;have c7:=w2.cel)|refine Qv rfl c7 ?_|refine Qt rfl c7 ?_|(refine Qd rfl (k2 _) ?_;rintro v3 h3 ⟨x3,rfl⟩)|refine YX rfl rfl (by omega) ?_|refine Qn rfl ?_|refine Xk rfl rfl (by omega) ?_)
  exact Xb (j:=B-(b+1)) (by omega) ⟨b+1,Js n b,by omega,by omega,rfl,⟨(w2.ext f1.x f1.l).trans x3,c7.ext x3,(f1.o.wrC w2).ext x3,f1.l⟩,rfl⟩
def I95g(c:Nat)(h0:Qa)(m:Nat)(E:Env)(h:Qa):Prop:=∃(i:Nat) (s:SV),i<=136/\m=136-i/\(XR i).length<=c/\Ext h0 h/\OwnD h0 h s (fPg (XR i)) ∧
 E.keep [0,3,4]=[(0,some (.sc (.int .i64 (c:Nat)))),(3,some (.sc s)),(4,some (u (Yr i)))]
def R95g(c:Nat)(h0:Qa)(ex:Ex)(E:Env)(h:Qa):Prop:=ex = .ex 0/\Ext h0 h/\∃(i:Nat) (s:SV),i<=136/\(XR i).length=c/\OwnD h0 h s (fPg (XR i)) ∧
 ∃ a b d,E=[(0,a),(3,some (.sc s)),(4,b),(12,d)]
theorem OwnD.len8{h0 h:Qa}{s:SV}{l:List (Nat×Nat)}(o:OwnD h0 h s (fPg l)):Yv false s=some (l.length:Int):=by
 have:=o.is.len
 rw[Gp]at this
 exact this
theorem QcS(i:Nat):(XR i).length<=8:=by
 unfold XR
 rw[Gp]
 exact List.length_filter_le _ _
theorem QbU{i:Nat}(h:∀ x∈tabG,x.1≠i):XR (i+1)=XR i:=by
 unfold XR
 congr 1
 refine List.filter_congr fun x hx=>?_
 have:=h x hx
 exact decide_eq_decide.2 (by omega)
theorem QbW:(tabG.all fun x=>XR (x.1+1)==XR x.1++[(Yr x.1,x.2.2)])=true:=by decide +kernel
theorem QcR{x:Nat×Nat×Nat}(h:x∈tabG):XR (x.1+1)=XR x.1++[(Yr x.1,x.2.2)]:=eq_of_beq (G4.1 QbW x h)
theorem QfC(c:Nat)(hc:1<=c/\c<=8)(h0:Qa)(m:Nat)(E:Env)(h:Qa)(hI:I95g c h0 m E h) :
  wA FT HKt QjL (E.keep [0,3,4]) h (Qu (I95g c h0) m (R95g c h0)):=by
 obtain⟨i,s,hi,rfl,hl,x,o,hE⟩:=hI
 rw[hE]
 have ls:=OwnD.len8 o
 by_cases hlt:(XR i).length<c
 ·have hi28:i<136:=by
   rcases Gt i 136 with h|h
   ·exact h
   ·have:i=136:=by omega
    subst this
    have:(XR 136).length=8:=by decide
    omega
  have hcl:2305843000000000000<Yr i/\Yr i<9223372036854775808:=by unfold Yr;omega
  have hc1:Yr (i+1)+131072=Yr i:=by unfold Yr;omega
  have k118:=fun H=>Qef H (Yr i) ⟨by omega,by omega⟩
  have hpr:=QfZ hi28
  by_cases hp:∃ x∈tabG,x.1=i
  ·have hp1:prM (Yr i)=true:=by rw[hpr,List.any_eq_true];obtain⟨x,h1,h2⟩:=hp;exact⟨x,h1,beq_iff_eq.2 h2⟩
   rw[hp1]at k118
   obtain⟨B,R,ra,hf⟩:∃ B R,RootAtg (Yr i) B R/\XR (i+1)=XR i++[(Yr i,R)]:=by
    obtain⟨x,h1,rfl⟩:=hp
    exact⟨x.2.1,x.2.2,Qil h1,QcR h1⟩
   have rl:=fun q5 h1 (o:OwnD h0 h1 s (fPg (XR i)))=>Qey q5 (Yr i) B R c s (fPg (XR i)) h0 ⟨by omega,hcl.2⟩ ra
   have two:=ra.two
   clear ra hpr hp1
   generalize hn:Yr i=n at *
   generalize hn1:Yr (i+1)=n1 at *
   have en:((n:Int)-131072)=(n1:Nat):=by omega
   repeat' first|apply Qh|apply Qc|apply Qz|apply Qm|apply Qf|(apply Qg;first|refine Qi rfl ?_|refine Qj rfl ?_)|(apply Qe;first|refine QA rfl rfl rfl rfl ?_|refine QM rfl rfl rfl rfl rfl ?_)|(apply Qb;first|refine QG rfl ls ?_|(refine Qd rfl (k118 _) ?_;rintro v1 h1 ⟨x1,rfl⟩)|refine Xp rfl rfl ?_|(refine QT rfl ?_;intro h2 x2 c5)|refine Qn rfl ?_|refine XX rfl ?_|refine QH rfl rfl (by omega) ?_)
   refine XJ (QhH h1.length n B c s (fPg (XR i)) h0) (B-2) (Qkd h1.length n R c s (fPg (XR i)) h0) ⟨2,0,Ge _,two,rfl,⟨(x.trans x1).trans x2,c5,(o.ext x1).ext x2,by have:=x.len;have:=x1.len;omega⟩,rfl⟩ (rl h1.length h2 ((o.ext x1).ext x2)) ?_
   rintro ex E' h3 ⟨rfl,f3,_,_,rfl⟩
   have c3:=f3.c5
   repeat' first|apply Qc|apply QV|apply Q8|apply Qf|(apply Qe;refine Qq rfl rfl rfl ?_)|(apply Qb;first|refine Qv rfl c3 ?_|(refine QaI rfl ?_;intro h4 x4 s4)|(refine Us (f3.x.trans x4) (f3.o.ext x4) rfl rfl s4 (by have:=QcS i;simp only[Gp,Yh];omega) ?_;intro s5 h5 o5 x5 fr5 l5)|(refine XI rfl rfl (by omega) ?_;rw[en])|refine Qn rfl ?_)
   refine Xb (j:=136-(i+1)) (by omega) ⟨i+1,s5,by omega,rfl,by rw[hf];simp;omega,x5,?_,by rw[hn1];rfl⟩
   rw[hf]
   simpa using o5
  ·have hp1:prM (Yr i)=false:=by
    rw[hpr,List.any_eq_false]
    exact fun x hx e=>hp ⟨x,hx,beq_iff_eq.1 e⟩
   rw[hp1]at k118
   have hf:=QbU (i:=i) (fun x hx e=>hp ⟨x,hx,e⟩)
   generalize hn:Yr i=n at *
   generalize hn1:Yr (i+1)=n1 at *
   have en:((n:Int)-131072)=(n1:Nat):=by omega
   repeat' first|apply Qh|apply Qc|apply Xc|apply Qz|apply Q8|apply Qm|apply Q5|apply Qf|(apply Qg;refine Qi rfl ?_)|(apply Qe;first|refine Qq rfl rfl rfl ?_|refine QA rfl rfl rfl rfl ?_)|(apply Qb;first|refine QG rfl ls ?_|(refine Qd rfl (k118 _) ?_;rintro v1 h1 ⟨x1,rfl⟩)|(refine XI rfl rfl (by omega) ?_;rw[en])|refine Qn rfl ?_|refine YW rfl ?_|refine QH rfl rfl (by omega) ?_)
   exact Xb (j:=136-(i+1)) (by omega) ⟨i+1,s,by omega,rfl,by rw[hf];exact hl,x.trans x1,by rw[hf];exact o.ext x1,by rw[hn1];rfl⟩
 ·repeat' first|apply Qh|apply Qc|apply Xc|apply Q5|apply Qf|(apply Qg;refine Qj rfl ?_)|(apply Qe;refine QA rfl rfl rfl rfl ?_)|(apply Qb;first|refine QG rfl ls ?_|refine Qn rfl ?_|refine QW rfl rfl (by omega) ?_)
  exact Xj ⟨rfl,x,i,s,hi,by omega,o,_,_,_,rfl⟩
def fldsg:List (Nat×Nat):=tabG.map fun x=>(Yr x.1,x.2.2)
theorem QbV{i:Nat}(h:(XR i).length=8):XR i=fldsg:=by
 unfold XR at h ⊢
 unfold fldsg
 congr 1
 rw[Gp]at h
 exact List.Sublist.eq_of_length List.filter_sublist h
theorem QgJ:∀ x∈fldsg,GF x.1:=by
 intro x hx
 obtain⟨y,hy,rfl⟩:=GA.1 hx
 simp only[tabG,GT,List.not_mem_nil,or_false]at hy
 rcases hy with rfl|rfl|rfl|rfl|rfl|rfl|rfl|rfl
 ·exact zZ (by decide) (by decide) JA
 ·exact zZ (by decide) (by decide) JB
 ·exact zZ (by decide) (by decide) JC
 ·exact zZ (by decide) (by decide) JD
 ·exact zZ (by decide) (by decide) JE
 ·exact zZ (by decide) (by decide) JF
 ·exact zZ (by decide) (by decide) JG
 ·exact zZ (by decide) (by decide) JH
theorem Qi3(h0:Qa)(c:Nat)(hc8:c=8):∃ r h',Cal FT HKt 95 [.sc (.int .i64 (c:Nat))] h0 r h'/\Ext h0 h'/\∃ s,r = .sc s/\OwnD h0 h' s (fPg fldsg):=by
 have hc:1<=c/\c<=8:=by omega
 refine Cal.of (F:=a95) rfl rfl rfl ?_
 repeat' first|apply Qh|apply Qc|apply Qz|apply Qf|(apply Qe;first|refine Qp rfl ?_|refine Qx rfl rfl ?_|refine Qq rfl rfl rfl ?_)|(apply Qb;first|(refine zW (Ext.refl h0) rfl rfl ⟨by decide,by omega,by unfold Yh;omega⟩ ?_;intro s1 h1 o1 x1 x1' l1)|refine Qn rfl ?_)
 have e0:List.replicate ((0:Int)).toNat (SV.int .u64 0,SV.int .u64 0)=fPg (XR 0):=by decide
 rw[e0]at o1
 refine XJ (I95g c h0) 136 (R95g c h0) ⟨0,s1,by omega,rfl,by rw[show XR 0=[] by decide];exact Gs _,x1,o1,rfl⟩ (QfC c hc h0) ?_
 rintro ex E' h2 ⟨rfl,x2,i,s2,hi,hl,o2,_,_,_,rfl⟩
 rw[QbV (by omega)]at o2
 repeat' first|apply Qh|apply Qc|apply Q8|apply Qs|apply Qf|(apply Qe;refine Qp rfl ?_)|(apply Qb;refine Qn rfl ?_)
 exact⟨.inr rfl,x2,s2,rfl,o2⟩
end Go.Proofs.YtofknpknogfijaaGreatDoor
namespace Go.Proofs.YtofknpknogfijaaGreatDoor
open Go.Ab
set_option linter.all false
variable [HB]
def Dv(d p:Int->Int):Prop:=∃ s:List Tm,∀ e,p e=mulT s d e
theorem Dv.trans{a b c:Int->Int}(h:Dv a b)(h2:Dv b c):Dv a c:=by
 obtain⟨s,hs⟩:=h
 obtain⟨t,ht⟩:=h2
 exact⟨mlT t s,fun e=>by rw[YG,ht];exact ZX hs t e⟩
theorem Dv.comb{d p q f:Int->Int}(hp:Dv d p)(hq:Dv d q)(h:Mk p q f):Dv d f:=by
 obtain⟨s,hs⟩:=hp
 obtain⟨t,ht⟩:=hq
 obtain⟨u,v,h⟩:=h
 exact⟨mlT u s++mlT v t,fun e=>by rw[h,XH,YG,YG,ZX hs,ZX ht]⟩
theorem Dv.mul(s:List Tm){d p:Int->Int}(h:Dv d p):Dv d (mulT s p):=by
 obtain⟨t,ht⟩:=h
 exact⟨mlT s t,fun e=>by rw[YG];exact ZX ht s e⟩
theorem Qdy:∀(m:Nat) (g:Int->Int) (e0:Int),(g e0).natAbs=m->g e0≠0->∃(c:Int) (G:Int->Int),0<c/\Prim G/\∀ e,g e=c*G e:=by
 intro m
 induction m using Nat.strongRecOn with
 | _ m ih =>
  intro g e0 hm h0
  by_cases hp:Prim g
  ·exact⟨1,g,by decide,hp,fun e=>(G5 _).symm⟩
  ·obtain⟨d,hd,h1⟩:∃ d:Nat,(∀ e,(d:Int) ∣ g e)/\d≠1:=Classical.byContradiction fun h=>hp fun d hd=>Classical.byContradiction fun h2=>h ⟨d,hd,h2⟩
   have hd0:d≠0:=by
    rintro rfl
    have:=hd e0
    rw[Int.natCast_zero,Int.zero_dvd]at this
    exact h0 this
   have e1:∀ e,g e=d*(g e/d):=fun e=>(Hq (hd e)).symm
   have h2:g e0/d≠0:=fun h=>h0 (by rw[e1,h,GE])
   obtain⟨c,G,hc,hG,he⟩:=ih (g e0/d).natAbs (by
    have h3:(g e0).natAbs=d*(g e0/d).natAbs:=by
     conv=>lhs;rw[e1 e0]
     rw[He,GL]
    have h4:0<(g e0/d).natAbs:=Int.natAbs_pos.2 h2
    have h5:1*(g e0/d).natAbs<d*(g e0/d).natAbs:=Nat.mul_lt_mul_of_pos_right (by omega) h4
    omega) (fun e=>g e/d) e0 rfl h2
   exact⟨d*c,G,Int.mul_pos (by omega) hc,hG,fun e=>by rw[e1,he e,GB]⟩
theorem Prim.ne{G:Int->Int}(h:Prim G):∃ e,G e≠0:=Classical.byContradiction fun h2=>by
 have:=h 0 fun e=>by
  have:G e=0:=Classical.byContradiction fun h3=>h2 ⟨e,h3⟩
  rw[this];exact GO _
 omega
structure GcdOf(p q G:Int->Int):Prop where
 prim:Prim G
 wd:∃ n,Wd n G
 bz:∃ c:Int,c≠0/\Mk p q fun e=>c*G e
 left:Dv G p
 right:Dv G q
theorem Qlf{p q:Int->Int}{m:Nat}(hp:Wd m p)(hq:Wd m q)(h0:∃ e,p e≠0):∃ G,GcdOf p q G:=by
 obtain⟨g,hg,⟨e0,he0⟩,⟨n,hw⟩,hd⟩:=bez hp hq h0
 obtain⟨c,G,hc,hG,he⟩:=Qdy _ g e0 rfl he0
 have hwG:Wd n G:=by
  obtain⟨lo,hw⟩:=hw
  exact⟨lo,fun e h=>hw e (by rw[he];exact GN (by omega) h)⟩
 have key:∀ f,Mk p q f->(∃ j,Wd j f)->Dv G f:=fun f hf hj=>by
  obtain⟨k,s,hk,hs⟩:=hd f hf hj
  exact QgG hG hwG _ k f (scT c s) rfl hk fun e=>by
   rw[hs,Yi,J0 s G G g c 0 (fun e=>by rw[he];omega)];omega
 refine⟨G,hG,⟨n,hwG⟩,⟨c,by omega,?_⟩,key p (Mk.left p q) ⟨m,hp⟩,key q (Mk.right p q) ⟨m,hq⟩⟩
 obtain⟨u,v,h⟩:=hg
 exact⟨u,v,fun e=>(he e).symm.trans (h e)⟩
theorem GcdOf.dv{p q G D:Int->Int}(g:GcdOf p q G)(hD:Prim D){n:Nat}(hw:Wd n D)(hp:Dv D p)(hq:Dv D q):Dv D G:=by
 obtain⟨c,hc,hm⟩:=g.bz
 obtain⟨s,hs⟩:=Dv.comb hp hq hm
 exact QgG hD hw _ c G s rfl hc hs
structure Zr(I:Int->Prop):Prop where
 zero:I 0
 add:∀ x y,I x->I y->I (x+y)
 mul:∀ x y,I y->I (x*y)
 pr:∀ x y,I (x*y)->I x∨I y
theorem zr0:Zr fun x=>x=0:=⟨rfl,fun x y h1 h2=>by rw[h1,h2];rfl,fun x y h=>by rw[h,GE],fun x y h=>Int.mul_eq_zero.1 h⟩
theorem zrP{P:Nat}(h:Prm P):Zr fun x=>(P:Int) ∣ x:=⟨GO _,fun x y=>Int.dvd_add,fun x y h=>Int.dvd_trans h (Hv _ _),h.2⟩
variable {I:Int->Prop}
theorem Zr.sub(z:Zr I){x y:Int}(h:I (x+y))(hy:I y):I x:=by
 have:=z.add _ _ h (z.mul (-1) y hy)
 rwa [show x+y + -1*y=x by omega]at this
theorem Zr.mulT(z:Zr I){f:Int->Int}:∀ {s:List Tm} {e:Int},(∀ t∈s,I (f (e-t.1)))->I (mulT s f e)
 | [],_,_=>z.zero
 | t::s,e,h=>z.add _ _ (z.mul _ _ (h t (.head _))) (Zr.mulT z fun u hu=>h u (.tail _ hu))
theorem ZY(z:Zr I){g:Int->Int}{j:Int}(hj:¬ I (g j))(hl:∀ e,e<j->I (g e)):∀ s:List Tm,Vt s->(∃ t∈s,¬ I t.2)->∃ t∈s,¬ I t.2/\¬ I (mulT s g (t.1+j))/\∀ u∈s,¬ I u.2->t.1<=u.1
 | [],_,h=>by obtain⟨t,ht,-⟩:=h;simp at ht
 | t::s,h,hs=>by
  obtain⟨h1,h2⟩:=Hm.1 h
  by_cases ht:I t.2
  ·obtain⟨u,hu,a,b,c⟩:=ZY z hj hl s h2 (by
    obtain⟨u,hu,h3⟩:=hs
    rcases GT.1 hu with rfl|hu
    ·exact absurd ht h3
    ·exact⟨u,hu,h3⟩)
   refine⟨u,.tail _ hu,a,fun h3=>b ?_,fun v hv h3=>?_⟩
   ·have h4:I (t.2*g (u.1+j-t.1)):=by rw[GX];exact z.mul _ _ ht
    have h5:I (mulT s g (u.1+j)+t.2*g (u.1+j-t.1)):=by rw[Int.add_comm];exact h3
    exact z.sub h5 h4
   ·rcases GT.1 hv with rfl|hv
    ·exact absurd ht h3
    ·exact c v hv h3
  ·refine⟨t,.head _,ht,fun h3=>?_,fun v hv _=>?_⟩
   ·have h4:I (mulT s g (t.1+j)):=z.mulT fun u hu=>hl _ (by have:=h1 u hu;omega)
    have h5:I (t.2*g (t.1+j-t.1)):=z.sub h3 h4
    rw[show t.1+j-t.1=j by omega]at h5
    exact(z.pr _ _ h5).elim ht hj
   ·rcases GT.1 hv with rfl|hv
    ·exact Int.le_refl _
    ·exact Int.le_of_lt (h1 v hv)
def rvT(s:List Tm):List Tm:=s.reverse.map fun t=>(-t.1,t.2)
theorem Qh2{s:List Tm}(h:Vt s):Vt (rvT s):=by
 unfold Vt rvT
 rw[List.pairwise_map,List.pairwise_reverse]
 exact h.imp fun h=>by simp only;omega
theorem Qdp(f:Int->Int)(e:Int):∀ s:List Tm,mulT (rvT s) (fun x=>f (-x)) e=mulT s f (-e)
 | []=>rfl
 | t::s=>by
  have h1:rvT (t::s)=rvT s++[(-t.1,t.2)]:=by simp[rvT]
  rw[h1,XH,Qdp f e s,YM]
  simp only[mulT]
  rw[show -(e - -t.1) = -e-t.1 by omega]
  omega
theorem Ut(z:Zr I){g:Int->Int}{j:Int}(hj:¬ I (g j))(hl:∀ e,j<e->I (g e)){s:List Tm}(hs:Vt s)(he:∃ t∈s,¬ I t.2):∃ t∈s,¬ I t.2/\¬ I (mulT s g (t.1+j))/\∀ u∈s,¬ I u.2->u.1<=t.1:=by
 have mem:∀ {t:Tm},t∈rvT s↔(-t.1,t.2)∈s:=fun {t}=>by
  simp only[rvT,GA,List.mem_reverse]
  constructor
  ·rintro⟨u,hu,rfl⟩
   simpa using hu
  ·intro h
   exact⟨_,h,by simp⟩
 obtain⟨t,ht,a,b,c⟩:=ZY z (g:=fun x=>g (-x)) (j := -j) (by simpa using hj) (fun e h=>hl _ (by omega)) (rvT s) (Qh2 hs) (by
  obtain⟨t,ht,h⟩:=he
  exact⟨(-t.1,t.2),mem.2 (by simpa using ht),h⟩)
 refine⟨(-t.1,t.2),mem.1 ht,a,fun h=>b ?_,fun u hu h=>?_⟩
 ·rw[Qdp]
  rwa [show -(t.1 + -j) = -t.1+j by omega]
 ·have:=c (-u.1,u.2) (mem.2 (by simpa using hu)) h
  simp only at this ⊢
  omega
theorem wide(z:Zr I){g:Int->Int}{j0 j1:Int}(h0:¬ I (g j0))(hl:∀ e,e<j0->I (g e))(h1:¬ I (g j1))(hh:∀ e,j1<e->I (g e))(s:List Tm)(hne:∃ e,¬ I (mulT s g e)):∃ a b:Int,a<=b/\¬ I (mulT s g (a+j0))/\¬ I (mulT s g (b+j1)):=by
 obtain⟨s',a1,a2⟩:=JL s
 have hex:∃ t∈s',¬ I t.2:=Classical.byContradiction fun h=>by
  obtain⟨e,he⟩:=hne
  refine he ?_
  rw[← a2]
  have:∀ s:List Tm,(∀ t∈s,I t.2)->I (mulT s g e):=by
   intro s
   induction s with
   | nil=>intro _;exact z.zero
   | cons t s ih =>
    intro h
    refine z.add _ _ ?_ (ih fun u hu=>h u (.tail _ hu))
    rw[GX];exact z.mul _ _ (h t (.head _))
  exact this s' fun t ht=>Classical.byContradiction fun h2=>h ⟨t,ht,h2⟩
 obtain⟨t,ht,b1,b2,b3⟩:=ZY z h0 hl s' a1 hex
 obtain⟨u,hu,c1,c2,c3⟩:=Ut z h1 hh a1 hex
 exact⟨t.1,u.1,b3 u hu c1,by rwa [a2]at b2,by rwa [a2]at c2⟩
end Go.Proofs.YtofknpknogfijaaGreatDoor
namespace Go.Proofs.YtofknpknogfijaaGreatDoor
open Go.Ab
set_option linter.all false
variable [HB]
theorem Qaa{a:Int}:∀ {s:List Tm},(∀ u∈s,u.2≠0->u.1=a)->∃ c:Int,∀(f:Int->Int) (e:Int),mulT s f e=c*f (e-a)
 | [],_=>⟨0,fun f e=>by simp[mulT]⟩
 | t::s,h=>by
  obtain⟨c,hc⟩:=Qaa (s:=s) fun u hu=>h u (.tail _ hu)
  refine⟨t.2+c,fun f e=>?_⟩
  simp only[mulT,hc,Ho]
  by_cases h0:t.2=0
  ·rw[h0,GY,GY]
  ·rw[h t (.head _) h0]
theorem Qcr{G C:Int->Int}(hG:Prim G)(hd:Dv C G){i0 i1:Int}(h0:C i0≠0)(h1:C i1≠0)(hC:∀ e,C e≠0->i0<=e/\e<=i1)(hw:∀ j0 j1,G j0≠0->G j1≠0->j1-j0<=i1-i0):Dv G C:=by
 obtain⟨s,hs⟩:=hd
 obtain⟨s',a1,a2⟩:=JL s
 have hl:∀ e,e<i0->C e=0:=fun e he=>Decidable.byContradiction fun h=>by have:=hC e h;omega
 have hh:∀ e,i1<e->C e=0:=fun e he=>Decidable.byContradiction fun h=>by have:=hC e h;omega
 have hex:∃ t∈s',¬ t.2=0:=Classical.byContradiction fun h=>by
  obtain⟨e,he⟩:=hG.ne
  refine he ?_
  rw[hs,← a2]
  obtain⟨c,hc⟩:=Qaa (a:=0) (s:=s') fun u hu h2=>absurd ⟨u,hu,h2⟩ h
  have:∀ s:List Tm,(∀ t∈s,t.2=0)->mulT s C e=0:=by
   intro s
   induction s with
   | nil=>intro _;rfl
   | cons t s ih =>
    intro h
    simp only[mulT]
    rw[h t (.head _),ih fun u hu=>h u (.tail _ hu)];simp
  exact this s' fun t ht=>Decidable.byContradiction fun h2=>h ⟨t,ht,h2⟩
 obtain⟨t,ht,b1,b2,b3⟩:=ZY zr0 (g:=C) h0 hl s' a1 hex
 obtain⟨u,hu,c1,c2,c3⟩:=Ut zr0 (g:=C) h1 hh a1 hex
 have e1:=hw (t.1+i0) (u.1+i1) (by rw[hs,← a2];exact b2) (by rw[hs,← a2];exact c2)
 obtain⟨c,hc⟩:=Qaa (a:=t.1) (s:=s') fun v hv h=>by
  have:=b3 v hv h
  have:=c3 v hv h
  omega
 have hGc:∀ e,G e=c*C (e-t.1):=fun e=>by rw[hs,← a2,hc]
 have hc1:c.natAbs=1:=hG _ fun e=>by rw[hGc];exact Int.dvd_trans (Int.natAbs_dvd.2 (Int.dvd_refl c)) (Int.dvd_mul_right _ _)
 refine⟨[(-t.1,c)],fun e=>?_⟩
 rw[YM,hGc,show e - -t.1-t.1=e by omega,← GB]
 have:c=1∨c = -1:=by omega
 rcases this with rfl|rfl <;> simp
theorem wideP{P:Nat}(hP:Prm P){g M:Int->Int}{j0 j1:Int}(h0:¬(P:Int) ∣ g j0)(h1:¬(P:Int) ∣ g j1)(hg:∀ e,g e≠0->j0<=e/\e<=j1)(s:List Tm)(hs:∀ e,(P:Int) ∣ M e-mulT s g e){lo hi:Int}(hM:∀ e,¬(P:Int) ∣ M e->lo<=e/\e<=hi)(hne:∃ e,¬(P:Int) ∣ M e):j1-j0<=hi-lo:=by
 have key:∀ e,¬(P:Int) ∣ mulT s g e->¬(P:Int) ∣ M e:=fun e h h2=>h (by
  have:=Int.dvd_sub h2 (hs e)
  rwa [show M e-(M e-mulT s g e)=mulT s g e by omega]at this)
 have hl:∀ e,e<j0->(P:Int) ∣ g e:=fun e he=>by
  have:g e=0:=Decidable.byContradiction fun h=>by have:=hg e h;omega
  rw[this];exact GO _
 have hh:∀ e,j1<e->(P:Int) ∣ g e:=fun e he=>by
  have:g e=0:=Decidable.byContradiction fun h=>by have:=hg e h;omega
  rw[this];exact GO _
 obtain⟨e,he⟩:=hne
 obtain⟨a,b,hab,x,y⟩:=wide (zrP hP) h0 hl h1 hh s ⟨e,fun h=>he (by
  have:=Int.dvd_add (hs e) h
  rwa [show M e-mulT s g e+mulT s g e=M e by omega]at this)⟩
 have:=hM _ (key _ x)
 have:=hM _ (key _ y)
 omega
structure IsGcd(p q g:Int->Int):Prop where
 left:Dv g p
 right:Dv g q
 all:∀ d,(∃ n,Wd n d)->Dv d p->Dv d q->Dv d g
theorem IsGcd.symm{p q g:Int->Int}(h:IsGcd p q g):IsGcd q p g:=⟨h.right,h.left,fun d w a b=>h.all d w b a⟩
theorem JZ(s:List Tm)(c:Int)(f:Int->Int)(e:Int):mulT s (fun x=>c*f x) e=c*mulT s f e:=by
 have:=J0 s f f (fun x=>c*f x) c 0 (fun e=>by simp) e
 rw[this];simp
theorem Dv.zero{d p:Int->Int}(h:Dv d p)(hd:∀ e,d e=0)(e:Int):p e=0:=by
 obtain⟨s,hs⟩:=h
 rw[hs]
 exact yY fun t _=>hd _
theorem U6{F:Int}(hF:F≠0){p C:Int->Int}{n:Nat}(hC:Prim C)(hw:Wd n C)(hp:∀ e,F ∣ p e)(hd:Dv C p):Dv (fun e=>F*C e) p:=by
 obtain⟨s,hs⟩:=hd
 obtain⟨s',hs'⟩:=QgG hC hw _ F (fun e=>p e/F) s rfl hF fun e=>by rw[Hq (hp e),hs]
 exact⟨s',fun e=>by rw[JZ,← hs',Hq (hp e)]⟩
theorem QgH{p q G C:Int->Int}{F:Int}{n:Nat}(hF:F≠0)(g:GcdOf p q G)(h0:∃ e,p e≠0)(hC:Prim C)(hw:Wd n C)(hp:∀ e,F ∣ p e)(hq:∀ e,F ∣ q e)(hF2:∀ c:Int,(∀ e,c ∣ p e)->(∀ e,c ∣ q e)->c ∣ F)(dp:Dv C p)(dq:Dv C q)(dG:Dv G C):IsGcd p q fun e=>F*C e:=by
 refine⟨U6 hF hC hw hp dp,U6 hF hC hw hq dq,fun d wd d1 d2=>?_⟩
 obtain⟨e0,he0⟩:∃ e,d e≠0:=Classical.byContradiction fun h=>by
  obtain⟨e,he⟩:=h0
  exact he (d1.zero (fun e=>Decidable.byContradiction fun h2=>h ⟨e,h2⟩) e)
 obtain⟨c,D,hc,hD,hd⟩:=Qdy _ d e0 rfl he0
 obtain⟨m,lo,wd⟩:=wd
 have wD:Wd m D:=⟨lo,fun e h=>wd e (by rw[hd];exact GN (by omega) h)⟩
 have cut:∀ {f},Dv d f->Dv D f/\∀ e,c ∣ f e:=fun {f} h=>by
  obtain⟨s,hs⟩:=h
  have e1:∀ e,f e=c*mulT s D e:=fun e=>by rw[hs,ZX hd,JZ]
  exact⟨⟨scT c s,fun e=>by rw[Yi,e1]⟩,fun e=>by rw[e1];exact Int.dvd_mul_right _ _⟩
 obtain⟨a1,b1⟩:=cut d1
 obtain⟨a2,b2⟩:=cut d2
 obtain⟨k,hk⟩:=hF2 c b1 b2
 obtain⟨r,hr⟩:=(g.dv hD wD a1 a2).trans dG
 exact⟨scT k r,fun e=>by
  show F*C e=_
  rw[Yi,ZX hd,JZ,hr,hk,GB,Int.mul_left_comm]⟩
theorem QeI{p q g x y o:Int->Int}(h:IsGcd p q g)(s t:List Tm)(hx:∀ e,x e=mulT s (fun e=>if e=0 then 1 else 0) e)(hy:∀ e,y e=mulT t (fun e=>if e=0 then 1 else 0) e)(hp:∀ e,p e=mulT s g e)(hq:∀ e,q e=mulT t g e)(l:List Tm)(ho:∀ e,o e=mulT l (fun e=>if e=0 then 1 else 0) e)(s' t':List Tm)(h1:∀ e,x e=mulT s' o e)(h2:∀ e,y e=mulT t' o e):Dv (mulT l g) p/\Dv (mulT l g) q:=by
 have act:∀(a b:List Tm),(∀ e,mulT a (fun e=>if e=0 then 1 else 0) e=mulT b (fun e=>if e=0 then 1 else 0) e)->∀ f e,mulT a f e=mulT b f e:=by
  intro a b hab f e
  obtain⟨a',a1,a2⟩:=JL (a++scT (-1) b)
  have hz:∀ e,mulT a' (fun e=>if e=0 then 1 else 0) e=0:=fun e=>by
   rw[a2,XH,Yi,hab];omega
  have hall:∀ u∈a',u.2=0:=by
   refine Classical.byContradiction fun h=>?_
   obtain⟨t,ht,b1,b2,-⟩:=ZY zr0 (g:=fun e=>if e=0 then 1 else 0) (j:=0) (by simp) (fun e he=>if_neg (by omega)) a' a1 (Classical.byContradiction fun h2=>h fun u hu=>Decidable.byContradiction fun h3=>h2 ⟨u,hu,h3⟩)
   exact b2 (hz _)
  have h0:mulT a' f e=0:=by
   clear a1 a2 hz
   induction a' with
   | nil=>rfl
   | cons t s ih =>
    simp only[mulT]
    rw[hall t (.head _),ih fun u hu=>hall u (.tail _ hu)];simp
  rw[a2,XH,Yi]at h0
  omega
 have e1:∀ f e,mulT s f e=mulT (mlT s' l) f e:=act _ _ fun e=>by rw[← hx,h1,YG];exact ZX ho s' e
 have e2:∀ f e,mulT t f e=mulT (mlT t' l) f e:=act _ _ fun e=>by rw[← hy,h2,YG];exact ZX ho t' e
 exact⟨⟨s',fun e=>by rw[hp,e1,YG]⟩,⟨t',fun e=>by rw[hq,e2,YG]⟩⟩
theorem low0{g:Int->Int}{n:Nat}(hw:Wd n g)(h:∃ e,g e≠0):∃ j,g j≠0/\∀ e,g e≠0->j<=e:=by
 obtain⟨j,h1,h2⟩:=Qgl (P:=0) hw (by
  obtain⟨e,he⟩:=h
  exact⟨e,fun h3=>he (Int.zero_dvd.1 h3)⟩)
 refine⟨j,fun h3=>h1 (by rw[h3];exact GO _),fun e he=>?_⟩
 refine Decidable.byContradiction fun h3=>he ?_
 exact Int.zero_dvd.1 (h2 e (by omega))
theorem QiY{g:Int->Int}{n:Nat}(hw:Wd n g)(h:∃ e,g e≠0):∃ i0 i1,g i0≠0/\g i1≠0/\∀ e,g e≠0->i0<=e/\e<=i1:=by
 obtain⟨i0,a0,b0⟩:=low0 hw h
 obtain⟨lo,hw⟩:=hw
 obtain⟨j,a1,b1⟩:=low0 (g:=fun x=>g (-x)) (n:=n) ⟨-(lo+n)+1,fun e he=>by have:=hw _ he;omega⟩ (by
  obtain⟨e,he⟩:=h
  exact⟨-e,by simpa using he⟩)
 exact⟨i0,-j,a0,a1,fun e he=>⟨b0 e he,by have:=b1 (-e) (by simpa using he);omega⟩⟩
theorem yo{g h:Int->Int}{i0 i1 j0 j1:Int}(hg:∀ e,g e≠0->i0<=e/\e<=i1)(g0:∃ e,g e≠0)(h0:h j0≠0)(h1:h j1≠0)(hh:∀ e,h e≠0->j0<=e/\e<=j1)(hd:Dv h g)(hw:i1-i0<=j1-j0):∃ c a:Int,∀ e,g e=c*h (e-a):=by
 obtain⟨s,hs⟩:=hd
 obtain⟨s',a1,a2⟩:=JL s
 have hl:∀ e,e<j0->h e=0:=fun e he=>Decidable.byContradiction fun h=>by have:=hh e h;omega
 have hu:∀ e,j1<e->h e=0:=fun e he=>Decidable.byContradiction fun h=>by have:=hh e h;omega
 have hex:∃ t∈s',¬ t.2=0:=Classical.byContradiction fun hn=>by
  obtain⟨e,he⟩:=g0
  refine he ?_
  rw[hs,← a2]
  have:∀ s:List Tm,(∀ t∈s,t.2=0)->mulT s h e=0:=by
   intro s
   induction s with
   | nil=>intro _;rfl
   | cons t s ih =>
    intro h
    simp only[mulT]
    rw[h t (.head _),ih fun u hu=>h u (.tail _ hu)];simp
  exact this s' fun t ht=>Decidable.byContradiction fun h2=>hn ⟨t,ht,h2⟩
 obtain⟨t,ht,b1,b2,b3⟩:=ZY zr0 (g:=h) h0 hl s' a1 hex
 obtain⟨u,hu,c1,c2,c3⟩:=Ut zr0 (g:=h) h1 hu a1 hex
 have e1:=hg (t.1+j0) (by rw[hs,← a2];exact b2)
 have e2:=hg (u.1+j1) (by rw[hs,← a2];exact c2)
 obtain⟨c,hc⟩:=Qaa (a:=t.1) (s:=s') fun v hv h=>by
  have:=b3 v hv h
  have:=c3 v hv h
  omega
 exact⟨c,t.1,fun e=>by rw[hs,← a2,hc]⟩
theorem Qd6{g h:Int->Int}{m n:Nat}(wg:Wd m g)(wh:Wd n h)(g0:∃ e,g e≠0)(hgh:Dv g h)(hhg:Dv h g):∃ c a:Int,(c=1∨c = -1)/\∀ e,g e=c*h (e-a):=by
 have h0:∃ e,h e≠0:=Classical.byContradiction fun hn=>by
  obtain⟨e,he⟩:=g0
  exact he (hhg.zero (fun e=>Decidable.byContradiction fun h2=>hn ⟨e,h2⟩) e)
 obtain⟨i0,i1,p1,p2,p3⟩:=QiY wg g0
 obtain⟨j0,j1,q1,q2,q3⟩:=QiY wh h0
 have both:∃(c a c' a':Int),(∀ e,g e=c*h (e-a))/\∀ e,h e=c'*g (e-a'):=by
  rcases Int.le_total (i1-i0) (j1-j0) with hw|hw
  ·obtain⟨c,a,h1⟩:=yo p3 g0 q1 q2 q3 hhg hw
   have hc:c≠0:=fun h=>p1 (by rw[h1,h,GY])
   have hw2:j1-j0<=i1-i0:=by
    have x:=p3 (j0+a) (by rw[h1,show j0+a-a=j0 by omega];exact GN hc q1)
    have y:=p3 (j1+a) (by rw[h1,show j1+a-a=j1 by omega];exact GN hc q2)
    omega
   obtain⟨c',a',h2⟩:=yo q3 h0 p1 p2 p3 hgh hw2
   exact⟨c,a,c',a',h1,h2⟩
  ·obtain⟨c',a',h2⟩:=yo q3 h0 p1 p2 p3 hgh hw
   have hc:c'≠0:=fun h=>q1 (by rw[h2,h,GY])
   have hw2:i1-i0<=j1-j0:=by
    have x:=q3 (i0+a') (by rw[h2,show i0+a'-a'=i0 by omega];exact GN hc p1)
    have y:=q3 (i1+a') (by rw[h2,show i1+a'-a'=i1 by omega];exact GN hc p2)
    omega
   obtain⟨c,a,h1⟩:=yo p3 g0 q1 q2 q3 hhg hw2
   exact⟨c,a,c',a',h1,h2⟩
 obtain⟨c,a,c',a',h1,h2⟩:=both
 have h3:∀ e,g e=c*c'*g (e-a-a'):=fun e=>by rw[h1,h2,GB]
 have s1:a+a'=0:=by
  have x:=p3 (i0-a-a') (fun h=>p1 (by rw[h3,h,GE]))
  have y:=p3 (i1-a-a') (fun h=>p2 (by rw[h3,h,GE]))
  omega
 have h4:=h3 i0
 rw[show i0-a-a'=i0 by omega]at h4
 have h5:c*c'=1:=Int.eq_of_mul_eq_mul_right p1 (by rw[← h4,G5])
 have h6:c.natAbs=1:=Nat.dvd_one.1 ⟨c'.natAbs,by rw[← He,h5];rfl⟩
 exact⟨c,a,by omega,h1⟩
def stF(s:Nat)(f:Int->Int):Int->Int:=fun e=>if (s:Int) ∣ e then f (e/s) else 0
def stT(s:Nat)(l:List Tm):List Tm:=l.map fun t=>(t.1*s,t.2)
theorem V8{s:Nat}(hs:0<s)(f:Int->Int)(l:List Tm)(e:Int):mulT (stT s l) (stF s f) e=stF s (mulT l f) e:=by
 induction l with
 | nil=>unfold stF;split <;> rfl
 | cons t l ih =>
  have h1:mulT (stT s (t::l)) (stF s f) e=t.2*stF s f (e-t.1*s)+mulT (stT s l) (stF s f) e:=rfl
  rw[h1,ih]
  unfold stF
  by_cases h:(s:Int) ∣ e
  ·have h2:(s:Int) ∣ e-t.1*s:=Int.dvd_sub h (Hv _ _)
   rw[if_pos h,if_pos h,if_pos h2]
   have h3:(e-t.1*s)/(s:Int)=e/s-t.1:=by
    rw[Int.sub_ediv_of_dvd _ (Hv _ _),Int.mul_ediv_cancel _ (by omega)]
   rw[h3];rfl
  ·have h2:¬(s:Int) ∣ e-t.1*s:=fun h3=>h (by
    have:=Int.dvd_add h3 (Hv t.1 (s:Int))
    rwa [show e-t.1*s+t.1*s=e by omega]at this)
   rw[if_neg h,if_neg h,if_neg h2];simp
theorem Qco{s:Nat}(hs:0<s)(f:Int->Int)(e:Int):stF s f (e*s)=f e:=by
 unfold stF
 rw[if_pos (Hv _ _),Int.mul_ediv_cancel _ (by omega)]
theorem QhV{s:Nat}{f g h:Int->Int}(he:∀ e,h e=f e+g e)(e:Int):stF s h e=stF s f e+stF s g e:=by
 unfold stF
 split
 ·exact he _
 ·rfl
theorem Dv.st{s:Nat}(hs:0<s){d p:Int->Int}(h:Dv d p):Dv (stF s d) (stF s p):=by
 obtain⟨l,hl⟩:=h
 refine⟨stT s l,fun e=>?_⟩
 rw[V8 hs]
 unfold stF
 split
 ·exact hl _
 ·rfl
theorem Prim.st{s:Nat}(hs:0<s){f:Int->Int}(h:Prim f):Prim (stF s f):=fun d hd=>h d fun e=>by
 have:=hd (e*s)
 rwa [Qco hs]at this
theorem Wd.st{s n:Nat}(hs:0<s){f:Int->Int}(h:Wd n f):∃ m,Wd m (stF s f):=by
 obtain⟨lo,h⟩:=h
 refine⟨n*s,lo*s,fun e he=>?_⟩
 unfold stF at he
 split at he
 case isFalse=>exact absurd rfl he
 rename_i hd
 obtain⟨k,rfl⟩:=hd
 rw[Int.mul_ediv_cancel_left _ (by omega)]at he
 obtain⟨h1,h2⟩:=h k he
 rw[GX (s:Int) k]
 refine⟨Gy h1 (by omega),?_⟩
 have:k*(s:Int)<(lo+n)*s:=Int.mul_lt_mul_of_pos_right h2 (by omega)
 rw[Ho]at this
 rw[G3];exact this
theorem GcdOf.st{s:Nat}(hs:0<s){p q G:Int->Int}(h:GcdOf p q G):GcdOf (stF s p) (stF s q) (stF s G):=by
 obtain⟨n,hw⟩:=h.wd
 obtain⟨c,hc,u,v,hm⟩:=h.bz
 refine⟨h.prim.st hs,hw.st hs,⟨c,hc,stT s u,stT s v,fun e=>?_⟩,h.left.st hs,h.right.st hs⟩
 rw[V8 hs,V8 hs,← QhV (h:=fun e=>c*G e) hm]
 show c*stF s G e=stF s (fun e=>c*G e) e
 unfold stF
 by_cases hd:(s:Int) ∣ e
 ·rw[if_pos hd,if_pos hd]
 ·rw[if_neg hd,if_neg hd,GE]
def Dvp(P:Nat)(d f:Int->Int):Prop:=∃ s:List Tm,∀ e,(P:Int) ∣ f e-mulT s d e
theorem Dvp.of{P:Nat}{d f:Int->Int}(h:Dv d f):Dvp P d f:=by
 obtain⟨s,hs⟩:=h
 exact⟨s,fun e=>by rw[hs,Int.sub_self];exact GO _⟩
theorem Qgd(s:List Tm)(f g:Int->Int)(e:Int):mulT s (fun x=>f x-g x) e=mulT s f e-mulT s g e:=by
 rw[J0 s f g (fun x=>f x-g x) 1 (-1) (fun e=>by omega)];omega
theorem Dvp.comb{P:Nat}{d f g h:Int->Int}(hf:Dvp P d f)(hg:Dvp P d g)(a b:List Tm)(he:∀ e,(P:Int) ∣ h e-(mulT a f e+mulT b g e)):Dvp P d h:=by
 obtain⟨s,hs⟩:=hf
 obtain⟨t,ht⟩:=hg
 refine⟨mlT a s++mlT b t,fun e=>?_⟩
 rw[XH,YG,YG]
 have h1:(P:Int) ∣ mulT a (fun x=>f x-mulT s d x) e:=yH fun t _=>hs _
 have h2:(P:Int) ∣ mulT b (fun x=>g x-mulT t d x) e:=yH fun u _=>ht _
 rw[Qgd]at h1 h2
 have:=Int.dvd_add (he e) (Int.dvd_add h1 h2)
 rw[show h e-(mulT a f e+mulT b g e)+(mulT a f e-mulT a (mulT s d) e+(mulT b g e-mulT b (mulT t d) e))=h e-(mulT a (mulT s d) e+mulT b (mulT t d) e) by omega]at this
 exact this
theorem Dvp.cg{P:Nat}{d f g:Int->Int}(hf:Dvp P d f)(he:∀ e,(P:Int) ∣ g e-f e):Dvp P d g :=
 hf.comb hf [(0,1)] [] fun e=>by rw[Qau,Qbv,G2];exact he e
theorem Qas{P:Nat}{f:Int->Int}{e:Int}:∀ {s:List Tm},¬(P:Int) ∣ mulT s f e->∃ t∈s,¬(P:Int) ∣ t.2/\¬(P:Int) ∣ f (e-t.1)
 | [],h=>absurd (GO _) h
 | t::s,h=>by
  by_cases h1:(P:Int) ∣ t.2*f (e-t.1)
  ·obtain⟨u,a,b⟩:=Qas (s:=s) fun h2=>h (Int.dvd_add h1 h2)
   exact⟨u,.tail _ a,b⟩
  ·exact⟨t,.head _,fun h2=>h1 (Int.dvd_mul_of_dvd_left h2),fun h2=>h1 (Int.dvd_mul_of_dvd_right h2)⟩
theorem QiX{P:Nat}{G a:Int->Int}{s:List Tm}(hs:∀ e,a e=mulT s G e){j0 j1 lo hi:Int}(g0:G j0≠0)(g1:G j1≠0)(hg:∀ e,G e≠0->j0<=e/\e<=j1)(ha:∀ e,a e≠0->lo<=e/\e<=hi)(hl:¬(P:Int) ∣ a lo)(hh:¬(P:Int) ∣ a hi):¬(P:Int) ∣ G j0/\¬(P:Int) ∣ G j1:=by
 obtain⟨s',a1,a2⟩:=JL s
 have nz:∀ {x:Int},¬(P:Int) ∣ x->x≠0:=fun h h0=>h (by rw[h0];exact GO _)
 have gl:∀ e,e<j0->G e=0:=fun e he=>Decidable.byContradiction fun h=>by have:=hg e h;omega
 have gh:∀ e,j1<e->G e=0:=fun e he=>Decidable.byContradiction fun h=>by have:=hg e h;omega
 rw[hs,← a2]at hl hh
 obtain⟨t,ht,b1,b2⟩:=Qas hl
 obtain⟨u,hu,c1,c2⟩:=Qas hh
 obtain⟨t0,-,d1,d2,d3⟩:=ZY zr0 (g:=G) g0 gl s' a1 ⟨t,ht,nz b1⟩
 obtain⟨u0,-,f1,f2,f3⟩:=Ut zr0 (g:=G) g1 gh a1 ⟨u,hu,nz c1⟩
 have k1:=ha (t0.1+j0) (by rw[hs,← a2];exact d2)
 have k2:=ha (u0.1+j1) (by rw[hs,← a2];exact f2)
 have k3:=d3 t ht (nz b1)
 have k4:=f3 u hu (nz c1)
 have k5:=hg _ (nz b2)
 have k6:=hg _ (nz c2)
 exact⟨by rwa [show lo-t.1=j0 by omega]at b2,by rwa [show hi-u.1=j1 by omega]at c2⟩
def UQ:Int->Int:=fun e=>if e=0 then 1 else 0
theorem Qan{e:Int}(h:e≠0):UQ e=0:=if_neg h
theorem Qf5:Prim UQ:=fun d hd=>by
 have:=hd 0
 have h2:d ∣ 1:=Int.natCast_dvd_natCast.1 this
 exact Nat.dvd_one.1 h2
theorem QkT:Wd 1 UQ:=⟨0,fun e he=>by
 have:e=0:=Decidable.byContradiction fun h=>he (Qan h)
 omega⟩
theorem Qam(g:Int->Int)(lo:Int):∀(n:Nat) (e:Int),mulT ((List.range n).map fun k:Nat=>(lo+(k:Int),g (lo+(k:Int)))) UQ e=if lo<=e/\e<lo+n then g e else 0
 | 0,e=>by rw[if_neg (by omega)];rfl
 | n+1,e=>by
  rw[List.range_succ,List.map_append,XH,Qam g lo n e,G8,List.map_nil,YM]
  by_cases h:e=lo+n
  ·subst h
   rw[if_neg (by omega),if_pos (by omega),show lo+(n:Int)-(lo+n)=0 by omega]
   show (0:Int)+g (lo+n)*1=_
   omega
  ·rw[Qan (by omega:e-(lo+n)≠0),GE,G2]
   by_cases h2:lo<=e/\e<lo+n
   ·rw[if_pos h2,if_pos (by omega)]
   ·rw[if_neg h2,if_neg (by omega)]
theorem Qf6{g:Int->Int}{n:Nat}(hw:Wd n g):Dv UQ g:=by
 obtain⟨lo,hw⟩:=hw
 refine⟨_,fun e=>Eq.trans ?_ (Qam g lo n e).symm⟩
 by_cases h:lo<=e/\e<lo+n
 ·rw[if_pos h]
 ·rw[if_neg h]
  exact Decidable.byContradiction fun h2=>h (hw e h2)
theorem Qfa{P:Nat}(hP:Prm P){a b G C M:Int->Int}{n:Nat}(g:GcdOf a b G)(hC:Prim C)(wC:Wd n C)(da:Dv C a)(db:Dv C b){a0 a1:Int}(ha:∀ e,a e≠0->a0<=e/\e<=a1)(hl:¬(P:Int) ∣ a a0)(hh:¬(P:Int) ∣ a a1)(hM:∀ e,¬(P:Int) ∣ M e->C e≠0)(hne:∃ e,¬(P:Int) ∣ M e)(he:∀ d,Dvp P d a->Dvp P d b->Dvp P d M):Dv G C:=by
 obtain⟨m,wG⟩:=g.wd
 obtain⟨j0,j1,g0,g1,hg⟩:=QiY wG g.prim.ne
 obtain⟨i0,i1,c0,c1,hc⟩:=QiY wC hC.ne
 obtain⟨s,hs⟩:=g.left
 obtain⟨n0,n1⟩:=QiX hs g0 g1 hg ha hl hh
 obtain⟨t,ht⟩:=he G (.of g.left) (.of g.right)
 have hw:=wideP hP n0 n1 hg t ht (fun e h=>hc e (hM e h)) hne
 exact Qcr g.prim (g.dv hC wC da db) c0 c1 hc fun x y hx hy=>by
  have:=hg x hx
  have:=hg y hy
  omega
theorem Mk.sc{p q f:Int->Int}{x y:Int}(h:Mk p q f):Mk (fun e=>x*p e) (fun e=>y*q e) fun e=>x*y*f e:=by
 obtain⟨u,v,h⟩:=h
 refine⟨scT y u,scT x v,fun e=>?_⟩
 rw[Yi,Yi,JZ,JZ]
 show x*y*f e=_
 rw[h,Hj]
 simp only[← GB]
 rw[GX x y]
theorem Dv.sc{d p:Int->Int}(h:Dv d p)(x:Int):Dv d fun e=>x*p e:=by
 obtain⟨s,hs⟩:=h
 exact⟨scT x s,fun e=>by rw[Yi,← hs]⟩
theorem GcdOf.sc{a b G:Int->Int}(g:GcdOf a b G){x y:Int}(hx:x≠0)(hy:y≠0):GcdOf (fun e=>x*a e) (fun e=>y*b e) G:=by
 obtain⟨c,hc,h⟩:=g.bz
 refine⟨g.prim,g.wd,⟨x*y*c,GN (GN hx hy) hc,?_⟩,g.left.sc x,g.right.sc y⟩
 obtain⟨u,v,hm⟩:=h.sc (x:=x) (y:=y)
 exact⟨u,v,fun e=>by rw[← hm];show x*y*c*G e=x*y*(c*G e);rw[GB]⟩
structure CDof(a b r:Int->Int):Prop where
 pf:∃(F:Int) (C G:Int->Int) (n:Nat),F≠0/\(∀ e,r e=F*C e)/\GcdOf a b G/\Prim C/\Wd n C/\Dv C a/\Dv C b/\Dv G C/\(∀ e,F ∣ a e)/\(∀ e,F ∣ b e)/\∀ c:Int,(∀ e,c ∣ a e)->(∀ e,c ∣ b e)->c ∣ F
theorem Ug{s:Nat}(hs:0<s){f:Int->Int}{c:Int}:(∀ e,c ∣ stF s f e)↔∀ e,c ∣ f e:=by
 constructor
 ·intro h e
  have:=h (e*s)
  rwa [Qco hs]at this
 ·intro h e
  unfold stF
  split
  ·exact h _
  ·exact GO _
theorem CDof.gcd{s:Nat}(hs:0<s){a b r:Int->Int}(h:CDof a b r)(h0:∃ e,a e≠0):IsGcd (stF s a) (stF s b) (stF s r):=by
 obtain⟨F,C,G,n,hF,hr,g,hC,wC,da,db,dG,fa,fb,fc⟩:=h.pf
 obtain⟨m,wS⟩:=wC.st hs
 have e1:stF s r=fun e=>F*stF s C e:=funext fun e=>by
  unfold stF
  split
  ·exact hr _
  ·rw[GE]
 rw[e1]
 refine QgH hF (g.st hs) ?_ (hC.st hs) wS ((Ug hs).2 fa) ((Ug hs).2 fb) (fun c h1 h2=>fc c ((Ug hs).1 h1) ((Ug hs).1 h2)) (da.st hs) (db.st hs) (dG.st hs)
 obtain⟨e,he⟩:=h0
 exact⟨e*s,by rw[Qco hs];exact he⟩
theorem Dv.shift{d p:Int->Int}(h:Dv d p)(a c:Int):Dv d fun e=>c*p (e-a):=by
 have:=h.mul [(a,c)]
 obtain⟨s,hs⟩:=this
 exact⟨s,fun e=>by rw[← hs,YM]⟩
theorem Dv.unit{d p:Int->Int}(h:Dv d p)(a c:Int)(hc:c=1∨c = -1):Dv (fun e=>c*d (e-a)) p:=by
 refine Dv.trans ⟨[(-a,c)],fun e=>?_⟩ h
 rw[YM,show e - -a-a=e by omega,← GB]
 rcases hc with rfl|rfl <;> simp
theorem Dv.unshift{d p:Int->Int}{a:Int}(h:Dv d fun e=>p (e-a)):Dv d p:=by
 have:=h.shift (-a) 1
 obtain⟨s,hs⟩:=this
 exact⟨s,fun e=>by rw[← hs];show p e=1*p (e - -a-a);rw[show e - -a-a=e by omega,G5]⟩
theorem IsGcd.units{p q g:Int->Int}(h:IsGcd p q g)(a b x c:Int)(hc:c=1∨c = -1):IsGcd (fun e=>p (e-a)) (fun e=>q (e-b)) fun e=>c*g (e-x):=by
 have sh:∀ {d p:Int->Int} (a:Int),Dv d p->Dv d fun e=>p (e-a):=fun {d p} a h=>by
  obtain⟨s,hs⟩:=h.shift a 1
  exact⟨s,fun e=>by rw[← hs];show p (e-a)=1*p (e-a);rw[G5]⟩
 exact⟨(sh a h.left).unit x c hc,(sh b h.right).unit x c hc,fun d wd d1 d2=>(h.all d wd d1.unshift d2.unshift).shift x c⟩
structure Nf(f:Int->Int):Prop where
 lo:∀ e,f e≠0->0<=e
 pos:0<f 0
theorem QeQ{g h:Int->Int}{m n:Nat}(wg:Wd m g)(wh:Wd n h)(ng:Nf g)(nh:Nf h)(h1:Dv g h)(h2:Dv h g)(e:Int):g e=h e:=by
 have pg:=ng.pos
 have ph:=nh.pos
 obtain⟨c,a,hc,he⟩:=Qd6 wg wh ⟨0,by omega⟩ h1 h2
 have c0:c≠0:=by omega
 have k1:0<=0-a:=nh.lo _ (fun h=>by have:=he 0;rw[h]at this;omega)
 have k2:0<=a:=ng.lo a (by rw[he,Int.sub_self];exact GN c0 (by omega))
 have:a=0:=by omega
 subst this
 rcases hc with rfl|rfl
 ·rw[he,G5,Int.sub_zero]
 ·have:=he 0
  rw[Int.sub_zero]at this;omega
def coF(l:List Int):Int->Int:=fun e=>if 0<=e then l.getD e.toNat 0 else 0
def coN(l:List Nat):Int->Int:=fun e=>if 0<=e then ((l.getD e.toNat 0:Nat):Int) else 0
theorem ya(l:List Int)(i:Nat):coF l (i:Nat)=l.getD i 0:=by unfold coF;rw[if_pos (by omega),Int.toNat_natCast]
theorem Zk(l:List Nat)(i:Nat):coN l (i:Nat)=((l.getD i 0:Nat):Int):=by unfold coN;rw[if_pos (by omega),Int.toNat_natCast]
theorem JJ(l:List Nat){e:Int}(h:¬ 0<=e):coN l e=0:=if_neg h
theorem Qca{l:List Int}{e:Int}(h:coF l e≠0):0<=e/\e<=l.length-1:=by
 unfold coF at h
 split at h
 ·rename_i h0
  refine⟨h0,?_⟩
  rcases Gt e.toNat l.length with h1|h1
  ·omega
  ·rw[Gf,Gg h1]at h
   exact absurd rfl h
 ·exact absurd rfl h
theorem QaQ(l:List Int):Wd l.length (coF l):=⟨0,fun e he=>by have:=Qca he;omega⟩
theorem Yc{l:List Int}{i:Nat}(h:i<l.length):l.getD i 0∈l:=by
 rw[Gf,Gc h];exact List.getElem_mem _
theorem QaR{l:List Int}{p:Int->Prop}(h0:p 0)(h:∀ x∈l,p x)(e:Int):p (coF l e):=by
 unfold coF
 split
 ·rcases Gt e.toNat l.length with h1|h1
  ·exact h _ (Yc h1)
  ·rw[Gf,Gg h1];exact h0
 ·exact h0
theorem Uq{l:List Int}{x:Int}(h:x∈l):∃ e,coF l e=x:=by
 obtain⟨i,hi,rfl⟩:=List.mem_iff_getElem.1 h
 refine⟨(i:Nat),?_⟩
 rw[ya,Gf,Gc hi];rfl
theorem coF_dvd{l:List Int}{c:Int}:(∀ e,c ∣ coF l e)↔∀ x∈l,c ∣ x :=
 ⟨fun h x hx=>by obtain⟨e,rfl⟩:=Uq hx;exact h e,fun h=>QaR (p:=fun x=>c ∣ x) (GO _) h⟩
theorem Qd7(l:List Int)(f:Int->Int)(h:f 0=0)(e:Int):coF (l.map f) e=f (coF l e):=by
 unfold coF
 split
 ·rw[Gf,Gj,Gf]
  cases l[e.toNat]? with
  | none=>exact h.symm
  | some x=>rfl
 ·exact h.symm
def Vb(c:Nat)(l:List Int):Nat:=l.foldl (fun c x=>Nat.gcd c x.natAbs) c
abbrev Q2(l:List Int):Nat:=Vb 0 l
theorem YB:∀(l:List Int) (c:Nat),Vb c l ∣ c/\∀ x∈l,(Vb c l:Int) ∣ x
 | [],c=>⟨Nat.dvd_refl c,fun x h=>by cases h⟩
 | x::l,c=>by
  obtain⟨h1,h2⟩:=YB l (Nat.gcd c x.natAbs)
  refine⟨Nat.dvd_trans h1 (Nat.gcd_dvd_left _ _),fun y hy=>?_⟩
  rcases GT.1 hy with rfl|hy
  ·exact Int.ofNat_dvd_left.2 (Nat.dvd_trans h1 (Nat.gcd_dvd_right _ _))
  ·exact h2 y hy
theorem zp:∀(l:List Int) (c d:Nat),d ∣ c->(∀ x∈l,(d:Int) ∣ x)->d ∣ Vb c l
 | [],c,d,h,_=>h
 | x::l,c,d,h,hl=>zp l _ d (Nat.dvd_gcd h (Int.ofNat_dvd_left.1 (hl x (.head _)))) fun y hy=>hl y (.tail _ hy)
theorem VU{l:List Int}{x:Int}(h:x∈l)(h0:x≠0):0<Q2 l:=Nat.pos_of_ne_zero fun h1=>by
 have:=(YB l 0).2 x h
 rw[show Vb 0 l=0 from h1]at this
 exact h0 (Int.zero_dvd.1 this)
theorem U9{l:List Int}{x:Int}(h:x∈l)(h0:x≠0):Q2 l<=x.natAbs:=Nat.le_of_dvd (by omega) (Int.ofNat_dvd_left.1 ((YB l 0).2 x h))
abbrev scL(l:List Int):List Int:=l.map fun x=>x/(Q2 l:Int)
theorem yQ{l:List Int}(h:0<Q2 l)(e:Int):coF l e=(Q2 l:Int)*coF (scL l) e:=by
 rw[Qd7 l (fun x=>x/(Q2 l:Int)) (Int.zero_ediv _),Hq]
 exact coF_dvd.2 (YB l 0).2 e
theorem Qbe{l:List Int}(h:0<Q2 l):Prim (coF (scL l)):=fun d hd=>by
 have h1:d*Q2 l ∣ Q2 l:=zp l 0 _ (Nat.dvd_zero _) fun x hx=>by
  obtain⟨e,rfl⟩:=Uq hx
  rw[yQ h,G3,GX]
  exact Int.mul_dvd_mul_left _ (hd e)
 have h2:d*Q2 l ∣ 1*Q2 l:=by rw[Nat.one_mul];exact h1
 exact Nat.dvd_one.1 (Nat.dvd_of_mul_dvd_mul_right h h2)
theorem VV{l:List Int}{c:Int}(h:∀ e,c ∣ coF l e):c ∣ (Q2 l:Int):=by
 have:=zp l 0 c.natAbs (Nat.dvd_zero _) fun x hx=>Int.natAbs_dvd.2 (coF_dvd.1 h x hx)
 exact Int.ofNat_dvd_right.2 this
theorem QiZ{P:Nat}(hP:0<P){l:List Int}(h:∀ x∈l,x.natAbs<P)(e:Int):(P:Int) ∣ coN (l.map (ofM P)) e-coF l e:=by
 unfold coN coF
 by_cases h0:0<=e
 ·rw[if_pos h0,if_pos h0,Gf,Gj,Gf]
  cases hx:l[e.toNat]? with
  | none=>exact GO _
  | some x =>
   obtain⟨k,hk⟩:=Qgb (h x (Gl hx))
   exact⟨k,by simpa using hk⟩
 ·rw[if_neg h0,if_neg h0];exact GO _
theorem Zi{l:List Nat}{i:Nat}(h:i<l.length):l.getD i 0∈l:=by
 rw[Gf,Gc h];exact List.getElem_mem _
theorem Y1{l:List Nat}{i:Nat}(h:l.length<=i):l.getD i 0=0:=by
 rw[Gf,Gg h];rfl
def ZK(p q:Nat)(xs ys:List Nat)(sh i:Nat):List Nat:=(List.range xs.length).map fun j=>if sh<=j/\j<sh+i then sbM p (xs.getD j 0) (q*ys.getD (j-sh) 0%p) else xs.getD j 0
theorem Y9{p q:Nat}{xs ys:List Nat}{sh i:Nat}:(ZK p q xs ys sh i).length=xs.length:=by simp[ZK]
theorem JV{p q:Nat}{xs ys:List Nat}{sh i j:Nat}(h:j<xs.length):(ZK p q xs ys sh i)[j]?=some (if sh<=j/\j<sh+i then sbM p (xs.getD j 0) (q*ys.getD (j-sh) 0%p) else xs.getD j 0):=by
 unfold ZK
 rw[Gj,Gw h];rfl
theorem UA{p q:Nat}{xs ys:List Nat}{sh i j:Nat}(h:j<xs.length):(ZK p q xs ys sh i).getD j 0=if sh<=j/\j<sh+i then sbM p (xs.getD j 0) (q*ys.getD (j-sh) 0%p) else xs.getD j 0:=by
 rw[Gf,JV h];rfl
theorem Qes{p q:Nat}{xs ys:List Nat}{sh:Nat}:ZK p q xs ys sh 0=xs:=by
 apply Gr
 intro j
 rcases Gt j xs.length with h|h
 ·rw[JV h,if_neg (by omega),Gf,Gc h];rfl
 ·rw[Gg (by rw[Y9];exact h),Gg h]
theorem Qfu{p q:Nat}{xs ys:List Nat}{sh i:Nat}(hi:sh+i<xs.length):(ZK p q xs ys sh i).set (sh+i) (sbM p (xs.getD (sh+i) 0) (q*ys.getD i 0%p))=ZK p q xs ys sh (i+1):=by
 apply Gr
 intro j
 rw[G7,Y9]
 by_cases e:sh+i=j
 ·subst e
  rw[if_pos rfl,if_pos hi,JV hi,if_pos (by omega),Nat.add_sub_cancel_left]
 ·rw[if_neg e]
  rcases Gt j xs.length with h|h
  ·rw[JV h,JV h]
   by_cases h2:sh<=j/\j<sh+i
   ·rw[if_pos h2,if_pos (by omega)]
   ·rw[if_neg h2,if_neg (by omega)]
  ·rw[Gg (by rw[Y9];exact h),Gg (by rw[Y9];exact h)]
theorem QhU{p q:Nat}{xs ys:List Nat}{sh i:Nat}(hx:∀ x∈xs,x<p):∀ x∈ZK p q xs ys sh i,x<p:=fun x h=>by
 obtain⟨j,hj,rfl⟩:=GA.1 h
 have h1:=hx _ (Zi (Hl.1 hj))
 split
 ·exact Qkw h1
 ·exact h1
structure Trm(p:Nat)(xs:List Nat)(n:Nat):Prop where
 le:n<=xs.length
 z:∀ j,n<=j->xs.getD j 0=0
 top:0<n->xs.getD (n-1) 0≠0
 lt:∀ x∈xs,x<p
theorem Trm.at{p:Nat}{xs:List Nat}{n:Nat}(t:Trm p xs n)(hp:0<p)(j:Nat):xs.getD j 0<p:=by
 rcases Gt j xs.length with h|h
 ·exact t.lt _ (Zi h)
 ·rw[Y1 h];exact hp
theorem stp_z{p q:Nat}{xs ys:List Nat}{sh i nx:Nat}(hn:sh+i=nx)(hz:∀ j,nx<=j->xs.getD j 0=0):∀ j,nx<=j->(ZK p q xs ys sh i).getD j 0=0:=fun j hj=>by
 rcases Gt j xs.length with h|h
 ·rw[UA h,if_neg (by omega)];exact hz j hj
 ·exact Y1 (by rw[Y9];exact h)
theorem QhT{p:Nat}{inv:Nat->Nat}(hf:FOK p inv)(hp:1<p){xs ys:List Nat}{nx ny sh:Nat}(tx:Trm p xs nx)(ty:Trm p ys ny)(h0:0<ny)(hn:sh+ny=nx):(ZK p (xs.getD (nx-1) 0*inv (ys.getD (ny-1) 0)%p) xs ys sh ny).getD (nx-1) 0=0:=by
 have lx:=tx.le
 rw[UA (by omega),if_pos (by omega),show nx-1-sh=ny-1 by omega]
 have hy:=ty.top h0
 have hyp:=ty.at (by omega) (ny-1)
 have hxp:=tx.at (by omega) (nx-1)
 have hi:=hf _ (by omega) hyp
 generalize ys.getD (ny-1) 0=y at *
 generalize xs.getD (nx-1) 0=x at *
 have e:(x*inv y%p)*y%p=x:=by
  rw[Nat.mod_mul_mod,Nat.mul_assoc,Nat.mul_comm (inv y),Nat.mul_mod,hi,Hd,Nat.mod_mod,Hu hxp]
 rw[e]
 unfold sbM
 rw[if_neg (by omega),Nat.sub_self]
theorem Qks{p q:Nat}(hp:0<p){xs ys:List Nat}{sh ny:Nat}(hl:sh+ny<=xs.length)(hz:∀ j,ny<=j->ys.getD j 0=0)(e:Int):(p:Int) ∣ coN (ZK p q xs ys sh ny) e-(coN xs e-(q:Int)*coN ys (e-sh)):=by
 have same:coN ys (e-sh)=0->coN (ZK p q xs ys sh ny) e=coN xs e->(p:Int) ∣ coN (ZK p q xs ys sh ny) e-(coN xs e-(q:Int)*coN ys (e-sh)):=fun h1 h2=>by
  rw[h1,h2,GE,Int.sub_zero,Int.sub_self];exact GO _
 by_cases h0:0<=e
 ·obtain⟨j,rfl⟩:∃ j:Nat,e=(j:Nat):=⟨e.toNat,by omega⟩
  by_cases hj:j<xs.length
  ·by_cases hs:sh<=j/\j<sh+ny
   ·have e1:((j:Int)-sh)=((j-sh:Nat):Int):=by omega
    rw[e1,Zk,Zk,Zk,UA hj,if_pos hs]
    have h1:=Qkx (p:=p) (a:=xs.getD j 0) (b:=q*ys.getD (j-sh) 0%p) (Nat.le_of_lt (Hf _ hp))
    exact h1.trans (Cg.rfl.sub (Cg.modN.trans (Cg.of_eq (G3 _ _))))
   ·refine same ?_ (by rw[Zk,Zk,UA hj,if_neg hs])
    by_cases h2:sh<=j
    ·have e1:((j:Int)-sh)=((j-sh:Nat):Int):=by omega
     rw[e1,Zk,hz _ (by omega)];rfl
    ·exact JJ _ (by omega)
  ·refine same ?_ (by rw[Zk,Zk,Y1 (by rw[Y9];omega),Y1 (by omega)])
   have e1:((j:Int)-sh)=((j-sh:Nat):Int):=by omega
   rw[e1,Zk,hz _ (by omega)];rfl
 ·exact same (JJ _ (by omega)) (by rw[JJ _ h0,JJ _ h0])
theorem Dvp.step{p q:Nat}(hp:0<p){xs ys:List Nat}{sh ny:Nat}(hl:sh+ny<=xs.length)(hz:∀ j,ny<=j->ys.getD j 0=0){d:Int->Int}(h1:Dvp p d (coN xs))(h2:Dvp p d (coN ys)):Dvp p d (coN (ZK p q xs ys sh ny)) :=
 h1.comb h2 [(0,1)] [(sh,-q)] fun e=>by
  rw[Qau,YM,Int.neg_mul,← Int.sub_eq_add_neg];exact Qks hp hl hz e
structure Euc(P:Nat)(a b:Int->Int)(m:List Nat):Prop where
 pos:0<m.length
 lt:∀ x∈m,x<P
 top:m.getD (m.length-1) 0=1
 dv:∀ d,Dvp P d a->Dvp P d b->Dvp P d (coN m)
def mon(p:Nat)(inv:Nat->Nat)(xs:List Nat)(n:Nat):List Nat:=(List.range n).map fun j=>xs.getD j 0*inv (xs.getD (n-1) 0)%p
theorem Qju{p:Nat}{inv:Nat->Nat}{xs:List Nat}{n j:Nat}(h:j<n):(mon p inv xs n).getD j 0=xs.getD j 0*inv (xs.getD (n-1) 0)%p:=by
 rw[Gf]
 unfold mon
 rw[Gj,Gw h];rfl
theorem Euc.of{p:Nat}{inv:Nat->Nat}(hf:FOK p inv)(hp:1<p){a b:Int->Int}{xs:List Nat}{n:Nat}(t:Trm p xs n)(h0:0<n)(hd:∀ d,Dvp p d a->Dvp p d b->Dvp p d (coN xs)):Euc p a b (mon p inv xs n):=by
 have hl:(mon p inv xs n).length=n:=by simp[mon]
 refine⟨by omega,fun x hx=>?_,?_,fun d h1 h2=>?_⟩
 ·obtain⟨j,-,rfl⟩:=GA.1 hx
  exact Hf _ (by omega)
 ·rw[hl,Qju (by omega)]
  exact hf _ (Nat.pos_of_ne_zero (t.top h0)) (t.at (by omega) _)
 ·refine(hd d h1 h2).comb (hd d h1 h2) [(0,(inv (xs.getD (n-1) 0):Nat))] [] fun e=>?_
  rw[YM,Qbv,G2,Int.sub_zero]
  by_cases he:0<=e
  ·obtain⟨j,rfl⟩:∃ j:Nat,e=(j:Nat):=⟨e.toNat,by omega⟩
   rw[Zk,Zk]
   by_cases hj:j<n
   ·rw[Qju hj,GX]
    exact Cg.modN.trans (Cg.of_eq (G3 _ _))
   ·rw[Y1 (by omega),t.z j (by omega)];simp
  ·rw[JJ _ he,JJ _ he];simp
theorem yt{P:Nat}{x:Int}(h0:x≠0)(h:x.natAbs<P):¬(P:Int) ∣ x:=fun hd=>by
 have:=Nat.le_of_dvd (by omega) (Int.ofNat_dvd_left.1 hd)
 omega
structure Lst(a:List Int):Prop where
 ne:0<a.length
 first:a.getD 0 0≠0
 last:a.getD (a.length-1) 0≠0
 bd:∀ x∈a,x.natAbs<=cM
theorem Lst.pos{a:List Int}(k:Lst a):0<Q2 a:=VU (Yc k.ne) k.first
theorem Qab{a:List Int}(h:0<Q2 a)(i:Nat):a.getD i 0=(Q2 a:Int)*(scL a).getD i 0:=by
 have:=yQ h (i:Nat)
 rwa [ya,ya]at this
theorem Vk{c:Nat}{x y:Int}(h:0<c)(e:y=(c:Int)*x):x.natAbs<=y.natAbs:=by
 rw[e,He,GL];exact Nat.le_mul_of_pos_left _ h
theorem Lst.sc{a:List Int}(k:Lst a):Lst (scL a):=by
 have hp:=k.pos
 refine⟨by simpa using k.ne,fun h=>k.first ?_,fun h=>k.last ?_,fun x hx=>?_⟩
 ·rw[Qab hp,h,GE]
 ·rw[Qab hp]
  rw[Gp]at h
  rw[h,GE]
 ·obtain⟨e,rfl⟩:=Uq hx
  have h1:=yQ hp e
  have h2:=Vk hp h1
  have h3:=QaR (l:=a) (p:=fun x=>x.natAbs<=cM) (by decide) k.bd e
  omega
def QeY(a b:List Int):Nat:=Nat.gcd (a.getD (a.length-1) 0).natAbs (b.getD (b.length-1) 0).natAbs
def YO(P:Nat)(c:Nat)(m:List Nat):List Int:=m.map fun x=>lfM P (ofM P (c:Int)*x%P)
theorem Qd9{P:Nat}(gf:GF P){a b:List Int}(ka:Lst a)(kb:Lst b){m:List Nat}(u:Euc P (coF (scL a)) (coF (scL b)) m){C:Int->Int}{n:Nat}(hC:Prim C)(wC:Wd n C)(da:Dv C (coF (scL a)))(db:Dv C (coF (scL b)))(hM:∀ j,j<m.length->m.getD j 0≠0->C (j:Nat)≠0){r:Int->Int}(hr:∀ e,r e=((Nat.gcd (Q2 a) (Q2 b):Nat):Int)*C e):CDof (coF a) (coF b) r:=by
 have pa:=ka.pos
 have pb:=kb.pos
 have hlo:=gf.lo
 have sa:=ka.sc
 have ne:∃ e,coF (scL a) e≠0:=⟨(0:Nat),by rw[ya];exact sa.first⟩
 have wmax:∀ l:List Int,l.length<=(scL a).length+(scL b).length->Wd ((scL a).length+(scL b).length) (coF l):=fun l h=>(QaQ l).mono h
 obtain⟨G,g⟩:=Qlf (wmax (scL a) (by omega)) (wmax (scL b) (by omega)) ne
 have nd:∀ i,(scL a).getD i 0≠0->¬(P:Int) ∣ coF (scL a) (i:Nat):=fun i h=>by
  rw[ya]
  have:i<(scL a).length:=by
   rcases Gt i (scL a).length with h1|h1
   ·exact h1
   ·exact absurd (by rw[Gf,Gg h1];rfl) h
  exact yt h (by have:=sa.bd _ (Yc this);simp only[cM]at this;omega)
 have nl:=sa.ne
 have dG:Dv G C:=by
  refine Qfa gf.prm g hC wC da db (a0:=(0:Nat)) (a1:=((scL a).length-1:Nat)) (M:=coN m) (fun e h=>by have:=Qca h;omega) (nd _ sa.first) (nd _ sa.last) (fun e h=>?_) ⟨(m.length-1:Nat),?_⟩ u.dv
  ·have h0:0<=e:=Decidable.byContradiction fun h1=>h (by rw[JJ _ h1];exact GO _)
   obtain⟨j,rfl⟩:∃ j:Nat,e=(j:Nat):=⟨e.toNat,by omega⟩
   rw[Zk]at h
   have h1:m.getD j 0≠0:=fun h2=>h (by rw[h2];exact GO _)
   refine hM j ?_ h1
   rcases Gt j m.length with h2|h2
   ·exact h2
   ·exact absurd (Y1 h2) h1
  ·rw[Zk,u.top]
   exact yt (by decide) (by show 1<P;omega)
 have g2:=g.sc (x:=(Q2 a:Int)) (y:=(Q2 b:Int)) (by omega) (by omega)
 have ea:(fun e=>(Q2 a:Int)*coF (scL a) e)=coF a:=funext fun e=>(yQ pa e).symm
 have eb:(fun e=>(Q2 b:Int)*coF (scL b) e)=coF b:=funext fun e=>(yQ pb e).symm
 have da2:=da.sc (Q2 a:Int)
 have db2:=db.sc (Q2 b:Int)
 rw[ea]at g2 da2
 rw[eb]at g2 db2
 refine⟨((Nat.gcd (Q2 a) (Q2 b):Nat):Int),C,G,n,?_,hr,g2,hC,wC,da2,db2,dG,?_,?_,?_⟩
 ·have:=Nat.gcd_pos_of_pos_left (Q2 b) pa
  omega
 ·exact fun e=>Int.dvd_trans (Int.natCast_dvd_natCast.2 (Nat.gcd_dvd_left _ _)) (coF_dvd.2 (YB a 0).2 e)
 ·exact fun e=>Int.dvd_trans (Int.natCast_dvd_natCast.2 (Nat.gcd_dvd_right _ _)) (coF_dvd.2 (YB b 0).2 e)
 ·exact fun c h1 h2=>Int.ofNat_dvd_right.2 (Nat.dvd_gcd (Int.ofNat_dvd_right.1 (VV h1)) (Int.ofNat_dvd_right.1 (VV h2)))
theorem Qll{P:Nat}(gf:GF P){a b:List Int}(ka:Lst a)(kb:Lst b){m:List Nat}(u:Euc P (coF (scL a)) (coF (scL b)) m)(h1:m.length=1):CDof (coF a) (coF b) (coF [((Nat.gcd (Q2 a) (Q2 b):Nat):Int)]):=by
 refine Qd9 gf ka kb u Qf5 QkT (Qf6 (QaQ _)) (Qf6 (QaQ _)) (fun j hj _=>?_) fun e=>?_
 ·have:j=0:=by omega
  subst this
  decide
 ·unfold coF UQ
  by_cases h:e=0
  ·subst h;simp
  ·rw[if_neg h,GE]
   by_cases h2:0<=e
   ·rw[if_pos h2,Gf,Gg (by simp;omega)];rfl
   ·rw[if_neg h2]
theorem QiP{a b:List Int}(ka:Lst a)(kb:Lst b):0<QeY a b/\QeY a b<=cM:=by
 have h:=ka.last
 have h1:=ka.ne
 have h2:=ka.bd _ (Yc (show a.length-1<a.length by omega))
 have hp:0<(a.getD (a.length-1) 0).natAbs:=by omega
 exact⟨Nat.gcd_pos_of_pos_left _ hp,Gh (Nat.le_of_dvd hp (Nat.gcd_dvd_left _ _)) h2⟩
theorem QiO{P c:Nat}{m:List Nat}{j:Nat}(h:j<m.length):(YO P c m).getD j 0=lfM P (ofM P (c:Int)*m.getD j 0%P):=by
 unfold YO
 rw[Gf,Gj,Gc h,Gf,Gc h];rfl
theorem QbE{P:Nat}(gf:GF P){c:Nat}(hc:0<c/\c<=cM){m:List Nat}{j:Nat}(h:j<m.length)(hl:m.getD j 0<P)(h0:m.getD j 0≠0):(YO P c m).getD j 0≠0:=fun h1=>by
 rw[QiO h]at h1
 have hP:=gf.lo
 have hcP:(c:Int).natAbs<P:=by have:=hc.2;simp only[cM]at this;omega
 have h2:=Qk2 (p:=P) (a:=ofM P (c:Int)*m.getD j 0%P) (Hf _ (by omega))
 rw[h1]at h2
 have h3:Cg P ((ofM P (c:Int)*m.getD j 0%P:Nat):Int) ((c:Int)*(m.getD j 0:Nat)):=Cg.modN.trans ((Cg.of_eq (G3 _ _)).trans ((Qgb hcP).mul Cg.rfl))
 have h4:=(h2.trans h3).symm
 unfold Cg at h4
 rw[Int.sub_zero]at h4
 rcases gf.prm.2 _ _ h4 with h5|h5
 ·exact yt (by omega) hcP h5
 ·exact yt (by omega) (by simpa using hl) h5
theorem QcK{P:Nat}(gf:GF P){c:Nat}(hc:0<c/\c<=cM){a b:Int->Int}{m:List Nat}(u:Euc P a b m):(YO P c m).getD (m.length-1) 0≠0:=by
 have:=u.pos
 have hP:=gf.lo
 refine QbE gf hc (by omega) (by rw[u.top];omega) (by rw[u.top];decide)
theorem VL{P:Nat}(gf:GF P){c:Nat}(hc:0<c/\c<=cM){a b:Int->Int}{m:List Nat}(u:Euc P a b m):0<Q2 (YO P c m):=by
 have:=u.pos
 exact VU (Yc (by unfold YO;rw[Gp];omega)) (QcK gf hc u)
theorem Qlm{P:Nat}(gf:GF P){a b:List Int}(ka:Lst a)(kb:Lst b){m:List Nat}(u:Euc P (coF (scL a)) (coF (scL b)) m){c:Nat}(hc:0<c/\c<=cM)(da:Dv (coF (scL (YO P c m))) (coF (scL a)))(db:Dv (coF (scL (YO P c m))) (coF (scL b))):CDof (coF a) (coF b) (coF ((scL (YO P c m)).map fun x=>x*((Nat.gcd (Q2 a) (Q2 b):Nat):Int))):=by
 have hp:=VL gf hc u
 refine Qd9 gf ka kb u (Qbe hp) (QaQ _) da db (fun j hj h0 h1=>?_) fun e=>?_
 ·refine QbE gf hc hj (u.lt _ (Zi hj)) h0 ?_
  rw[Qab hp,← ya,h1,GE]
 ·rw[Qd7 _ (fun x=>x*((Nat.gcd (Q2 a) (Q2 b):Nat):Int)) (GY _),GX]
set_option maxHeartbeats 16000000
set_option maxRecDepth 20000
attribute [local irreducible] Qk wA Xv Xs QC Qu QP Q6
def I66(h0:Qa)(g:Nat)(m:Nat)(E:Env)(h:Qa):Prop:=h=h0/\∃ a b:Int,a.natAbs<=4611686018427387904/\b.natAbs<=4611686018427387904/\Nat.gcd a.natAbs b.natAbs=g/\m=b.natAbs ∧
 E.keep [0,1]=[(0,some (.sc (.int .i64 a))),(1,some (.sc (.int .i64 b)))]
def R66(h0:Qa)(g:Nat)(ex:Ex)(E:Env)(h:Qa):Prop:=ex = .ex 0/\h=h0/\∃ a:Int,a.natAbs<=4611686018427387904/\a.natAbs=g/\∃ x y,E=[(0,some (.sc (.int .i64 a))),(1,x),(6,y)]
theorem Qic(h0:Qa)(g:Nat)(m:Nat)(E:Env)(h:Qa)(hI:I66 h0 g m E h):wA FT HKt QjV (E.keep [0,1]) h (Qu (I66 h0 g) m (R66 h0 g)):=by
 obtain⟨rfl,a,b,ha,hb,hg,rfl,hE⟩:=hI
 rw[hE]
 by_cases hz:b=0
 ·subst hz
  repeat' first|apply Qh|apply Qc|apply Xc|apply Q5|apply Qf|(apply Qg;refine Qj rfl ?_)|(apply Qe;refine Qq rfl rfl rfl ?_)|(apply Qb;first|refine Qn rfl ?_|refine X2 rfl rfl (by omega) ?_)
  exact Xj ⟨rfl,rfl,a,ha,by simpa using hg,_,_,rfl⟩
 ·have hlt:(a.tmod b).natAbs<b.natAbs:=by rw[Int.natAbs_tmod];exact Hf _ (by omega)
  have hg2:Nat.gcd b.natAbs (a.tmod b).natAbs=g:=by
   rw[Int.natAbs_tmod,← hg,Nat.gcd_comm b.natAbs,← Nat.gcd_rec,Nat.gcd_comm]
  repeat' first|apply Qh|apply Qc|apply Qz|apply QV|apply Qm|apply Qf|apply QU|apply Xl|apply Xm|(apply Qg;refine Qi rfl ?_)|(apply Qe;first|apply QR|refine Qx rfl rfl ?_|refine Qq rfl rfl rfl ?_)|(apply Qb;first|refine QaC rfl rfl hz ?_|refine Qn rfl ?_|refine Zh rfl rfl (by omega) ?_)
  exact Xb (j:=(a.tmod b).natAbs) (by omega) ⟨rfl,b,a.tmod b,hb,by omega,hg2,rfl,rfl⟩
theorem QaT(h0:Qa)(a b:Int)(ha:a.natAbs<=4611686018427387904)(hb:b.natAbs<=4611686018427387904):∃ r h',Cal FT HKt 66 [.sc (.int .i64 a),.sc (.int .i64 b)] h0 r h'/\h'=h0/\r = .sc (.int .i64 ((Nat.gcd a.natAbs b.natAbs:Nat):Int)):=by
 refine Cal.of (F:=a66) rfl rfl rfl ?_
 repeat' first|apply Qh|apply Qc|apply Qz|apply Qf|(apply Qe;refine Qx rfl rfl ?_)|(apply Qb;refine Qn rfl ?_)
 refine XJ (I66 h0 (Nat.gcd a.natAbs b.natAbs)) b.natAbs (R66 h0 (Nat.gcd a.natAbs b.natAbs)) ⟨rfl,a,b,ha,hb,rfl,rfl,rfl⟩ (Qic h0 _) ?_
 rintro ex E' h1 ⟨rfl,rfl,c,hc,hg,x,y,rfl⟩
 have e:max c (-c)=((Nat.gcd a.natAbs b.natAbs:Nat):Int):=by omega
 repeat' first|apply Qh|apply Qc|apply Q8|apply Qs|apply Qf|(apply Qe;refine Qp rfl ?_)|(apply Qb;first|refine QdV rfl rfl ?_|refine Qn rfl ?_|refine Zy rfl (by omega) ?_)
 rw[e]
 exact⟨.inr rfl,rfl,rfl⟩
def I93(h0:Qa)(s:SV)(xs:List Int)(m:Nat)(E:Env)(h:Qa):Prop:=h=h0/\∃ i:Nat,i<=xs.length/\m=xs.length-i ∧
 E.keep [3,6,7,8]=[(3,some (.sc (.int .i64 (Q2 (xs.take i):Nat)))),(6,some (.sc s)),(7,some (.sc (.int .i64 (xs.length:Nat)))),(8,some (.sc (.int .i64 (i:Nat))))]
def R93(h0:Qa)(xs:List Int)(ex:Ex)(E:Env)(h:Qa):Prop:=ex = .ex 0/\h=h0/\∃ a b c d,E=[(3,some (.sc (.int .i64 (Q2 xs:Nat)))),(6,a),(7,b),(8,c),(9,d)]
theorem yJ:∀(l:List Int) (c B:Nat),c<=B->(∀ x∈l,x.natAbs<=B)->Vb c l<=B
 | [],c,B,h,_=>h
 | x::l,c,B,h,hl=>by
  refine yJ l _ B ?_ fun y hy=>hl y (.tail _ hy)
  rcases Nat.eq_zero_or_pos c with h0|h0
  ·subst h0;show Nat.gcd 0 x.natAbs<=B;rw[Nat.gcd_zero_left];exact hl x (.head _)
  ·exact Gh (Nat.le_of_dvd h0 (Nat.gcd_dvd_left _ _)) h
theorem Va{xs:List Int}{i:Nat}{x:Int}(h:xs[i]?=some x):Q2 (xs.take (i+1))=Nat.gcd (Q2 (xs.take i)) x.natAbs:=by
 rw[G1,h]
 unfold Q2 Vb
 rw[List.foldl_append];rfl
theorem Qh6(h0:Qa)(s:SV)(xs:List Int)(hs:IsInts h0 s xs)(hl:xs.length<=1000000)(hb:∀ x∈xs,x.natAbs<=cM)(m:Nat)(E:Env)(h:Qa)(hI:I93 h0 s xs m E h):wA FT HKt QjN (E.keep [3,6,7,8]) h (Qu (I93 h0 s xs) m (R93 h0 xs)):=by
 obtain⟨rfl,i,hi,rfl,hE⟩:=hI
 rw[hE]
 by_cases hlt:i<xs.length
 ·obtain⟨x,hx⟩:∃ x,xs[i]?=some x:=⟨_,Gc hlt⟩
  obtain⟨id,off,cap,rfl,rd⟩:=IsInts.at hs hx
  have hxb:=hb x (Gl hx)
  have hc:Q2 (xs.take i)<=cM:=yJ _ _ _ (Gs _) fun y hy=>hb y (List.mem_of_mem_take hy)
  have k66:=fun H=>QaT H ((Q2 (xs.take i):Nat):Int) x (by simp only[cM]at hc;omega) (by simp only[cM]at hxb;omega)
  rw[GL,← Va hx]at k66
  generalize Q2 (xs.take i)=c at *
  generalize hc1:Q2 (xs.take (i+1))=c1 at *
  repeat' first|apply Qh|apply Qc|apply Qz|apply QV|apply Qm|apply Qf|(apply Qg;refine Qi rfl ?_)|(apply Qe;first|refine QA rfl rfl rfl rfl ?_|refine QM rfl rfl rfl rfl rfl ?_)|(apply Qb;first|refine QJ (esz:=1) rfl rfl (by omega) ?_|refine Xx rfl rd ?_|(refine Qd rfl (k66 _) ?_;rintro v h1 ⟨rfl,rfl⟩)|refine Qn rfl ?_|refine Q1 rfl rfl (by omega) ?_|refine QH rfl rfl (by omega) ?_)
  exact Xb (j:=xs.length-(i+1)) (by omega) ⟨rfl,i+1,by omega,rfl,by rw[hc1];rfl⟩
 ·have:i=xs.length:=by omega
  subst this
  rw[GH]
  repeat' first|apply Qh|apply Qc|apply Xc|apply Q5|apply Qf|(apply Qg;refine Qj rfl ?_)|(apply Qe;refine QM rfl rfl rfl rfl rfl ?_)|(apply Qb;refine QW rfl rfl (by omega) ?_)
  exact Xj ⟨rfl,rfl,_,_,_,_,rfl⟩
theorem Qc3(h0:Qa)(s:SV)(xs:List Int)(hs:IsInts h0 s xs)(hl:xs.length<=1000000)(hb:∀ x∈xs,x.natAbs<=cM):∃ r h',Cal FT HKt 93 [.sc s] h0 r h'/\h'=h0/\r = .sc (.int .i64 (Q2 xs:Nat)):=by
 refine Cal.of (F:=a93) rfl rfl rfl ?_
 have ls:=IsSl.len hs
 repeat' first|apply Qh|apply Qc|apply Qz|apply Qf|(apply Qe;first|refine Qp rfl ?_|refine Qx rfl rfl ?_|refine QA rfl rfl rfl rfl ?_)|(apply Qb;first|refine QG rfl ls ?_|refine Qn rfl ?_)
 refine XJ (I93 h0 s xs) xs.length (R93 h0 xs) ⟨rfl,0,Gs _,rfl,rfl⟩ (Qh6 h0 s xs hs hl hb) ?_
 rintro ex E' h1 ⟨rfl,rfl,_,_,_,_,rfl⟩
 repeat' first|apply Qh|apply Qc|apply Q8|apply Qs|apply Qf|(apply Qe;refine Qp rfl ?_)|(apply Qb;refine Qn rfl ?_)
 exact⟨.inr rfl,rfl,rfl⟩
def I94(h0 hb:Qa)(c:Nat)(s:SV)(id:Nat)(xs:List Int)(f:Nat->Int)(m:Nat)(E:Env)(h:Qa):Prop:=∃ i:Nat,i<=xs.length/\m=xs.length-i/\Ext h0 h/\Bi h id (qX f xs.length i) ∧
 E.keep [1,5,11,12,13]=[(1,some (.sc (.int .i64 (c:Nat)))),(5,some (.sc (.slc id 0 xs.length (some xs.length)))),(11,some (.sc s)),(12,some (.sc (.int .i64 (xs.length:Nat)))),(13,some (.sc (.int .i64 (i:Nat))))]
def R94(h0:Qa)(id:Nat)(xs:List Int)(f:Nat->Int)(ex:Ex)(E:Env)(h:Qa):Prop:=ex = .ex 0/\Ext h0 h/\Bi h id ((List.range xs.length).map f)/\∃ a b c d e,E=[(1,a),(5,some (.sc (.slc id 0 xs.length (some xs.length)))),(11,b),(12,c),(13,d),(14,e)]
theorem Qh5(h0:Qa)(c:Nat)(s:SV)(id:Nat)(xs:List Int)(hs:IsInts h0 s xs)(hc:0<c)(hd:∀ x∈xs,(c:Int) ∣ x)(hb:∀ x∈xs,x.natAbs<=cM)(hid:h0.length<=id)(hl:xs.length<=1000000)(m:Nat)(E:Env)(h:Qa)(hI:I94 h0 h0 c s id xs (fun i=>xs.getD i 0/(c:Int)) m E h) :
  wA FT HKt QjM (E.keep [1,5,11,12,13]) h (Qu (I94 h0 h0 c s id xs (fun i=>xs.getD i 0/(c:Int))) m (R94 h0 id xs (fun i=>xs.getD i 0/(c:Int)))):=by
 obtain⟨i,hi,rfl,x0,b,hE⟩:=hI
 rw[hE]
 by_cases hlt:i<xs.length
 ·obtain⟨x,hx⟩:∃ x,xs[i]?=some x:=⟨_,Gc hlt⟩
  obtain⟨id1,off,cap,rfl,rd0⟩:=IsInts.at hs hx
  have rd:=QO x0 rd0
  have hm:=Gl hx
  have hxb:=hb x hm
  obtain⟨k,hk⟩:=hd x hm
  have hx2:xs.getD i 0=x:=by rw[Gf,hx];rfl
  have e1:x.tdiv (c:Int)=k:=by rw[hk,Int.mul_tdiv_cancel_left _ (by omega)]
  have e2:x/(c:Int)=k:=by rw[hk,Int.mul_ediv_cancel_left _ (by omega)]
  have hkb:k.natAbs<=x.natAbs:=by rw[hk,He,GL];exact Nat.le_mul_of_pos_left _ hc
  have fs:=U2 (f:=fun i=>xs.getD i 0/(c:Int)) hlt
  have wv:=b.wr (i:=i) (y:=k) (by rw[U3];exact hlt)
  simp only[hx2,e2]at fs
  rw[fs]at wv
  simp only[cM]at hxb
  repeat' first|apply Qh|apply Qc|apply Qz|apply QV|apply Qm|apply Qf|(apply Qg;refine Qi rfl ?_)|(apply Qe;first|refine QM rfl rfl rfl rfl rfl ?_|refine Q7 rfl rfl rfl rfl rfl rfl ?_|refine Xr rfl rfl rfl rfl rfl rfl rfl ?_)|(apply Qb;first|refine QJ (esz:=1) rfl rfl (by omega) ?_|refine Xx rfl rd ?_|(refine QaD rfl rfl ⟨by omega,by omega,by omega⟩ ?_;rw[e1])|refine QaE rfl rfl wv ?_|refine Qn rfl ?_|refine Q1 rfl rfl (by omega) ?_|refine QH rfl rfl (by omega) ?_)
  exact Xb (j:=xs.length-(i+1)) (by omega) ⟨i+1,by omega,rfl,Ext.setF x0 hid _,b.set,rfl⟩
 ·have:i=xs.length:=by omega
  subst this
  rw[za]at b
  repeat' first|apply Qh|apply Qc|apply Xc|apply Q5|apply Qf|(apply Qg;refine Qj rfl ?_)|(apply Qe;refine Q7 rfl rfl rfl rfl rfl rfl ?_)|(apply Qb;refine QW rfl rfl (by omega) ?_)
  exact Xj ⟨rfl,x0,b,_,_,_,_,_,rfl⟩
theorem VJ{xs:List Int}(f:Int->Int):(List.range xs.length).map (fun i=>f (xs.getD i 0))=xs.map f:=by
 apply Gr
 intro j
 rw[Gj,Gj]
 rcases Gt j xs.length with h|h
 ·rw[Gw h,Gc h,Gm,Gf,Gc h];rfl
 ·rw[Gg (by simpa using h),Gg h];rfl
theorem Qc2(h0:Qa)(s:SV)(xs:List Int)(c:Nat)(hs:IsInts h0 s xs)(hc:0<c)(hd:∀ x∈xs,(c:Int) ∣ x)(hl:xs.length<=1000000)(hb:∀ x∈xs,x.natAbs<=cM):∃ r h',Cal FT HKt 94 [.sc s,.sc (.int .i64 (c:Nat))] h0 r h'/\Ext h0 h'/\∃ id,h0.length<=id/\r = .sc (.slc id 0 xs.length (some xs.length))/\Bi h' id (xs.map fun x=>x/(c:Int)):=by
 refine Cal.of (F:=a94) rfl rfl rfl ?_
 have ls:=IsSl.len hs
 repeat' first|apply Qh|apply Qc|apply Qz|apply Qf|(apply Qe;first|refine Qx rfl rfl ?_|refine Qq rfl rfl rfl ?_|refine QM rfl rfl rfl rfl rfl ?_)|(apply Qb;first|refine QG rfl ls ?_|(refine Qgx rfl rfl (by omega) ?_;intro h1 e1 b1)|refine Qn rfl ?_)
 refine XJ (I94 h0 h0 c s h0.length xs (fun i=>xs.getD i 0/(c:Int))) xs.length (R94 h0 h0.length xs (fun i=>xs.getD i 0/(c:Int))) ⟨0,Gs _,rfl,e1,by rw[y9];exact b1,rfl⟩ (Qh5 h0 c s h0.length xs hs hc hd hb (Ge _) hl) ?_
 rintro ex E' h2 ⟨rfl,e2,b2,_,_,_,_,_,rfl⟩
 rw[VJ fun x=>x/(c:Int)]at b2
 repeat' first|apply Qh|apply Qc|apply Q8|apply Qs|apply Qf|(apply Qe;refine Qp rfl ?_)|(apply Qb;refine Qn rfl ?_)
 exact⟨.inr rfl,e2,h0.length,Ge _,rfl,b2⟩
def I120(hb:Qa)(p g q id:Nat)(s:SV)(xs:List Int)(m:Nat)(E:Env)(h:Qa):Prop:=∃ i:Nat,i<=xs.length/\m=xs.length-i/\Ext hb h/\Bu h id (fill (fun i=>ofM p (xs.getD i 0)) xs.length i) ∧
 E.keep [1,4,10,11,12]=[(1,some (.sc (.ptr q 0))),(4,some (.sc (.slc id 0 xs.length (some xs.length)))),(10,some (.sc s)),(11,some (.sc (.int .i64 (xs.length:Nat)))),(12,some (.sc (.int .i64 (i:Nat))))]
def R120(hb:Qa)(p id:Nat)(xs:List Int)(ex:Ex)(E:Env)(h:Qa):Prop:=ex = .ex 0/\Ext hb h/\Bu h id ((List.range xs.length).map fun i=>ofM p (xs.getD i 0))/\∃ a b c d e,E=[(1,a),(4,some (.sc (.slc id 0 xs.length (some xs.length)))),(10,b),(11,c),(12,d),(13,e)]
theorem QfN(hb:Qa)(p g q id:Nat)(s:SV)(xs:List Int)(c2:Cel hb q (.int .u64 (p:Nat)) (.int .u64 (g:Nat)))(hs:IsInts hb s xs)(hid:hb.length<=id)(hp:p<9223372036854775808)(hx:∀ x∈xs,x.natAbs<p)(hl:xs.length<=1000000)(m:Nat)(E:Env)(h:Qa)(hI:I120 hb p g q id s xs m E h) :
  wA FT HKt Qhn (E.keep [1,4,10,11,12]) h (Qu (I120 hb p g q id s xs) m (R120 hb p id xs)):=by
 obtain⟨i,hi,rfl,x0,b,hE⟩:=hI
 rw[hE]
 by_cases hlt:i<xs.length
 ·obtain⟨x,hxi⟩:∃ x,xs[i]?=some x:=⟨_,Gc hlt⟩
  obtain⟨id1,off,cap,rfl,rd0⟩:=IsInts.at hs hxi
  have rd:=QO x0 rd0
  have hm:=Gl hxi
  have hxb:=hx x hm
  have hx2:xs.getD i 0=x:=by rw[Gf,hxi];rfl
  have k99:=fun H=>Qc1 H p g x hp hxb
  have c2h:=c2.ext x0
  have fs:=QgM (f:=fun i=>ofM p (xs.getD i 0)) hlt
  simp only[hx2]at fs
  have wv:=fun H (y:Ext h H)=>(b.ext y).wr (i:=i) (y:=ofM p x) (by rw[QgN];exact hlt)
  rw[fs]at wv
  repeat' first|apply Qh|apply Qc|apply Qz|apply QV|apply Qm|apply Qf|(apply Qg;refine Qi rfl ?_)|(apply Qe;first|refine QM rfl rfl rfl rfl rfl ?_|refine Q7 rfl rfl rfl rfl rfl rfl ?_|refine Xr rfl rfl rfl rfl rfl rfl rfl ?_)|(apply Qb;first|refine QJ (esz:=1) rfl rfl (by omega) ?_|refine Xx rfl rd ?_|refine Qv rfl c2h ?_|(refine Qd rfl (k99 _) ?_;rintro v1 h1 ⟨x1,rfl⟩)|refine QaE rfl rfl (wv _ x1) ?_|refine Qn rfl ?_|refine Q1 rfl rfl (by omega) ?_|refine QH rfl rfl (by omega) ?_)
  exact Xb (j:=xs.length-(i+1)) (by omega) ⟨i+1,by omega,rfl,Ext.setF (x0.trans x1) hid _,(b.ext x1).set,rfl⟩
 ·have:i=xs.length:=by omega
  subst this
  rw[Qe6]at b
  repeat' first|apply Qh|apply Qc|apply Xc|apply Q5|apply Qf|(apply Qg;refine Qj rfl ?_)|(apply Qe;refine Q7 rfl rfl rfl rfl rfl rfl ?_)|(apply Qb;refine QW rfl rfl (by omega) ?_)
  exact Xj ⟨rfl,x0,b,_,_,_,_,_,rfl⟩
theorem QcH{xs:List Int}(f:Int->Nat):(List.range xs.length).map (fun i=>f (xs.getD i 0))=xs.map f:=by
 apply Gr
 intro j
 rw[Gj,Gj]
 rcases Gt j xs.length with h|h
 ·rw[Gw h,Gc h,Gm,Gf,Gc h];rfl
 ·rw[Gg (by simpa using h),Gg h];rfl
theorem Qee(h0:Qa)(p g q:Nat)(s:SV)(xs:List Int)(c2:Cel h0 q (.int .u64 (p:Nat)) (.int .u64 (g:Nat)))(hs:IsInts h0 s xs)(hp:p<9223372036854775808)(hx:∀ x∈xs,x.natAbs<p)(hl:xs.length<=1000000):∃ r h',Cal FT HKt 120 ([.sc s]++[(q,0)].map fun p=>AV.sc (.ptr p.1 p.2)) h0 r h'/\Ext h0 h'/\∃ id,h0.length<=id/\r = .sc (.slc id 0 xs.length (some xs.length))/\Bu h' id (xs.map (ofM p)):=by
 refine Cal.of (F:=a120) rfl rfl rfl ?_
 have ls:=IsSl.len hs
 repeat' first|apply Qh|apply Qc|apply Qz|apply Qf|(apply Qe;first|refine Qx rfl rfl ?_|refine Qq rfl rfl rfl ?_|refine QM rfl rfl rfl rfl rfl ?_)|(apply Qb;first|refine QG rfl ls ?_|(refine k_mkU rfl rfl (by omega) ?_;intro h1 e1 b1)|refine Qn rfl ?_)
 refine XJ (I120 h0 p g q h0.length s xs) xs.length (R120 h0 p h0.length xs) ⟨0,Gs _,rfl,e1,by rw[Qe4];exact b1,rfl⟩ (QfN h0 p g q h0.length s xs c2 hs (Ge _) hp hx hl) ?_
 rintro ex E' h2 ⟨rfl,e2,b2,_,_,_,_,_,rfl⟩
 rw[QcH (ofM p)]at b2
 repeat' first|apply Qh|apply Qc|apply Q8|apply Qs|apply Qf|(apply Qe;refine Qp rfl ?_)|(apply Qb;refine Qn rfl ?_)
 exact⟨.inr rfl,e2,h0.length,Ge _,rfl,b2⟩
abbrev us(l:List Nat):List SV:=l.map fun (x:Nat)=>SV.int .u64 (x:Int)
theorem Bu.sl{h:Qa}{id n:Nat}{xs:List Nat}{c:Option Nat}(b:Bu h id xs)(hn:n<=xs.length):IsSl h (.slc id 0 n c) 1 n (us (xs.take n)):=by
 refine .inr ⟨id,0,c,_,rfl,b,rfl,fun h=>by rw[h];rfl,fun _=>⟨_,_,rfl,?_⟩⟩
 unfold cut
 rw[if_pos (by simp[ESz.one_n];omega)]
 simp only[ESz.one_n,Hi,Hd,us,List.map_take]
theorem Qjb(h0:Qa)(id n N:Nat)(xs:List Nat)(b:Bu h0 id xs)(hn:0<n/\n<=xs.length)(hl:n<=1000000):∃ r h',Cal FT HKt 123 [.sc (.slc id 0 n (some N))] h0 r h'/\Ext h0 h'/\∃ t,r = .sc t/\Own h0 h' t (us (xs.take n)):=by
 refine Cal.of (F:=a123) rfl rfl rfl ?_
 have e1:Ext h0 (h0++[Blk.cells [] true 1]):=⟨_,rfl⟩
 have o1:Own h0 (h0++[Blk.cells [] true 1]) (.slc h0.length 0 0 (some 0)) [] := .inr ⟨h0.length,some 0,[],rfl,Ge _,by simp,rfl,rfl,Ge _⟩
 have hls:(us (xs.take n)).length=n:=by simp;omega
 have hsrc:=IsSl.src (IsSl.ext (b.sl (c:=some N) hn.2) e1) hls
 rw[← hls]at hsrc
 rw[hls]at hsrc
 have hsrc2:XZ (h0++[Blk.cells [] true 1]) 1 (.slc id 0 n (some N))=some ((us (xs.take n)).length,us (xs.take n)):=by rw[hls];exact hsrc
 repeat' first|apply Qh|apply Qc|apply Qm|apply Qs|apply Qf|(apply Qg;refine Qj rfl ?_)|(apply Qe;first|refine Qp rfl ?_|refine Qx rfl rfl ?_)|(apply Qb;first|apply k_bl0|(refine k_app e1 o1 rfl rfl hsrc2 (by rw[hls];simp[Yh];omega) ?_;intro s1 h2 o2 e2 f2 f3)|refine Qn rfl ?_|refine Xt rfl rfl ?_)
 exact⟨.inr rfl,e2,s1,rfl,by simpa using o2⟩
structure Eu(p g q ix iy:Nat)(xs ys:List Nat)(h0 h:Qa):Prop where
 x:Ext h0 h
 c:Cel h q (.int .u64 (p:Nat)) (.int .u64 (g:Nat))
 bx:Bu h ix xs
 by':Bu h iy ys
 lo:h0.length<=ix/\h0.length<=iy/\ix≠iy/\q≠ix/\q≠iy
theorem Eu.ext{p g q ix iy:Nat}{xs ys:List Nat}{h0 h h':Qa}(s:Eu p g q ix iy xs ys h0 h)(e:Ext h h'):Eu p g q ix iy xs ys h0 h':=⟨s.x.trans e,s.c.ext e,s.bx.ext e,s.by'.ext e,s.lo⟩
theorem Eu.put{p g q ix iy:Nat}{xs ys:List Nat}{h0 h:Qa}(s:Eu p g q ix iy xs ys h0 h)(xs':List Nat):Eu p g q ix iy xs' ys h0 (h.set ix (.cells (us xs') true 1)):=by
 obtain⟨l1,l2,l3,l4,l5⟩:=s.lo
 exact⟨Ext.setF s.x l1 _,Cel.other s.c (by omega) _,s.bx.set,s.by'.other l3 _,s.lo⟩
theorem Eu.swap{p g q ix iy:Nat}{xs ys:List Nat}{h0 h:Qa}(s:Eu p g q ix iy xs ys h0 h):Eu p g q iy ix ys xs h0 h:=⟨s.x,s.c,s.by',s.bx,s.lo.2.1,s.lo.1,Ne.symm s.lo.2.2.1,s.lo.2.2.2.2,s.lo.2.2.2.1⟩
theorem Qew{id n N u:Nat}(h:u<=n):Jr 0 u (.slc id 0 n (some N))=some (.slc id 0 u (some N)):=by
 simp[Jr,h]
abbrev sN(id n N:Nat):AV := .sc (.slc id 0 n (some N))
abbrev iN(n:Nat):AV := .sc (.int .i64 (n:Int))
def I96c(p g q ix iy nx ny sh Q v Nx Ny:Nat)(xs ys:List Nat)(h0:Qa)(m:Nat)(E:Env)(h:Qa):Prop:=∃ i,i<=ny/\m=ny-i/\Eu p g q ix iy (ZK p Q xs ys sh i) ys h0 h ∧
 E.keep [3,8,9,10,11,12,55,56,57]=[(3,some (.sc (.ptr q 0))),(8,some (sN ix nx Nx)),(9,some (sN iy ny Ny)),(10,some (u v)),(11,some (iN sh)),(12,some (u Q)),(55,some (sN iy ny Ny)),(56,some (iN ny)),(57,some (iN i))]
def R96c(p g q ix iy nx ny sh Q Nx Ny v:Nat)(xs ys:List Nat)(h0:Qa)(ex:Ex)(E:Env)(h:Qa):Prop:=ex = .ex 4/\Eu p g q ix iy (ZK p Q xs ys sh ny) ys h0 h ∧
 ∃ a b c d e f,E=[(3,some (.sc (.ptr q 0))),(8,some (sN ix nx Nx)),(9,some (sN iy ny Ny)),(10,some (u v)),(11,a),(12,b),(55,c),(56,d),(57,e),(58,f)]
theorem Qfz(p g q ix iy nx ny sh Q v Nx Ny:Nat)(xs ys:List Nat)(h0:Qa)(hp:2<=p/\p<9223372036854775808)(hx:∀ x∈xs,x<p)(hy:∀ y∈ys,y<p)(hQ:Q<p)(hny:ny<=ys.length)(hnx:sh+ny=nx)(hl:nx<=xs.length)(hs:nx<=1000000)(m:Nat)(E:Env)(h:Qa)(hI:I96c p g q ix iy nx ny sh Q v Nx Ny xs ys h0 m E h) :
  wA FT HKt QjH (E.keep [3,8,9,10,11,12,55,56,57]) h (Qu (I96c p g q ix iy nx ny sh Q v Nx Ny xs ys h0) m (R96c p g q ix iy nx ny sh Q Nx Ny v xs ys h0)):=by
 obtain⟨i,hi,rfl,s,hE⟩:=hI
 rw[hE]
 by_cases hlt:i<ny
 ·have ry:=s.by'.rd (i:=i) (by omega)
  have rx:=s.bx.rd (i:=sh+i) (by rw[Y9];omega)
  have eX:(ZK p Q xs ys sh i).getD (sh+i) 0=xs.getD (sh+i) 0:=by rw[UA (by omega),if_neg (by omega)]
  rw[eX]at rx
  have hxp:xs.getD (sh+i) 0<p:=hx _ (Zi (by omega))
  have hyp:ys.getD i 0<p:=hy _ (Zi (by omega))
  have st:=Qfu (p:=p) (q:=Q) (ys:=ys) (show sh+i<xs.length by omega)
  have hT:Q*ys.getD i 0%p<p:=Hf _ (by omega)
  have k98:=fun H=>qj H p g Q (ys.getD i 0) ⟨by omega,by omega⟩ (by omega) (by omega)
  have k122:=fun H=>Qed H p g (xs.getD (sh+i) 0) (Q*ys.getD i 0%p) hp.2 hxp (Nat.le_of_lt hT)
  have wv:=fun H (y:Ext h H)=>(s.ext y).bx.wr (i:=sh+i) (y:=sbM p (xs.getD (sh+i) 0) (Q*ys.getD i 0%p)) (by rw[Y9];omega)
  have nx':=fun H (y:Ext h H)=>(s.ext y).put (ZK p Q xs ys sh (i+1))
  rw[st]at wv
  generalize sbM p (xs.getD (sh+i) 0) (Q*ys.getD i 0%p)=W at *
  generalize Q*ys.getD i 0%p=T at *
  generalize xs.getD (sh+i) 0=X at *
  generalize ys.getD i 0=Y at *
  generalize hL1:ZK p Q xs ys sh (i+1)=L1 at *
  generalize ZK p Q xs ys sh i=L0 at *
  have x0:=Ext.refl h
  have c2:=s.c
  repeat' first|apply Qh|apply Qc|apply Qz|apply QV|apply Qm|apply Qf|apply QU|apply Xl|apply Xm|(apply Qg;refine Qi rfl ?_)|(apply Qe;first|apply QR|apply Xu|refine Ye (by assumption) ?_|refine Xd rfl rfl rfl rfl rfl rfl rfl rfl rfl ?_|refine XO rfl rfl rfl rfl rfl rfl rfl rfl rfl rfl ?_|refine qu rfl rfl rfl rfl rfl rfl rfl rfl rfl rfl rfl ?_)|(apply Qb;first|refine Qv rfl (c2.ext x0) ?_|refine QJ (esz:=1) rfl rfl (by omega) ?_|refine Xx rfl (QO x0 ry) ?_|refine Xx rfl (QO x0 rx) ?_|(refine Qd rfl (k98 _) ?_;rintro v1 h1 ⟨e1,rfl⟩;replace x0:=x0.trans e1)|(refine Qd rfl (k122 _) ?_;rintro v1 h1 ⟨e1,rfl⟩;replace x0:=x0.trans e1)|refine QaE rfl rfl (wv _ x0) ?_|refine Qn rfl ?_|refine Q1 rfl rfl (by omega) ?_|refine QH rfl rfl (by omega) ?_)
  exact Xb (j:=ny-(i+1)) (by omega) ⟨i+1,by omega,rfl,by rw[hL1];exact nx' _ x0,rfl⟩
 ·have:i=ny:=by omega
  subst this
  repeat' first|apply Qh|apply Qc|apply Xc|apply Q5|apply Qf|(apply Qg;refine Qj rfl ?_)|(apply Qe;refine XO rfl rfl rfl rfl rfl rfl rfl rfl rfl rfl ?_)|(apply Qb;refine QW rfl rfl (by omega) ?_)
  exact Xj ⟨rfl,s,_,_,_,_,_,_,rfl⟩
def I96d(p g q ix iy nx ny v Nx Ny:Nat)(xs ys:List Nat)(h0:Qa)(m:Nat)(E:Env)(h:Qa):Prop:=∃ n,n<=nx/\m=n/\(∀ j,n<=j->xs.getD j 0=0)/\Eu p g q ix iy xs ys h0 h ∧
 E.keep [3,8,9,10]=[(3,some (.sc (.ptr q 0))),(8,some (sN ix n Nx)),(9,some (sN iy ny Ny)),(10,some (u v))]
def R96d(p g q ix iy nx ny v Nx Ny:Nat)(xs ys:List Nat)(h0:Qa)(ex:Ex)(E:Env)(h:Qa):Prop:=ex = .ex 6/\∃ n,n<=nx/\(∀ j,n<=j->xs.getD j 0=0)/\(0<n->xs.getD (n-1) 0≠0)/\Eu p g q ix iy xs ys h0 h ∧
 ∃ a,E=[(3,some (.sc (.ptr q 0))),(8,some (sN ix n Nx)),(9,some (sN iy ny Ny)),(10,some (u v)),(91,a)]
theorem Qfy(p g q ix iy nx ny v Nx Ny:Nat)(xs ys:List Nat)(h0:Qa)(hl:nx<=xs.length)(hs:nx<=1000000)(m:Nat)(E:Env)(h:Qa)(hI:I96d p g q ix iy nx ny v Nx Ny xs ys h0 m E h) :
  wA FT HKt QjG (E.keep [3,8,9,10]) h (Qu (I96d p g q ix iy nx ny v Nx Ny xs ys h0) m (R96d p g q ix iy nx ny v Nx Ny xs ys h0)):=by
 obtain⟨n,hn,rfl,hz,s,hE⟩:=hI
 rw[hE]
 by_cases h0n:m=0
 ·subst h0n
  repeat' first|apply Qh|apply Qc|apply Xc|apply Q5|apply Qf|(apply Qg;refine Qj rfl ?_)|(apply Qe;refine QM rfl rfl rfl rfl rfl ?_)|(apply Qb;first|refine QG rfl rfl ?_|refine Xa rfl ?_|refine Qn rfl ?_|refine Qy rfl rfl ?_|refine XY rfl rfl (by omega) ?_)
  exact Xj ⟨rfl,0,hn,hz,fun h=>absurd h (by decide),s,_,rfl⟩
 ·have rx:=s.bx.rd (i:=m-1) (by omega)
  have e1:((m:Int)-1)=((m-1:Nat):Int):=by omega
  by_cases hx:xs.getD (m-1) 0=0
  ·rw[hx]at rx
   repeat' first|apply Qh|apply Qc|apply Qz|apply QV|apply Qm|apply Qf|(apply Qg;refine Qi rfl ?_)|(apply Qe;first|refine QA rfl rfl rfl rfl ?_|refine QM rfl rfl rfl rfl rfl ?_)|(apply Qb;first|refine QG rfl rfl ?_|(refine Yp rfl rfl (by omega) ?_;rw[e1])|refine QJ (esz:=1) rfl rfl (by omega) ?_|refine Xx rfl rx ?_|refine k_to rfl rfl rfl (by omega) (Qew (by omega)) ?_|refine QE rfl ?_|refine Qn rfl ?_|refine QK rfl rfl ?_|refine X9 rfl rfl (by omega) ?_|refine XC rfl rfl (by omega) ?_)
   exact Xb (j:=m-1) (by omega) ⟨m-1,by omega,rfl,fun j hj=>by
    by_cases h:j=m-1
    ·rw[h];exact hx
    ·exact hz j (by omega),s,rfl⟩
  ·have hx':((xs.getD (m-1) 0:Nat):Int)≠0:=by omega
   generalize hX:xs.getD (m-1) 0=X at *
   repeat' first|apply Qh|apply Qc|apply Xc|apply Q5|apply Qf|(apply Qg;refine Qj rfl ?_)|(apply Qe;refine QM rfl rfl rfl rfl rfl ?_)|(apply Qb;first|refine QG rfl rfl ?_|(refine Yp rfl rfl (by omega) ?_;rw[e1])|refine QJ (esz:=1) rfl rfl (by omega) ?_|refine Xx rfl rx ?_|refine QE rfl ?_|refine Qn rfl ?_|refine QK rfl rfl ?_|refine X9 rfl rfl (by omega) ?_|refine Xk rfl rfl (by omega) ?_)
   exact Xj ⟨rfl,m,hn,hz,fun _=>by rw[hX];exact hx,s,_,rfl⟩
def I96b(p g q ix iy ny v Nx Ny:Nat)(a b:Int->Int)(ys:List Nat)(h0:Qa)(m:Nat)(E:Env)(h:Qa):Prop:=∃ xs,xs.length=Nx/\Trm p xs m/\(∀ d,Dvp p d a->Dvp p d b->Dvp p d (coN xs))/\Eu p g q ix iy xs ys h0 h ∧
 E.keep [3,8,9,10]=[(3,some (.sc (.ptr q 0))),(8,some (sN ix m Nx)),(9,some (sN iy ny Ny)),(10,some (u v))]
def R96b(p g q ix iy ny v Nx Ny:Nat)(a b:Int->Int)(ys:List Nat)(h0:Qa)(ex:Ex)(E:Env)(h:Qa):Prop:=ex = .ex 2/\∃ xs n,n<ny/\xs.length=Nx/\Trm p xs n/\(∀ d,Dvp p d a->Dvp p d b->Dvp p d (coN xs))/\Eu p g q ix iy xs ys h0 h ∧
 ∃ e c,E=[(3,some (.sc (.ptr q 0))),(8,some (sN ix n Nx)),(9,some (sN iy ny Ny)),(10,e),(40,c)]
theorem QfA(p g q ix iy ny Nx Ny:Nat)(a b:Int->Int)(ys:List Nat)(h0:Qa)(gf:GF p)(ty:Trm p ys ny)(h0y:0<ny)(hy:ys.length=Ny)(hd:∀ d,Dvp p d a->Dvp p d b->Dvp p d (coN ys))(hN:Nx<=1000000)(m:Nat)(E:Env)(h:Qa)(hI:I96b p g q ix iy ny (Jj p (ys.getD (ny-1) 0)) Nx Ny a b ys h0 m E h) :
  wA FT HKt QjI (E.keep [3,8,9,10]) h (Qu (I96b p g q ix iy ny (Jj p (ys.getD (ny-1) 0)) Nx Ny a b ys h0) m (R96b p g q ix iy ny (Jj p (ys.getD (ny-1) 0)) Nx Ny a b ys h0)):=by
 obtain⟨xs,hlx,tx,hdx,s,hE⟩:=hI
 rw[hE]
 have lex:=tx.le
 have ley:=ty.le
 have plo:=gf.lo
 have phi:=gf.hi
 by_cases hlt:m<ny
 ·repeat' first|apply Qh|apply Qc|apply Xc|apply Q5|apply Qf|(apply Qg;refine Qj rfl ?_)|(apply Qe;refine QM rfl rfl rfl rfl rfl ?_)|(apply Qb;first|refine QG rfl rfl ?_|refine Qn rfl ?_|refine X3 rfl rfl (by omega) ?_)
  exact Xj ⟨rfl,xs,m,hlt,hlx,tx,hdx,s,_,_,rfl⟩
 ·have rx:=s.bx.rd (i:=m-1) (by omega)
  have e1:((m:Int)-1)=((m-1:Nat):Int):=by omega
  have e2:((m:Int)-ny)=((m-ny:Nat):Int):=by omega
  have top:=QhT gf.fok (by omega) tx ty h0y (show m-ny+ny=m by omega)
  have hxp:=tx.at (by omega) (m-1)
  have hvp:Jj p (ys.getD (ny-1) 0)<p:=Jh 64 1 _ _ (by omega)
  have hQ:xs.getD (m-1) 0*Jj p (ys.getD (ny-1) 0)%p<p:=Hf _ (by omega)
  have k98:=fun H=>qj H p g (xs.getD (m-1) 0) (Jj p (ys.getD (ny-1) 0)) ⟨by omega,by omega⟩ (by omega) (by omega)
  generalize Jj p (ys.getD (ny-1) 0)=V at *
  generalize hQe:xs.getD (m-1) 0*V%p=Q at *
  have rc:=fun h1=>Qfz p g q ix iy m ny (m-ny) Q V Nx Ny xs ys h1 ⟨by omega,by omega⟩ tx.lt ty.lt hQ ley (by omega) lex (by omega)
  generalize xs.getD (m-1) 0=X at *
  have c2:=s.c
  repeat' first|apply Qh|apply Qc|apply Qz|apply Qm|apply Qf|apply QU|apply Xl|apply Xm|(apply Qg;refine Qi rfl ?_)|(apply Qe;first|apply QR|apply Xu|refine QM rfl rfl rfl rfl rfl ?_|refine Q7 rfl rfl rfl rfl rfl rfl ?_|refine Xd rfl rfl rfl rfl rfl rfl rfl rfl rfl ?_)|(apply Qb;first|refine QG rfl rfl ?_|(refine Yp rfl rfl (by omega) ?_;rw[e1])|(refine Yp rfl rfl (by omega) ?_;rw[e2])|refine QJ (esz:=1) rfl rfl (by omega) ?_|refine Xx rfl rx ?_|refine Qv rfl c2 ?_|(refine Qd rfl (k98 _) ?_;rintro v1 h1 ⟨x1,rfl⟩)|refine Qn rfl ?_|refine YD rfl rfl (by omega) ?_)
  have s1:=s.ext x1
  refine XJ (I96c p g q ix iy m ny (m-ny) Q V Nx Ny xs ys h0) ny (R96c p g q ix iy m ny (m-ny) Q Nx Ny V xs ys h0) ⟨0,Gs _,rfl,by rw[Qes];exact s1,rfl⟩ (rc h0) ?_
  rintro ex E' h2 ⟨rfl,s2,_,_,_,_,_,_,rfl⟩
  have zz:=stp_z (p:=p) (q:=Q) (xs:=xs) (ys:=ys) (show m-ny+ny=m by omega) tx.z
  have dvs:=fun d h1 h2=>Dvp.step (q:=Q) (show 0<p by omega) (show m-ny+ny<=xs.length by omega) ty.z (hdx d h1 h2) (hd d h1 h2)
  have lts:=QhU (p:=p) (q:=Q) (ys:=ys) (sh:=m-ny) (i:=ny) tx.lt
  have ll:(ZK p Q xs ys (m-ny) ny).length=xs.length:=Y9
  generalize ZK p Q xs ys (m-ny) ny=zs at *
  repeat' first|apply Qc|apply Qz|apply Q8
  refine XJ (I96d p g q ix iy m ny V Nx Ny zs ys h0) m (R96d p g q ix iy m ny V Nx Ny zs ys h0) ⟨m,Ge _,rfl,zz,s2,rfl⟩ (Qfy p g q ix iy m ny V Nx Ny zs ys h0 (by omega) (by omega)) ?_
  rintro ex E' h3 ⟨rfl,n,hn,z3,t3,s3,_,rfl⟩
  have hlt2:n<m:=by
   rcases Gt n m with h|h
   ·exact h
   ·have:n=m:=by omega
    subst this
    exact absurd top (t3 (by omega))
  repeat' first|apply QV|apply Q8
  exact Xb (j:=n) hlt2 ⟨zs,by omega,⟨by omega,z3,t3,lts⟩,dvs,s3,rfl⟩
def I96a(p g q B:Nat)(a b:Int->Int)(h0:Qa)(m:Nat)(E:Env)(h:Qa):Prop:=∃ ix iy xs ys nx,Trm p xs nx/\0<nx/\Trm p ys m/\xs.length<=B/\ys.length<=B/\(∀ d,Dvp p d a->Dvp p d b->Dvp p d (coN xs)/\Dvp p d (coN ys))/\Eu p g q ix iy xs ys h0 h ∧
 E.keep [3,8,9]=[(3,some (.sc (.ptr q 0))),(8,some (sN ix nx xs.length)),(9,some (sN iy m ys.length))]
def R96a(p g q B:Nat)(a b:Int->Int)(h0:Qa)(ex:Ex)(E:Env)(h:Qa):Prop:=ex = .ex 0/\∃ ix iy xs ys nx,Trm p xs nx/\0<nx/\xs.length<=B/\(∀ d,Dvp p d a->Dvp p d b->Dvp p d (coN xs))/\Eu p g q ix iy xs ys h0 h ∧
 ∃ c d,E=[(3,some (.sc (.ptr q 0))),(8,some (sN ix nx xs.length)),(9,c),(27,d)]
theorem QfB(p g q B:Nat)(a b:Int->Int)(h0:Qa)(gf:GF p)(hB:B<=1000000)(m:Nat)(E:Env)(h:Qa)(hI:I96a p g q B a b h0 m E h) :
  wA FT HKt QjJ (E.keep [3,8,9]) h (Qu (I96a p g q B a b h0) m (R96a p g q B a b h0)):=by
 obtain⟨ix,iy,xs,ys,nx,tx,hnx,ty,bx,by',hd,s,hE⟩:=hI
 rw[hE]
 have plo:=gf.lo
 have phi:=gf.hi
 by_cases h0m:m=0
 ·subst h0m
  repeat' first|apply Qh|apply Qc|apply Xc|apply Q5|apply Qf|(apply Qg;refine Qj rfl ?_)|(apply Qe;refine QA rfl rfl rfl rfl ?_)|(apply Qb;first|refine QG rfl rfl ?_|refine Qn rfl ?_|refine XY rfl rfl (by omega) ?_)
  exact Xj ⟨rfl,ix,iy,xs,ys,nx,tx,hnx,bx,fun d h1 h2=>(hd d h1 h2).1,s,_,_,rfl⟩
 ·have ley:=ty.le
  have ry:=s.by'.rd (i:=m-1) (by omega)
  have e1:((m:Int)-1)=((m-1:Nat):Int):=by omega
  have hyp:=ty.at (by omega) (m-1)
  have k121:=fun H=>QaV H p g (ys.getD (m-1) 0) ⟨by omega,by omega⟩ (by omega)
  have c2:=s.c
  have rb:=QfA p g q ix iy m xs.length ys.length a b ys h0 gf ty (by omega) rfl (fun d h1 h2=>(hd d h1 h2).2) (by omega)
  generalize Jj p (ys.getD (m-1) 0)=V at *
  generalize ys.getD (m-1) 0=Y at *
  repeat' first|apply Qh|apply Qc|apply Qz|apply Qm|apply Qf|apply QU|apply Xl|apply Xm|(apply Qg;refine Qi rfl ?_)|(apply Qe;first|apply QR|apply Xu|refine QA rfl rfl rfl rfl ?_)|(apply Qb;first|refine QG rfl rfl ?_|(refine Yp rfl rfl (by omega) ?_;rw[e1])|refine QJ (esz:=1) rfl rfl (by omega) ?_|refine Xx rfl ry ?_|refine Qv rfl c2 ?_|(refine Qd rfl (k121 _) ?_;rintro v1 h1 ⟨x1,rfl⟩)|refine Qn rfl ?_|refine X9 rfl rfl (by omega) ?_)
  refine XJ (I96b p g q ix iy m V xs.length ys.length a b ys h0) nx (R96b p g q ix iy m V xs.length ys.length a b ys h0) ⟨xs,rfl,tx,fun d h1 h2=>(hd d h1 h2).1,s.ext x1,rfl⟩ rb ?_
  rintro ex E' h2 ⟨rfl,zs,n,hn,hlz,tz,hdz,s2,_,_,rfl⟩
  repeat' first|apply Qc|apply QV|apply Q8|apply Qf|(apply Qe;refine Qq rfl rfl rfl ?_)|(apply Qb;refine Qn rfl ?_)
  exact Xb (j:=n) hn ⟨iy,ix,ys,zs,m,ty,by omega,tz,by',by omega,fun d h1 h2=>⟨(hd d h1 h2).2,hdz d h1 h2⟩,s2.swap,by rw[hlz];rfl⟩
def yZ(p V:Nat)(zs:List Nat)(i:Nat):List Nat:=(List.range zs.length).map fun j=>if j<i then zs.getD j 0*V%p else zs.getD j 0
theorem J3{p V:Nat}{zs:List Nat}{i:Nat}:(yZ p V zs i).length=zs.length:=by simp[yZ]
theorem J4{p V:Nat}{zs:List Nat}{i j:Nat}(h:j<zs.length):(yZ p V zs i)[j]?=some (if j<i then zs.getD j 0*V%p else zs.getD j 0):=by
 unfold yZ
 rw[Gj,Gw h];rfl
theorem QeV{p V:Nat}{zs:List Nat}:yZ p V zs 0=zs:=by
 apply Gr
 intro j
 rcases Gt j zs.length with h|h
 ·rw[J4 h,if_neg (by omega),Gf,Gc h];rfl
 ·rw[Gg (by rw[J3];exact h),Gg h]
theorem Qgi{p V:Nat}{zs:List Nat}{i:Nat}(hi:i<zs.length):(yZ p V zs i).set i (zs.getD i 0*V%p)=yZ p V zs (i+1):=by
 apply Gr
 intro j
 rw[G7,J3]
 by_cases e:i=j
 ·subst e
  rw[if_pos rfl,if_pos hi,J4 hi,if_pos (by omega)]
 ·rw[if_neg e]
  rcases Gt j zs.length with h|h
  ·rw[J4 h,J4 h]
   by_cases h2:j<i
   ·rw[if_pos h2,if_pos (by omega)]
   ·rw[if_neg h2,if_neg (by omega)]
  ·rw[Gg (by rw[J3];exact h),Gg (by rw[J3];exact h)]
def I96e(p g q V:Nat)(t:SV)(zs:List Nat)(hb:Qa)(m:Nat)(E:Env)(h:Qa):Prop:=∃ i,i<=zs.length/\m=zs.length-i/\Ext hb h/\Own hb h t (us (yZ p V zs i)) ∧
 E.keep [3,15,16,110,111]=[(3,some (.sc (.ptr q 0))),(15,some (.sc t)),(16,some (u V)),(110,some (iN zs.length)),(111,some (iN i))]
def R96e(p V:Nat)(t:SV)(zs:List Nat)(hb:Qa)(ex:Ex)(E:Env)(h:Qa):Prop:=ex = .ex 8/\Ext hb h/\Own hb h t (us (yZ p V zs zs.length)) ∧
 ∃ a b c d e,E=[(3,a),(15,some (.sc t)),(16,b),(110,c),(111,d),(112,e)]
theorem Qfx(p g q V:Nat)(t:SV)(zs:List Nat)(hb:Qa)(hp:2<=p/\p<9223372036854775808)(hz:∀ x∈zs,x<p)(hV:V<p)(c2:Cel hb q (.int .u64 (p:Nat)) (.int .u64 (g:Nat)))(hl:zs.length<=1000000)(m:Nat)(E:Env)(h:Qa)(hI:I96e p g q V t zs hb m E h) :
  wA FT HKt QjF (E.keep [3,15,16,110,111]) h (Qu (I96e p g q V t zs hb) m (R96e p V t zs hb)):=by
 obtain⟨i,hi,rfl,x,o,hE⟩:=hI
 rw[hE]
 by_cases hlt:i<zs.length
 ·have hget:(us (yZ p V zs i))[i]?=some (.int .u64 ((zs.getD i 0:Nat):Int)):=by
   rw[Gj,J4 hlt,if_neg (by omega)];rfl
  obtain⟨id,cap,rfl,rd⟩:=o.rd hget
  have hzp:zs.getD i 0<p:=hz _ (Zi hlt)
  have k98:=fun H=>qj H p g (zs.getD i 0) V ⟨by omega,by omega⟩ (by omega) (by omega)
  have st:=Qgi (p:=p) (V:=V) hlt
  have hol:(us (yZ p V zs i)).length=zs.length:=by rw[Gp,J3]
  generalize zs.getD i 0*V%p=W at *
  generalize zs.getD i 0=Z at *
  have c2h:=c2.ext x
  repeat' first|apply Qh|apply Qc|apply Qz|apply QV|apply Qm|apply Qf|apply QU|apply Xl|apply Xm|(apply Qg;refine Qi rfl ?_)|(apply Qe;first|apply QR|apply Xu|refine QM rfl rfl rfl rfl rfl ?_|refine Q7 rfl rfl rfl rfl rfl rfl ?_)|(apply Qb;first|refine Qv rfl c2h ?_|refine QJ (esz:=1) rfl rfl (by omega) ?_|refine Xx rfl rd ?_|(refine Qd rfl (k98 _) ?_;rintro v1 h1 ⟨x1,rfl⟩;obtain⟨id',cap',h2,hs2,w2,o2,x2,-,-⟩:=(o.ext x1).wr (x.trans x1) (i:=i) (by omega) (SV.int .u64 (W:Int));injection hs2 with hs3 hs4 hs5 hs6;subst hs3)|refine QaE rfl rfl w2 ?_|refine Qn rfl ?_|refine Q1 rfl rfl (by omega) ?_|refine QH rfl rfl (by omega) ?_)
  refine Xb (j:=zs.length-(i+1)) (by omega) ⟨i+1,by omega,rfl,x2,?_,rfl⟩
  rw[← st]
  unfold us
  rw[List.map_set]
  exact o2
 ·have:i=zs.length:=by omega
  subst this
  repeat' first|apply Qh|apply Qc|apply Xc|apply Q5|apply Qf|(apply Qg;refine Qj rfl ?_)|(apply Qe;refine Q7 rfl rfl rfl rfl rfl rfl ?_)|(apply Qb;refine QW rfl rfl (by omega) ?_)
  exact Xj ⟨rfl,x,o,_,_,_,_,_,rfl⟩
theorem Qdm{p:Nat}(hp:0<p){a:List Int}(h0:0<a.length)(hb:∀ x∈a,x.natAbs<p)(hl:a.getD (a.length-1) 0≠0):Trm p (a.map (ofM p)) a.length:=by
 refine⟨by simp,fun j hj=>Y1 (by simpa using hj),fun _=>?_,fun x hx=>?_⟩
 ·have h1:a.length-1<a.length:=by omega
  rw[Gf,Gc h1]at hl
  have h2:=hb _ (List.getElem_mem h1)
  rw[Gf,Gj,Gc h1]
  show ofM p a[a.length-1]≠0
  have hl':a[a.length-1]≠0:=hl
  generalize a[a.length-1]=z at *
  unfold ofM
  split <;> omega
 ·obtain⟨y,hy,rfl⟩:=GA.1 hx
  exact Qga (hb y hy)
theorem Qd5{p:Nat}(hp:0<p){a:List Int}(hb:∀ x∈a,x.natAbs<p){d:Int->Int}(h:Dvp p d (coF a)):Dvp p d (coN (a.map (ofM p))):=h.cg fun e=>QiZ hp hb e
theorem Qgj{p n:Nat}{xs:List Nat}(hn:n<=xs.length):yZ p (Jj p (xs.getD (n-1) 0)) (xs.take n) n=mon p (Jj p) xs n:=by
 unfold yZ mon
 rw[GV,GM hn]
 refine Ht fun j hj=>?_
 have hj:=Hl.1 hj
 rw[if_pos hj]
 simp only[Gf,List.getElem?_take_of_lt hj]
theorem Qlr(h0:Qa)(B:Nat)(hB:B<=1000000)(p g:Nat)(gf:GF p)(sa sb:SV)(a b:List Int)(ia:IsInts h0 sa a)(ib:IsInts h0 sb b)(la:0<a.length/\a.length<=B)(lb:0<b.length/\b.length<=B)(ha:∀ x∈a,x.natAbs<p)(hb:∀ x∈b,x.natAbs<p)(ta:a.getD (a.length-1) 0≠0)(tb:b.getD (b.length-1) 0≠0) :
  ∃ r h',Cal FT HKt 96 [fld p g,.sc sa,.sc sb] h0 r h'/\Ext h0 h'/\∃ t m,r = .sc t/\Euc p (coF a) (coF b) m/\m.length<=B/\Own h0 h' t (us m):=by
 refine Cal.of (F:=a96) rfl rfl rfl ?_
 have plo:=gf.lo
 have phi:=gf.hi
 have ka:=fun H (e:Ext h0 H) (c2:Cel H h0.length (.int .u64 (p:Nat)) (.int .u64 (g:Nat)))=>Qee H p g h0.length sa a c2 (IsSl.ext ia e) (by omega) ha (by omega)
 have kb:=fun H (e:Ext h0 H) (c2:Cel H h0.length (.int .u64 (p:Nat)) (.int .u64 (g:Nat)))=>Qee H p g h0.length sb b c2 (IsSl.ext ib e) (by omega) hb (by omega)
 repeat' first|apply Qh|apply Qc|apply Qz|apply Qf|(apply Qe;first|refine Qq rfl rfl rfl ?_|refine QA rfl rfl rfl rfl ?_)|(apply Qb;first|(refine Qr rfl ?_;intro h1 e1 c1)|(have z:=e2;refine Xo rfl rfl (kb h2 (e1.trans e2) (c1.ext e2)) ?_;rintro v3 h3 ⟨e3,iy,l3,rfl,b3⟩)|(refine Xo rfl rfl (ka h1 e1 c1) ?_;rintro v2 h2 ⟨e2,ix,l2,rfl,b2⟩)|refine Qn rfl ?_|refine Xt rfl rfl ?_)
 have tA:=Qdm (p:=p) (by omega) la.1 ha ta
 have tB:=Qdm (p:=p) (by omega) lb.1 hb tb
 have s3:Eu p g h0.length ix iy (a.map (ofM p)) (b.map (ofM p)) h0 h3:=⟨(e1.trans e2).trans e3,(c1.ext e2).ext e3,b2.ext e3,b3,by have:=b2.lt;have:=c1.lt;have:=e1.len;omega⟩
 have lA:(a.map (ofM p)).length=a.length:=by simp
 have lB:(b.map (ofM p)).length=b.length:=by simp
 refine XJ (I96a p g h0.length B (coF a) (coF b) h0) b.length (R96a p g h0.length B (coF a) (coF b) h0) ⟨ix,iy,_,_,a.length,tA,la.1,tB,by omega,by omega,fun d h1 h2=>⟨Qd5 (by omega) ha h1,Qd5 (by omega) hb h2⟩,s3,by rw[lA,lB];rfl⟩ (QfB p g h0.length B (coF a) (coF b) h0 gf hB) ?_
 rintro ex E' h4 ⟨rfl,jx,jy,xs,ys,n,tx,hn,hlx,hd,s4,_,_,rfl⟩
 have le:=tx.le
 have kc:=fun H (e:Ext h4 H)=>Qjb H jx n xs.length xs (s4.bx.ext e) ⟨hn,le⟩ (by omega)
 have rx:=s4.bx.rd (i:=n-1) (by omega)
 have e1':((n:Int)-1)=((n-1:Nat):Int):=by omega
 have hxp:=tx.at (by omega) (n-1)
 have k121:=fun H=>QaV H p g (xs.getD (n-1) 0) ⟨by omega,by omega⟩ (by omega)
 have em:=Qgj (p:=p) (n:=n) le
 have eu:=Euc.of gf.fok (by omega) tx hn hd
 have hV:Jj p (xs.getD (n-1) 0)<p:=Jh 64 1 _ _ (by omega)
 generalize Jj p (xs.getD (n-1) 0)=V at *
 generalize xs.getD (n-1) 0=X at *
 have c4:=s4.c
 have lz:(xs.take n).length=n:=by rw[GV,GM le]
 have lus:(us (xs.take n)).length=n:=by rw[Gp,lz]
 have hz:∀ x∈xs.take n,x<p:=fun x hx=>tx.lt x (List.mem_of_mem_take hx)
 generalize xs.take n=zs at *
 repeat' first|apply Qh|apply Qc|apply Qz|apply Q8|apply Qf|apply QU|apply Xl|apply Xm|(apply Qe;first|apply QR|apply Xu|refine Qq rfl rfl rfl ?_|refine QM rfl rfl rfl rfl rfl ?_)|(apply Qb;first|(refine Qd rfl (kc _ (Ext.refl _)) ?_;rintro v5 h5 ⟨x5,t5,rfl,o5⟩)|refine QG rfl rfl ?_|(refine Yp rfl rfl (by omega) ?_;rw[e1'])|refine QJ (esz:=1) rfl rfl (by omega) ?_|refine Xx rfl (QO x5 rx) ?_|refine Qv rfl (c4.ext x5) ?_|(refine Qd rfl (k121 _) ?_;rintro v6 h6 ⟨x6,rfl⟩;have l5:=o5.len;rw[lus,← lz]at l5)|refine QG rfl l5 ?_|refine Qn rfl ?_)
 have x46:=x5.trans x6
 refine XJ (I96e p g h0.length V t5 zs h4) zs.length (R96e p V t5 zs h4) ⟨0,Gs _,rfl,x46,by rw[QeV];exact o5.ext x6,rfl⟩ (Qfx p g h0.length V t5 zs h4 ⟨by omega,by omega⟩ hz hV c4 (by omega)) ?_
 rintro ex E' h7 ⟨rfl,x7,o7,_,_,_,_,_,rfl⟩
 rw[lz,em]at o7
 repeat' first|apply Qh|apply Qc|apply Q8|apply Qs|apply Qf|(apply Qe;refine Qp rfl ?_)|(apply Qb;refine Qn rfl ?_)
 exact⟨.inr rfl,s4.x.trans x7,t5,_,rfl,eu,by simp[mon];omega,o7.weaken s4.x.len⟩
