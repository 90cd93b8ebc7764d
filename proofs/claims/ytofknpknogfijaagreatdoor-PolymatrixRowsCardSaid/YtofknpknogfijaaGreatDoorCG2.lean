/- Sums,differences,negatives: contracts. -/
import Derived.Test.YtofknpknogfijaaGreatDoorC3
import Derived.Test.YtofknpknogfijaaGreatDoorPZ
namespace Go.Proofs.YtofknpknogfijaaGreatDoor
open Go.Ab
set_option linter.all false
set_option maxHeartbeats 16000000
set_option maxRecDepth 20000
attribute [local irreducible] Ql wA Xr Xp QA Qp QW QY
variable [HB]
def Wop (gf:FuncId) (w:Int→Int→Int):Prop:=∀ (h0:Qa) (a b:Int),a.natAbs≤cM→b.natAbs≤cM→(∃ r h',Cal FT HKt gf ([.sc (.int .i64 a),.sc (.int .i64 b)]++([]:List (Nat × Nat)).map fun p=>AV.sc (.ptr p.1 p.2)) h0 r h'∧r=.sc (.int .i64 (w a b))∧h'=h0)∧(w a b).natAbs≤2251799813685248
def mG (w:Int→Int→Int):List Tm→List Tm→List Tm:=mrg w
structure CbG (gf:FuncId) (h0 h:Qa) (q3 q4 q5 q6 q7 q8:Nat) (sp sq s:SV) (F:Bool) (r:List Tm):Prop where
 e:Ext h0 h
 c3:Cel h q3 (.bool false) sp
 c4:Cel h q4 (.bool false) sq
 c5:Cel1 h q5 (.fn gf [])
 c6:Cel h q6 (.bool false) .nilS
 c7:Cel h q7 (.bool false) s
 c8:Cel1 h q8 (.bool F)
 o:OwnD h0 h s (tms r)
 ord:h0.length≤q3∧q3 < q4∧q4 < q5∧q5 < q6∧q6 < q7∧q7 < q8
theorem CbG.st8 {gf:FuncId} {h0 h h1:Qa} {q3 q4 q5 q6 q7 q8:Nat} {sp sq s:SV} {F G:Bool} {r:List Tm} (u:CbG gf h0 h q3 q4 q5 q6 q7 q8 sp sq s F r) (hh:h1=h.set q8 (.cells [.bool G] true 0)) (c:Cel1 h1 q8 (.bool G)):CbG gf h0 h1 q3 q4 q5 q6 q7 q8 sp sq s G r:=by
 have o:=u.ord
 subst hh
 exact ⟨u.e.set (by omega) _,J0 u.c3 (by omega) _,J0 u.c4 (by omega) _,u.c5.set (by omega) _,J0 u.c6 (by omega) _,J0 u.c7 (by omega) _,c,u.o.set (u.o.cel u.c8) _,o⟩
theorem CbG.push {gf:FuncId} {h0 h h6 h7:Qa} {q3 q4 q5 q6 q7 q8:Nat} {sp sq s s':SV} {F:Bool} {r r':List Tm} (u:CbG gf h0 h q3 q4 q5 q6 q7 q8 sp sq s F r) (o6:OwnD h0 h6 s' (tms r')) (e6:Ext h0 h6) (f6:Fram h h6 s s') (w7:Wr h6 h7 q7 (.bool false) s'):CbG gf h0 h7 q3 q4 q5 q6 q7 q8 sp sq s' F r':=by
 have o:=u.ord
 exact ⟨w7.ext e6 (by omega),w7.keep (u.c3.fram f6 (u.o.cel u.c3)) (by omega),w7.keep (u.c4.fram f6 (u.o.cel u.c4)) (by omega),z8 (u.c5.fram f6 (u.o.cel u.c5)) w7 (by omega),w7.keep (u.c6.fram f6 (u.o.cel u.c6)) (by omega),w7.cel,z8 (u.c8.fram f6 (u.o.cel u.c8)) w7 (by omega),o6.wrC w7,o⟩
theorem yI {w:Int→Int→Int} {gf:FuncId} (kw:Wop gf w) (h0 h:Qa) (q3 q4 q5 q6 q7 q8:Nat) (sp sq s:SV) (F:Bool) (r:List Tm) (e a b:Int) (u:CbG gf h0 h q3 q4 q5 q6 q7 q8 sp sq s F r) (ha:a.natAbs≤cM) (hb:b.natAbs≤cM) (hl:r.length≤5000000) :
  ∃ v h',Cal FT HKt 83 [.sc (.int .i64 e),.sc (.int .i64 a),.sc (.int .i64 b),.sc (.ptr q5 0),.sc (.ptr q8 0),.sc (.ptr q7 0)] h v h'∧∃ s',CbG gf h0 h' q3 q4 q5 q6 q7 q8 sp sq s' (QbM F (w a b)) (r++put e (w a b)):=by
 refine Cal.of (F:=a83) rfl rfl rfl ?_
 have k54:=(kw h a b ha hb).1
 have hwb:=(kw h a b ha hb).2
 simp only [cM] at ha hb
 have k35:=fun H=>UW H (w a b) 1125899906842624 (by omega)
 have hd:∀ F',QbM F' (w a b)=(F' && decide ((w a b).natAbs≤(1125899906842624:Int).toNat)):=fun _=>rfl
 rw [hd]
 generalize decide ((w a b).natAbs≤(1125899906842624:Int).toNat)=D at *
 generalize hC:w a b=C at *
 have c5:=u.c5.at
 have c8:=u.c8.at
 cases F <;> by_cases hz:C=0
 ·have hp:r++put e C=r:=by unfold put;rw [if_pos hz,Hc]
  rw [hp]
  repeat' (first | refine Qg ?_ | refine Qb ?_ | refine Qn ?_ | refine Qf ?_ | ((refine Qh ?_);refine Qk rfl ?_) | ((refine Qe ?_);first | refine Qu rfl rfl rfl ?_ | refine QG rfl rfl rfl rfl ?_) | ((refine Qc ?_);first | refine Xu rfl c5 rfl ?_ | refine Xu rfl c8 rfl ?_ | (refine Xq rfl rfl k54 ?_;rintro v _ ⟨rfl,rfl⟩) | (refine ZW rfl rfl u.c8 ?_;intro h2 w2 c8';have u2:=u.st8 (G:=false) w2 c8') | refine Xd rfl ?_ | refine Qo rfl ?_ | refine QC rfl rfl ?_ | refine XS rfl rfl (by omega) ?_))
  exact ⟨.inl rfl,s,u2⟩
 ·have hp:r++put e C=r++[(e,C)]:=by unfold put;rw [if_neg hz]
  rw [hp]
  repeat' (first | refine Qg ?_ | refine Qb ?_ | refine Qf ?_ | ((refine Qh ?_);refine Qj rfl ?_) | ((refine Qe ?_);first | refine Qu rfl rfl rfl ?_ | refine QG rfl rfl rfl rfl ?_) | ((refine Qc ?_);first | refine Xu rfl c5 rfl ?_ | refine Xu rfl c8 rfl ?_ | (refine Xq rfl rfl k54 ?_;rintro v _ ⟨rfl,rfl⟩) | (refine ZW rfl rfl u.c8 ?_;intro h2 w2 c8';have u2:=u.st8 (G:=false) w2 c8') | refine Xi rfl ?_ | refine Qz rfl u2.c7 ?_ | (refine XE rfl rfl ?_) | (refine Js u2.e u2.o rfl rfl (by rw [Q6];simp only [Yu];omega) ?_;intro s' h6 o6 e6 f6 l6;have cX6:=u2.c7.fram f6 (u2.o.cel u2.c7);have o6':OwnD h0 h6 s' (tms (r++[(e,C)])):=(by simpa [tms,tmP] using o6)) | (refine Jr rfl rfl cX6 ?_;intro h7 w7;have u7:=u2.push o6' e6 f6 w7) | refine Xd rfl ?_ | refine Qo rfl ?_ | refine QC rfl rfl ?_ | refine Yg rfl rfl (by omega) ?_))
  refine JI ?_
  exact ⟨.inl rfl,s',u7⟩
 ·have hp:r++put e C=r:=by unfold put;rw [if_pos hz,Hc]
  rw [hp]
  repeat' (first | refine Qg ?_ | refine Qb ?_ | refine Qn ?_ | refine Qf ?_ | ((refine Qh ?_);refine Qk rfl ?_) | ((refine Qe ?_);first | refine Qu rfl rfl rfl ?_ | refine QG rfl rfl rfl rfl ?_) | ((refine Qc ?_);first | refine Xu rfl c5 rfl ?_ | refine Xu rfl c8 rfl ?_ | (refine Xq rfl rfl k54 ?_;rintro v _ ⟨rfl,rfl⟩) | (refine Qi rfl (k35 _) ?_;rintro v _ ⟨rfl,rfl⟩) | (refine ZW rfl rfl u.c8 ?_;intro h2 w2 c8';have u2:=u.st8 (G:=D) w2 c8') | refine QL rfl ?_ | refine Qo rfl ?_ | refine QS rfl rfl ?_ | refine XS rfl rfl (by omega) ?_))
  exact ⟨.inl rfl,s,u2⟩
 ·have hp:r++put e C=r++[(e,C)]:=by unfold put;rw [if_neg hz]
  rw [hp]
  repeat' (first | refine Qg ?_ | refine Qb ?_ | refine Qf ?_ | ((refine Qh ?_);refine Qj rfl ?_) | ((refine Qe ?_);first | refine Qu rfl rfl rfl ?_ | refine QG rfl rfl rfl rfl ?_) | ((refine Qc ?_);first | refine Xu rfl c5 rfl ?_ | refine Xu rfl c8 rfl ?_ | (refine Xq rfl rfl k54 ?_;rintro v _ ⟨rfl,rfl⟩) | (refine Qi rfl (k35 _) ?_;rintro v _ ⟨rfl,rfl⟩) | (refine ZW rfl rfl u.c8 ?_;intro h2 w2 c8';have u2:=u.st8 (G:=D) w2 c8') | refine Xi rfl ?_ | refine Qz rfl u2.c7 ?_ | (refine XE rfl rfl ?_) | (refine Js u2.e u2.o rfl rfl (by rw [Q6];simp only [Yu];omega) ?_;intro s' h6 o6 e6 f6 l6;have cX6:=u2.c7.fram f6 (u2.o.cel u2.c7);have o6':OwnD h0 h6 s' (tms (r++[(e,C)])):=(by simpa [tms,tmP] using o6)) | (refine Jr rfl rfl cX6 ?_;intro h7 w7;have u7:=u2.push o6' e6 f6 w7) | refine QL rfl ?_ | refine Qo rfl ?_ | refine QS rfl rfl ?_ | refine Yg rfl rfl (by omega) ?_))
  refine JI ?_
  exact ⟨.inl rfl,s',u7⟩
structure MgG (w:Int→Int→Int) (p q:List Tm) (i j:Nat) (F:Bool) (r:List Tm):Prop where
 eq:mG w p q=r++mG w (p.drop i) (q.drop j)
 ft:yu (mG w p q)↔(F=true∧yu (mG w (p.drop i) (q.drop j)))
 ln:r.length≤i+j
theorem MgG.step {w:Int→Int→Int} {p q:List Tm} {i j i' j':Nat} {F:Bool} {r:List Tm} (g:MgG w p q i j F r) {e c:Int} (h:mG w (p.drop i) (q.drop j)=put e c++mG w (p.drop i') (q.drop j')) (hl:i+j < i'+j'):MgG w p q i' j' (QbM F c) (r++put e c) :=
 ⟨by rw [g.eq,h,GI],by rw [g.ft,h,QdF],by have:=g.ln;have:=V6 e c;rw [GK];omega⟩
theorem mG_l {w:Int→Int→Int} {t:Tm} {p:List Tm}:mG w (t::p) []=put t.1 (w t.2 0)++mG w p []:=by unfold mG;rw [mrg]
theorem mG_r {w:Int→Int→Int} {u:Tm} {q:List Tm}:mG w [] (u::q)=put u.1 (w 0 u.2)++mG w [] q:=by unfold mG;rw [mrg]
theorem mG_lt {w:Int→Int→Int} {t u:Tm} {p q:List Tm} (h:t.1 < u.1):mG w (t::p) (u::q)=put t.1 (w t.2 0)++mG w p (u::q):=by unfold mG;rw [mrg,if_pos h]
theorem mG_gt {w:Int→Int→Int} {t u:Tm} {p q:List Tm} (h:u.1 < t.1):mG w (t::p) (u::q)=put u.1 (w 0 u.2)++mG w (t::p) q:=by unfold mG;rw [mrg,if_neg (by omega),if_pos h]
theorem mG_eq {w:Int→Int→Int} {t u:Tm} {p q:List Tm} (h:t.1=u.1):mG w (t::p) (u::q)=put t.1 (w t.2 u.2)++mG w p q:=by unfold mG;rw [mrg,if_neg (by omega),if_neg (by omega)]
def J53 (w:Int→Int→Int) (gf:FuncId) (h0:Qa) (q3 q4 q5 q6 q7 q8:Nat) (sp sq:SV) (p q:List Tm) (E:Env) (h:Qa):Prop:=∃ (i j:Nat) (s:SV) (F:Bool) (r:List Tm),i≤p.length∧j≤q.length∧CbG gf h0 h q3 q4 q5 q6 q7 q8 sp sq s F r∧MgG w p q i j F r ∧
 E.keep [3,4,6,7,8,9,10,11]=[(3,some (.sc (.ptr q3 0))),(4,some (.sc (.ptr q4 0))),(6,some (.sc (.ptr q6 0))),(7,some (.sc (.ptr q7 0))),(8,some (.sc (.ptr q8 0))),(9,some (.sc (.fn 83 [(q5,0),(q8,0),(q7,0)]))),(10,some (.sc (.int .i64 (i:Nat)))),(11,some (.sc (.int .i64 (j:Nat))))]
def S53 (w:Int→Int→Int) (gf:FuncId) (h0:Qa) (q3 q4 q5 q6 q7 q8:Nat) (sp sq:SV) (p q:List Tm) (ex:Ex) (E:Env) (h:Qa):Prop:=ex=.ex 0∧∃ (s:SV) (F:Bool),CbG gf h0 h q3 q4 q5 q6 q7 q8 sp sq s F (mG w p q)∧(yu (mG w p q)↔F=true)∧∃ a b c d e f,
 E=[(3,a),(4,b),(6,some (.sc (.ptr q6 0))),(7,some (.sc (.ptr q7 0))),(8,some (.sc (.ptr q8 0))),(9,c),(10,d),(11,e),(40,f)]
theorem QfH {w:Int→Int→Int} {gf:FuncId} (kw:Wop gf w) (h0:Qa) (q3 q4 q5 q6 q7 q8:Nat) (sp sq:SV) (p q:List Tm) (hp:IsD h0 sp (tms p)) (hq:IsD h0 sq (tms q)) (fp:∀ t∈p,t.2.natAbs≤cM∧t.1.natAbs≤eM) (fq:∀ t∈q,t.2.natAbs≤cM∧t.1.natAbs≤eM) (pl:p.length≤2097153) (ql:q.length≤2097153) (E:Env) (h:Qa) (hI:J53 w gf h0 q3 q4 q5 q6 q7 q8 sp sq p q E h) :
  wA FT HKt Qhp (E.keep [3,4,6,7,8,9,10,11]) h (QA (J53 w gf h0 q3 q4 q5 q6 q7 q8 sp sq p q) (qC p q) (qC p q E h) (S53 w gf h0 q3 q4 q5 q6 q7 q8 sp sq p q)):=by
 obtain ⟨i,j,s,F,r,hi,hj,u,g,hE⟩:=hI
 have hm:qC p q E h=p.length+q.length-(i+j):=by unfold qC;rw [hE];show p.length+q.length-((i:Int)+(j:Int)).toNat=_;omega
 rw [hm,hE]
 have lp:=hp.len
 have lq:=hq.len
 rw [Q6] at lp lq
 have gl:=g.ln
 have rl:r.length≤5000000:=by omega
 have z0:(0:Int).natAbs≤cM:=by simp
 have fin:∀ i' j':Nat,i+j < i'+j'→i'≤p.length→j'≤q.length→p.length+q.length-(i'+j') < p.length+q.length-(i+j):=fun i' j' a b c=>by omega
 by_cases hip:i < p.length
 ·obtain ⟨t,ht⟩:∃ t,p[i]?=some t:=⟨_,Ga hip⟩
  obtain ⟨tc,te⟩:=fp t (Gh ht)
  obtain ⟨id1,off1,cap1,e1,r1⟩:=hp.at (i:=i) (p:=tmP t) (by simp [ht])
  rw [Q6] at e1
  subst e1
  have rp:=QH u.e r1
  obtain ⟨rp1,rp2⟩:=rd1 rp
  by_cases hjq:j < q.length
  ·obtain ⟨v,hv⟩:∃ v,q[j]?=some v:=⟨_,Ga hjq⟩
   obtain ⟨vc,ve⟩:=fq v (Gh hv)
   obtain ⟨id2,off2,cap2,e2,r2⟩:=hq.at (i:=j) (p:=tmP v) (by simp [hv])
   rw [Q6] at e2
   subst e2
   have rq:=QH u.e r2
   obtain ⟨rq1,rq2⟩:=rd1 rq
   by_cases hlt:t.1 < v.1
   ·have g2:=g.step (i':=i+1) (j':=j) (by rw [Xz ht,Xz hv];exact mG_lt hlt) (by omega)
    have k82:=yI kw h0 h q3 q4 q5 q6 q7 q8 _ _ s F r t.1 t.2 0 u tc z0 rl
    repeat' (first | refine Qg ?_ | refine Qb ?_ | refine Qv ?_ | refine QJ ?_ | refine Qn ?_ | refine Qf ?_ | refine Q2 ?_ | refine Xk ?_ | refine Xl ?_ | ((refine Qh ?_);refine Qj rfl ?_) | ((refine Qe ?_);first | refine Q1 ?_ | refine Xw ?_ | refine Xa rfl rfl rfl rfl rfl rfl rfl rfl ?_ | refine Q5 rfl rfl rfl rfl rfl rfl rfl rfl rfl ?_) | ((refine Qc ?_);first | refine Xi rfl ?_ | refine Qz rfl u.c3 ?_ | refine Qz rfl u.c4 ?_ | refine Qs rfl lp ?_ | refine Qs rfl lq ?_ | refine Qw (esz:=2) rfl rfl (by omega) ?_ | refine Q4 rfl rp1 ?_ | refine Q4 rfl rp2 ?_ | refine Q4 rfl rq1 ?_ | (refine Xq rfl rfl k82 ?_;rintro w h2 ⟨s',u2⟩) | refine Xd rfl ?_ | refine QL rfl ?_ | refine Qo rfl ?_ | refine QS rfl rfl ?_ | refine QC rfl rfl ?_ | refine QK rfl rfl (by omega) ?_ | refine Qy rfl rfl (by omega) ?_ | refine Xf rfl rfl (by omega) ?_))
    exact Xo ⟨i+1,j,s',_,_,by omega,hj,u2,g2,rfl⟩ (by unfold qC;show p.length+q.length-(((i:Nat):Int)+1+(j:Int)).toNat < _;omega)
   ·by_cases hgt:v.1 < t.1
    ·have g2:=g.step (i':=i) (j':=j+1) (by rw [Xz ht,Xz hv];exact mG_gt hgt) (by omega)
     have k82:=yI kw h0 h q3 q4 q5 q6 q7 q8 _ _ s F r v.1 0 v.2 u z0 vc rl
     repeat' (first | refine Qg ?_ | refine Qb ?_ | refine Qv ?_ | refine QJ ?_ | refine Qn ?_ | refine Qf ?_ | refine Q2 ?_ | refine Xk ?_ | refine Xl ?_ | ((refine Qh ?_);first | refine Qj rfl ?_ | refine Qk rfl ?_) | ((refine Qe ?_);first | refine Q1 ?_ | refine Xw ?_ | refine Xa rfl rfl rfl rfl rfl rfl rfl rfl ?_ | refine Q5 rfl rfl rfl rfl rfl rfl rfl rfl rfl ?_) | ((refine Qc ?_);first | refine Xi rfl ?_ | refine Qz rfl u.c3 ?_ | refine Qz rfl u.c4 ?_ | refine Qs rfl lp ?_ | refine Qs rfl lq ?_ | refine Qw (esz:=2) rfl rfl (by omega) ?_ | refine Q4 rfl rp1 ?_ | refine Q4 rfl rq1 ?_ | refine Q4 rfl rq2 ?_ | (refine Xq rfl rfl k82 ?_;rintro w h2 ⟨s',u2⟩) | refine Xd rfl ?_ | refine QL rfl ?_ | refine Qo rfl ?_ | refine QS rfl rfl ?_ | refine QC rfl rfl ?_ | refine QK rfl rfl (by omega) ?_ | refine Qy rfl rfl (by omega) ?_ | refine QM rfl rfl (by omega) ?_ | refine Xf rfl rfl (by omega) ?_))
     exact Xo ⟨i,j+1,s',_,_,hi,by omega,u2,g2,rfl⟩ (by unfold qC;show p.length+q.length-((i:Int)+(((j:Nat):Int)+1)).toNat < _;omega)
    ·have heq:t.1=v.1:=by omega
     have g2:=g.step (i':=i+1) (j':=j+1) (by rw [Xz ht,Xz hv];exact mG_eq heq) (by omega)
     have k82:=yI kw h0 h q3 q4 q5 q6 q7 q8 _ _ s F r t.1 t.2 v.2 u tc vc rl
     repeat' (first | refine Qg ?_ | refine Qb ?_ | refine Qv ?_ | refine QJ ?_ | refine Qn ?_ | refine Qf ?_ | refine Q2 ?_ | refine Xk ?_ | refine Xl ?_ | ((refine Qh ?_);first | refine Qj rfl ?_ | refine Qk rfl ?_) | ((refine Qe ?_);first | refine Q1 ?_ | refine Xw ?_ | refine Xa rfl rfl rfl rfl rfl rfl rfl rfl ?_ | refine Q5 rfl rfl rfl rfl rfl rfl rfl rfl rfl ?_) | ((refine Qc ?_);first | refine Xi rfl ?_ | refine Qz rfl u.c3 ?_ | refine Qz rfl u.c4 ?_ | refine Qs rfl lp ?_ | refine Qs rfl lq ?_ | refine Qw (esz:=2) rfl rfl (by omega) ?_ | refine Q4 rfl rp1 ?_ | refine Q4 rfl rp2 ?_ | refine Q4 rfl rq1 ?_ | refine Q4 rfl rq2 ?_ | (refine Xq rfl rfl k82 ?_;rintro w h2 ⟨s',u2⟩) | refine Xd rfl ?_ | refine QL rfl ?_ | refine Qo rfl ?_ | refine QS rfl rfl ?_ | refine QC rfl rfl ?_ | refine QK rfl rfl (by omega) ?_ | refine Qy rfl rfl (by omega) ?_ | refine QM rfl rfl (by omega) ?_ | refine Xf rfl rfl (by omega) ?_))
     exact Xo ⟨i+1,j+1,s',_,_,by omega,by omega,u2,g2,rfl⟩ (by unfold qC;show p.length+q.length-(((i:Nat):Int)+1+(((j:Nat):Int)+1)).toNat < _;omega)
  ·have hjn:j=q.length:=by omega
   subst hjn
   have g2:=g.step (i':=i+1) (j':=q.length) (by rw [Xz ht,Hf];exact mG_l) (by omega)
   have k82:=yI kw h0 h q3 q4 q5 q6 q7 q8 _ _ s F r t.1 t.2 0 u tc z0 rl
   repeat' (first | refine Qg ?_ | refine Qb ?_ | refine Qv ?_ | refine QJ ?_ | refine Qn ?_ | refine Qf ?_ | refine Q2 ?_ | refine Xk ?_ | refine Xl ?_ | ((refine Qh ?_);refine Qj rfl ?_) | ((refine Qe ?_);first | refine Q1 ?_ | refine Xw ?_ | refine Xa rfl rfl rfl rfl rfl rfl rfl rfl ?_ | refine Q5 rfl rfl rfl rfl rfl rfl rfl rfl rfl ?_) | ((refine Qc ?_);first | refine Xi rfl ?_ | refine Qz rfl u.c3 ?_ | refine Qz rfl u.c4 ?_ | refine Qs rfl lp ?_ | refine Qs rfl lq ?_ | refine Qw (esz:=2) rfl rfl (by omega) ?_ | refine Q4 rfl rp1 ?_ | refine Q4 rfl rp2 ?_ | (refine Xq rfl rfl k82 ?_;rintro w h2 ⟨s',u2⟩) | refine Xd rfl ?_ | refine yo rfl ?_ | refine Qo rfl ?_ | refine QS rfl rfl ?_ | refine QK rfl rfl (by omega) ?_ | refine Qy rfl rfl (by omega) ?_ | refine XD rfl rfl (by omega) ?_))
   exact Xo ⟨i+1,q.length,s',_,_,by omega,hj,u2,g2,rfl⟩ (by unfold qC;show p.length+q.length-(((i:Nat):Int)+1+(q.length:Int)).toNat < _;omega)
 ·have hin:i=p.length:=by omega
  subst hin
  by_cases hjq:j < q.length
  ·obtain ⟨v,hv⟩:∃ v,q[j]?=some v:=⟨_,Ga hjq⟩
   obtain ⟨vc,ve⟩:=fq v (Gh hv)
   obtain ⟨id2,off2,cap2,e2,r2⟩:=hq.at (i:=j) (p:=tmP v) (by simp [hv])
   rw [Q6] at e2
   subst e2
   have rq:=QH u.e r2
   obtain ⟨rq1,rq2⟩:=rd1 rq
   have g2:=g.step (i':=p.length) (j':=j+1) (by rw [Xz hv,Hf];exact mG_r) (by omega)
   have k82:=yI kw h0 h q3 q4 q5 q6 q7 q8 _ _ s F r v.1 0 v.2 u z0 vc rl
   repeat' (first | refine Qg ?_ | refine Qb ?_ | refine Qv ?_ | refine QJ ?_ | refine Qn ?_ | refine Qf ?_ | refine Q2 ?_ | refine Xk ?_ | refine Xl ?_ | ((refine Qh ?_);first | refine Qj rfl ?_ | refine Qk rfl ?_) | ((refine Qe ?_);first | refine Q1 ?_ | refine Xw ?_ | refine Xa rfl rfl rfl rfl rfl rfl rfl rfl ?_ | refine Q5 rfl rfl rfl rfl rfl rfl rfl rfl rfl ?_) | ((refine Qc ?_);first | refine Xi rfl ?_ | refine Qz rfl u.c3 ?_ | refine Qz rfl u.c4 ?_ | refine Qs rfl lp ?_ | refine Qs rfl lq ?_ | refine Qw (esz:=2) rfl rfl (by omega) ?_ | refine Q4 rfl rq1 ?_ | refine Q4 rfl rq2 ?_ | (refine Xq rfl rfl k82 ?_;rintro w h2 ⟨s',u2⟩) | refine Xd rfl ?_ | refine QL rfl ?_ | refine Qo rfl ?_ | refine QS rfl rfl ?_ | refine QC rfl rfl ?_ | refine QK rfl rfl (by omega) ?_ | refine Qy rfl rfl (by omega) ?_ | refine QM rfl rfl (by omega) ?_ | refine XD rfl rfl (by omega) ?_ | refine Xf rfl rfl (by omega) ?_))
   exact Xo ⟨p.length,j+1,s',_,_,hi,by omega,u2,g2,rfl⟩ (by unfold qC;show p.length+q.length-((p.length:Int)+(((j:Nat):Int)+1)).toNat < _;omega)
  ·have hjn:j=q.length:=by omega
   subst hjn
   repeat' (first | refine Qg ?_ | refine Qb ?_ | refine Q0 ?_ | refine QX ?_ | refine Qf ?_ | ((refine Qh ?_);refine Qk rfl ?_) | ((refine Qe ?_);refine Q5 rfl rfl rfl rfl rfl rfl rfl rfl rfl ?_) | ((refine Qc ?_);first | refine Xi rfl ?_ | refine Qz rfl u.c3 ?_ | refine Qz rfl u.c4 ?_ | refine Qs rfl lp ?_ | refine Qs rfl lq ?_ | refine QL rfl ?_ | refine Qo rfl ?_ | refine QC rfl rfl ?_ | refine QM rfl rfl (by omega) ?_))
   have h1:=g.eq
   have h2:=g.ft
   have e0:mG w [] []=[]:=by unfold mG;rw [mrg]
   rw [Hf,Hf,e0] at h1 h2
   rw [Hc] at h1
   rw [← h1] at u
   exact XM ⟨rfl,s,F,u,h2.trans ⟨fun h=>h.1,fun h=>⟨h,fun t ht=>absurd ht (by simp)⟩⟩,_,_,_,_,_,_,rfl⟩
open Classical in
noncomputable def Zm (w:Int→Int→Int) (p q:Pol):Pol:=if p.big=true∨q.big=true then YP else if yu (mG w p.ts q.ts) then ⟨false,mG w p.ts q.ts⟩ else YP
theorem QjF {w:Int→Int→Int} {gf:FuncId} (kw:Wop gf w) (hw0:w 0 0=0) (h0:Qa) (sp sq:SV) (p q:Pol) (hp:IsD h0 sp (tms p.ts)) (hq:IsD h0 sq (tms q.ts)) (kp:Pok p) (kq:Pok q) :
  ∃ r h',Cal FT HKt 51 [.agg [.bool p.big,sp],.agg [.bool q.big,sq],.sc (.fn gf [])] h0 r h'∧Ext h0 h'∧yN h' r (Zm w p q):=by
 refine Cal.of (F:=a51) rfl rfl rfl ?_
 have lp:=hp.len
 have lq:=hq.len
 rw [Q6] at lp lq
 by_cases hbp:p.big=true
 ·have e:Zm w p q=YP:=by unfold Zm;rw [if_pos (.inl hbp)]
  rw [e,hbp]
  repeat' (first | refine Qg ?_ | refine Qb ?_ | refine QD ?_ | refine Qt ?_ | refine Qf ?_ | ((refine Qh ?_);refine Qj rfl ?_) | ((refine Qe ?_);first | refine Qq rfl ?_ | refine QG rfl rfl rfl rfl ?_ | refine QU rfl rfl rfl rfl rfl ?_) | ((refine Qc ?_);first | (have z:=e5;refine Xb ?_;intro h6 e6 c6;have d3:=c3.ext (e4.trans (e5.trans e6))) | (have z:=e4;refine yX rfl ?_;intro h5 e5 c5) | (have z:=e3;refine Qx rfl ?_;intro h4 e4 c4) | (refine Qx rfl ?_;intro h3 e3 c3) | refine QQ rfl d3 ?_ | (refine XE rfl rfl ?_) | (refine Xm rfl rfl c6 ?_;intro h7 w7) | refine Xd rfl ?_ | refine Qo rfl ?_ | refine QS rfl rfl ?_ | refine Xt rfl rfl ?_))
  exact ⟨.inr rfl,Xg rfl w7.cel.read ⟨w7.ext (e3.trans (e4.trans (e5.trans e6))) (Gn e3.len (Gn e4.len e5.len)),.nilS,rfl,IsD.nil _⟩⟩
 have hbp':p.big=false:=by simpa using hbp
 rw [hbp']
 by_cases hbq:q.big=true
 ·have e:Zm w p q=YP:=by unfold Zm;rw [if_pos (.inr hbq)]
  rw [e,hbq]
  repeat' (first | refine Qg ?_ | refine Qb ?_ | refine QD ?_ | refine Qt ?_ | refine Qf ?_ | ((refine Qh ?_);refine Qj rfl ?_) | ((refine Qe ?_);first | refine Qq rfl ?_ | refine QG rfl rfl rfl rfl ?_ | refine QU rfl rfl rfl rfl rfl ?_) | ((refine Qc ?_);first | (have z:=e5;refine Xb ?_;intro h6 e6 c6;have d3:=c3.ext (e4.trans (e5.trans e6));have d4:=c4.ext (e5.trans e6)) | (have z:=e4;refine yX rfl ?_;intro h5 e5 c5) | (have z:=e3;refine Qx rfl ?_;intro h4 e4 c4) | (refine Qx rfl ?_;intro h3 e3 c3) | refine QQ rfl d3 ?_ | refine QQ rfl d4 ?_ | (refine XE rfl rfl ?_) | (refine Xm rfl rfl c6 ?_;intro h7 w7) | refine QL rfl ?_ | refine Qo rfl ?_ | refine QC rfl rfl ?_ | refine Xt rfl rfl ?_))
  exact ⟨.inr rfl,Xg rfl w7.cel.read ⟨w7.ext (e3.trans (e4.trans (e5.trans e6))) (Gn e3.len (Gn e4.len e5.len)),.nilS,rfl,IsD.nil _⟩⟩
 have hbq':q.big=false:=by simpa using hbq
 rw [hbq']
 have nb:¬ (p.big=true∨q.big=true):=fun h=>h.elim hbp hbq
 have pl:=kp.len
 have ql:=kq.len
 repeat' (first | refine Qg ?_ | refine Qb ?_ | refine Qv ?_ | refine Qn ?_ | refine Qf ?_ | ((refine Qh ?_);refine Qk rfl ?_) | ((refine Qe ?_);first | refine QG rfl rfl rfl rfl ?_ | refine QU rfl rfl rfl rfl rfl ?_ | refine QT rfl rfl rfl rfl rfl rfl ?_ | refine Xa rfl rfl rfl rfl rfl rfl rfl rfl ?_) | ((refine Qc ?_);first | (have z:=e7;refine ZY ?_;intro h8 e8 c8;have u8:CbG gf h0 h8 h0.length h3.length h4.length h5.length hB.length h7.length sp sq S false []:=⟨xB.trans (e7.trans e8),d3_B.ext (e7.trans e8),d4_B.ext (e7.trans e8),Cel1.ext d5_B (e7.trans e8),c6_B.ext (e7.trans e8),c7.ext e8,c8,((oB.ext e7).ext e8).weaken x6.len,⟨Gf _,c3.lt,c4.lt,Cel1.lt c5,by have:=c6.lt;omega,c7.lt⟩⟩) | (have z:=xB;refine Yd rfl ?_;intro h7 e7 c7) | (have z:=e5;refine Xb ?_;intro h6 e6 c6;have d3:=c3.ext (e4.trans (e5.trans e6));have d4:=c4.ext (e5.trans e6);have d5:=Cel1.ext c5 e6;have x6:=e3.trans (e4.trans (e5.trans e6))) | (have z:=e4;refine yX rfl ?_;intro h5 e5 c5) | (have z:=e3;refine Qx rfl ?_;intro h4 e4 c4) | (refine Qx rfl ?_;intro h3 e3 c3) | refine QQ rfl d3 ?_ | refine QQ rfl d4 ?_ | refine Qz rfl d3 ?_ | refine Qz rfl d4 ?_ | refine Qs rfl lp ?_ | refine Qs rfl lq ?_ | (refine Qdz x6 rfl rfl (by simp only [Yu];omega) ?_;intro S hB oB eB xB lB;have d3_B:=d3.ext eB;have d4_B:=d4.ext eB;have d5_B:=Cel1.ext d5 eB;have c6_B:=c6.ext eB) | (refine XE rfl rfl ?_) | (refine ZW rfl rfl u8.c8 ?_;intro h9 w9 c9;have u9:=u8.st8 (G:=true) w9 c9) | refine QL rfl ?_ | refine Qo rfl ?_ | refine QC rfl rfl ?_ | refine QK rfl rfl (by omega) ?_ | refine Xt rfl rfl ?_))
 have g0:MgG w p.ts q.ts 0 0 true []:=⟨rfl,⟨fun h=>⟨rfl,h⟩,fun h=>h.2⟩,Gf _⟩
 refine YU (J53 w gf h0 h0.length h3.length h4.length h5.length hB.length h7.length sp sq p.ts q.ts) (qC p.ts q.ts) (S53 w gf h0 h0.length h3.length h4.length h5.length hB.length h7.length sp sq p.ts q.ts) ⟨0,0,S,true,[],Gs _,Gs _,u9,g0,rfl⟩ (QfH kw h0 h0.length h3.length h4.length h5.length hB.length h7.length sp sq p.ts q.ts hp hq (fun t ht=>⟨kp.cf t ht,kp.ex t ht⟩) (fun t ht=>⟨kq.cf t ht,kq.ex t ht⟩) pl ql) ?_
 rintro ex E' hC ⟨rfl,s,F,uC,hF,_,_,_,_,_,_,rfl⟩
 have o:=uC.ord
 have c8:=uC.c8.at
 have c6:=uC.c6
 have lq6:h0.length≤h5.length:=by omega
 cases F
 ·have e:Zm w p q=YP:=by unfold Zm;rw [if_neg nb,if_neg (fun h=>by have:=hF.1 h;simp at this)]
  rw [e]
  repeat' (first | refine Qg ?_ | refine Qb ?_ | refine QD ?_ | refine QP ?_ | refine Qt ?_ | refine Qf ?_ | ((refine Qh ?_);refine Qj rfl ?_) | ((refine Qe ?_);first | refine Qq rfl ?_ | refine Qu rfl rfl rfl ?_) | ((refine Qc ?_);first | refine Xu rfl c8 rfl ?_ | (refine XE rfl rfl ?_) | (refine Xm rfl rfl c6 ?_;intro hD wD) | refine Yw rfl ?_))
  exact ⟨.inr rfl,Xg rfl wD.cel.read ⟨wD.ext uC.e lq6,.nilS,rfl,IsD.nil _⟩⟩
 ·have e:Zm w p q=⟨false,mG w p.ts q.ts⟩:=by unfold Zm;rw [if_neg nb,if_pos (hF.2 rfl)]
  rw [e]
  repeat' (first | refine Qg ?_ | refine Qb ?_ | refine QP ?_ | refine Qn ?_ | refine Qt ?_ | refine Qf ?_ | ((refine Qh ?_);refine Qk rfl ?_) | ((refine Qe ?_);first | refine Qq rfl ?_ | refine Qu rfl rfl rfl ?_) | ((refine Qc ?_);first | refine Xu rfl c8 rfl ?_ | refine QI rfl uC.c7 ?_ | (refine Xm rfl rfl c6 ?_;intro hD wD) | refine XR rfl ?_))
  exact ⟨.inr rfl,Xg rfl wD.cel.read ⟨wD.ext uC.e lq6,s,rfl,(uC.o.wrC wD).is⟩⟩
