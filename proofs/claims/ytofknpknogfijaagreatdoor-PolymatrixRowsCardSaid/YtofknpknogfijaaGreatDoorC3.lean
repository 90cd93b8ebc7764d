/- Sums: contracts. -/
import Derived.Test.YtofknpknogfijaaGreatDoorSP1
namespace Go.Proofs.YtofknpknogfijaaGreatDoor
open Go.Ab
set_option linter.all false
set_option maxHeartbeats 16000000
set_option maxRecDepth 20000
attribute [local irreducible] Ql wA Xr Xp QA Qp QW QY
variable [HB]
structure Cb (h0 h:Qa) (q3 q4 q5 q6 q7 q8:Nat) (sp sq s:SV) (F:Bool) (r:List Tm):Prop where
 e:Ext h0 h
 c3:Cel h q3 (.bool false) sp
 c4:Cel h q4 (.bool false) sq
 c5:Cel1 h q5 (.fn 52 [])
 c6:Cel h q6 (.bool false) .nilS
 c7:Cel h q7 (.bool false) s
 c8:Cel1 h q8 (.bool F)
 o:OwnD h0 h s (tms r)
 ord:h0.length≤q3∧q3 < q4∧q4 < q5∧q5 < q6∧q6 < q7∧q7 < q8
theorem J0 {h:Qa} {q p:Nat} {a b:SV} (c:Cel h q a b) (hn:p≠q) (x:Blk):Cel (h.set p x) q a b:=by
 unfold Cel at *
 rw [Gj hn];exact c
theorem z8 {h h1:Qa} {q p:Nat} {a x y:SV} (c:Cel1 h q a) (w:Wr h h1 p x y) (hn:p≠q):Cel1 h1 q a:=by
 rw [w.eq];exact c.set hn _
theorem Cb.st8 {h0 h h1:Qa} {q3 q4 q5 q6 q7 q8:Nat} {sp sq s:SV} {F G:Bool} {r:List Tm} (u:Cb h0 h q3 q4 q5 q6 q7 q8 sp sq s F r) (hh:h1=h.set q8 (.cells [.bool G] true 0)) (c:Cel1 h1 q8 (.bool G)):Cb h0 h1 q3 q4 q5 q6 q7 q8 sp sq s G r:=by
 have o:=u.ord
 subst hh
 exact ⟨u.e.set (by omega) _,J0 u.c3 (by omega) _,J0 u.c4 (by omega) _,u.c5.set (by omega) _,J0 u.c6 (by omega) _,J0 u.c7 (by omega) _,c,u.o.set (u.o.cel u.c8) _,o⟩
theorem Cb.push {h0 h h6 h7:Qa} {q3 q4 q5 q6 q7 q8:Nat} {sp sq s s':SV} {F:Bool} {r r':List Tm} (u:Cb h0 h q3 q4 q5 q6 q7 q8 sp sq s F r) (o6:OwnD h0 h6 s' (tms r')) (e6:Ext h0 h6) (f6:Fram h h6 s s') (w7:Wr h6 h7 q7 (.bool false) s'):Cb h0 h7 q3 q4 q5 q6 q7 q8 sp sq s' F r':=by
 have o:=u.ord
 exact ⟨w7.ext e6 (by omega),w7.keep (u.c3.fram f6 (u.o.cel u.c3)) (by omega),w7.keep (u.c4.fram f6 (u.o.cel u.c4)) (by omega),z8 (u.c5.fram f6 (u.o.cel u.c5)) w7 (by omega),w7.keep (u.c6.fram f6 (u.o.cel u.c6)) (by omega),w7.cel,z8 (u.c8.fram f6 (u.o.cel u.c8)) w7 (by omega),o6.wrC w7,o⟩
theorem Qmw (h0:Qa) (a b:Int) (ha:a.natAbs≤cM) (hb:b.natAbs≤cM):∃ r h',Cal FT HKt 52 ([.sc (.int .i64 a),.sc (.int .i64 b)]++([]:List (Nat × Nat)).map fun p=>AV.sc (.ptr p.1 p.2)) h0 r h'∧r=.sc (.int .i64 (a+b))∧h'=h0:=by
 refine Cal.of (F:=a52) rfl rfl rfl ?_
 simp only [cM] at ha hb
 repeat' (first | refine Qg ?_ | refine Qb ?_ | refine Qt ?_ | refine Qf ?_ | ((refine Qe ?_);first | refine Qq rfl ?_ | refine QE rfl rfl ?_) | ((refine Qc ?_);first | refine Qo rfl ?_ | refine QK rfl rfl (by omega) ?_))
 exact ⟨.inr rfl,rfl,rfl⟩
def QbM (F:Bool) (c:Int):Bool:=F && decide (c.natAbs≤cM)
theorem UV (h0 h:Qa) (q3 q4 q5 q6 q7 q8:Nat) (sp sq s:SV) (F:Bool) (r:List Tm) (e a b:Int) (u:Cb h0 h q3 q4 q5 q6 q7 q8 sp sq s F r) (ha:a.natAbs≤cM) (hb:b.natAbs≤cM) (hl:r.length≤5000000) :
  ∃ v h',Cal FT HKt 83 [.sc (.int .i64 e),.sc (.int .i64 a),.sc (.int .i64 b),.sc (.ptr q5 0),.sc (.ptr q8 0),.sc (.ptr q7 0)] h v h'∧∃ s',Cb h0 h' q3 q4 q5 q6 q7 q8 sp sq s' (QbM F (a+b)) (r++put e (a+b)):=by
 refine Cal.of (F:=a83) rfl rfl rfl ?_
 have k54:=Qmw h a b ha hb
 simp only [cM] at ha hb
 have k35:=fun H=>UW H (a+b) 1125899906842624 (by omega)
 have hd:∀ F',QbM F' (a+b)=(F' && decide ((a+b).natAbs≤(1125899906842624:Int).toNat)):=fun _=>rfl
 rw [hd]
 generalize decide ((a+b).natAbs≤(1125899906842624:Int).toNat)=D at *
 generalize hC:a+b=C at *
 have c5:=u.c5.at
 have c8:=u.c8.at
 cases F <;> by_cases hz:C=0
 ·have hp:r++put e C=r:=by unfold put;rw [if_pos hz,Hc]
  rw [hp]
  repeat' (first | refine Qg ?_ | refine Qb ?_ | refine Qn ?_ | refine Qf ?_ | ((refine Qh ?_);refine Qk rfl ?_) | ((refine Qe ?_);first | refine Qu rfl rfl rfl ?_ | refine QG rfl rfl rfl rfl ?_) | ((refine Qc ?_);first | refine Xu rfl c5 rfl ?_ | refine Xu rfl c8 rfl ?_ | (refine Xq rfl rfl k54 ?_;rintro v _ ⟨rfl,rfl⟩) | (refine ZW rfl rfl u.c8 ?_;intro h2 w2 c8';have u2:=u.st8 (G:=false) w2 c8') | refine Xd rfl ?_ | refine Qo rfl ?_ | refine QC rfl rfl ?_ | refine XS rfl rfl (by omega) ?_))
  exact ⟨.inl rfl,s,u2⟩
 ·have hp:r++put e C=r++[(e,C)]:=by unfold put;rw [if_neg hz]
  rw [hp]
  repeat' (first | refine Qg ?_ | refine Qb ?_ | refine Qf ?_ | ((refine Qh ?_);refine Qj rfl ?_) | ((refine Qe ?_);first | refine Qu rfl rfl rfl ?_ | refine QG rfl rfl rfl rfl ?_) | ((refine Qc ?_);first | refine Xu rfl c5 rfl ?_ | refine Xu rfl c8 rfl ?_ | (refine Xq rfl rfl k54 ?_;rintro v _ ⟨rfl,rfl⟩) | (refine ZW rfl rfl u.c8 ?_;intro h2 w2 c8';have u2:=u.st8 (G:=false) w2 c8') | refine Xi rfl ?_ | refine Qz rfl u2.c7 ?_ | (refine XE rfl rfl ?_) | (refine Js u2.e u2.o rfl rfl (by rw [Q6];simp only [Yu];omega) ?_;intro s' h6 o6 e6 f6 l6;have cX6:=u2.c7.fram f6 (u2.o.cel u2.c7);have o6':OwnD h0 h6 s' (tms (r++[(e,C)])):=(by simpa [tms,tmP] using o6)) | (refine Jr rfl rfl cX6 ?_;intro h7 w7;have u7:=u2.push o6' e6 f6 w7) | refine Xd rfl ?_ | refine Qo rfl ?_ | refine QC rfl rfl ?_ | refine Yg rfl rfl (by omega) ?_))
  refine JI ?_
  exact ⟨.inl rfl,s',u7⟩
 ·have hp:r++put e C=r:=by unfold put;rw [if_pos hz,Hc]
  rw [hp]
  repeat' (first | refine Qg ?_ | refine Qb ?_ | refine Qn ?_ | refine Qf ?_ | ((refine Qh ?_);refine Qk rfl ?_) | ((refine Qe ?_);first | refine Qu rfl rfl rfl ?_ | refine QG rfl rfl rfl rfl ?_) | ((refine Qc ?_);first | refine Xu rfl c5 rfl ?_ | refine Xu rfl c8 rfl ?_ | (refine Xq rfl rfl k54 ?_;rintro v _ ⟨rfl,rfl⟩) | (refine Qi rfl (k35 _) ?_;rintro v _ ⟨rfl,rfl⟩) | (refine ZW rfl rfl u.c8 ?_;intro h2 w2 c8';have u2:=u.st8 (G:=D) w2 c8') | refine QL rfl ?_ | refine Qo rfl ?_ | refine QS rfl rfl ?_ | refine XS rfl rfl (by omega) ?_))
  exact ⟨.inl rfl,s,u2⟩
 ·have hp:r++put e C=r++[(e,C)]:=by unfold put;rw [if_neg hz]
  rw [hp]
  repeat' (first | refine Qg ?_ | refine Qb ?_ | refine Qf ?_ | ((refine Qh ?_);refine Qj rfl ?_) | ((refine Qe ?_);first | refine Qu rfl rfl rfl ?_ | refine QG rfl rfl rfl rfl ?_) | ((refine Qc ?_);first | refine Xu rfl c5 rfl ?_ | refine Xu rfl c8 rfl ?_ | (refine Xq rfl rfl k54 ?_;rintro v _ ⟨rfl,rfl⟩) | (refine Qi rfl (k35 _) ?_;rintro v _ ⟨rfl,rfl⟩) | (refine ZW rfl rfl u.c8 ?_;intro h2 w2 c8';have u2:=u.st8 (G:=D) w2 c8') | refine Xi rfl ?_ | refine Qz rfl u2.c7 ?_ | (refine XE rfl rfl ?_) | (refine Js u2.e u2.o rfl rfl (by rw [Q6];simp only [Yu];omega) ?_;intro s' h6 o6 e6 f6 l6;have cX6:=u2.c7.fram f6 (u2.o.cel u2.c7);have o6':OwnD h0 h6 s' (tms (r++[(e,C)])):=(by simpa [tms,tmP] using o6)) | (refine Jr rfl rfl cX6 ?_;intro h7 w7;have u7:=u2.push o6' e6 f6 w7) | refine QL rfl ?_ | refine Qo rfl ?_ | refine QS rfl rfl ?_ | refine Yg rfl rfl (by omega) ?_))
  refine JI ?_
  exact ⟨.inl rfl,s',u7⟩
def mA:List Tm→List Tm→List Tm:=mrg fun a b=>a+b
def yu (l:List Tm):Prop:=∀ t∈l,t.2.natAbs≤cM
theorem QdF {F:Bool} {e c:Int} {M:List Tm}:(F=true∧yu (put e c++M))↔(QbM F c=true∧yu M):=by
 unfold yu QbM
 simp only [Bool.and_eq_true,decide_eq_true_eq,Gv]
 constructor
 ·rintro ⟨h1,h2⟩
  refine ⟨⟨h1,?_⟩,fun t ht=>h2 t (.inr ht)⟩
  by_cases hz:c=0
  ·subst hz;simp
  ·exact h2 (e,c) (.inl (by unfold put;rw [if_neg hz];simp))
 ·rintro ⟨⟨h1,h2⟩,h3⟩
  refine ⟨h1,fun t ht=>ht.elim (fun ht=>?_) (h3 t)⟩
  rw [(Y7 ht).1];exact h2
theorem V6 (e c:Int):(put e c).length≤1:=by unfold put;split <;> simp
structure Mg (p q:List Tm) (i j:Nat) (F:Bool) (r:List Tm):Prop where
 eq:mA p q=r++mA (p.drop i) (q.drop j)
 ft:yu (mA p q)↔(F=true∧yu (mA (p.drop i) (q.drop j)))
 ln:r.length≤i+j
theorem Mg.step {p q:List Tm} {i j i' j':Nat} {F:Bool} {r:List Tm} (g:Mg p q i j F r) {e c:Int} (h:mA (p.drop i) (q.drop j)=put e c++mA (p.drop i') (q.drop j')) (hl:i+j < i'+j'):Mg p q i' j' (QbM F c) (r++put e c) :=
 ⟨by rw [g.eq,h,GI],by rw [g.ft,h,QdF],by have:=g.ln;have:=V6 e c;rw [GK];omega⟩
theorem mA_l {t:Tm} {p:List Tm}:mA (t::p) []=put t.1 (t.2+0)++mA p []:=by unfold mA;rw [mrg]
theorem mA_r {u:Tm} {q:List Tm}:mA [] (u::q)=put u.1 (0+u.2)++mA [] q:=by unfold mA;rw [mrg]
theorem mA_lt {t u:Tm} {p q:List Tm} (h:t.1 < u.1):mA (t::p) (u::q)=put t.1 (t.2+0)++mA p (u::q):=by unfold mA;rw [mrg,if_pos h]
theorem mA_gt {t u:Tm} {p q:List Tm} (h:u.1 < t.1):mA (t::p) (u::q)=put u.1 (0+u.2)++mA (t::p) q:=by unfold mA;rw [mrg,if_neg (by omega),if_pos h]
theorem mA_eq {t u:Tm} {p q:List Tm} (h:t.1=u.1):mA (t::p) (u::q)=put t.1 (t.2+u.2)++mA p q:=by unfold mA;rw [mrg,if_neg (by omega),if_neg (by omega)]
def I51 (h0:Qa) (q3 q4 q5 q6 q7 q8:Nat) (sp sq:SV) (p q:List Tm) (E:Env) (h:Qa):Prop:=∃ (i j:Nat) (s:SV) (F:Bool) (r:List Tm),i≤p.length∧j≤q.length∧Cb h0 h q3 q4 q5 q6 q7 q8 sp sq s F r∧Mg p q i j F r ∧
 E.keep [3,4,6,7,8,9,10,11]=[(3,some (.sc (.ptr q3 0))),(4,some (.sc (.ptr q4 0))),(6,some (.sc (.ptr q6 0))),(7,some (.sc (.ptr q7 0))),(8,some (.sc (.ptr q8 0))),(9,some (.sc (.fn 83 [(q5,0),(q8,0),(q7,0)]))),(10,some (.sc (.int .i64 (i:Nat)))),(11,some (.sc (.int .i64 (j:Nat))))]
def R51 (h0:Qa) (q3 q4 q5 q6 q7 q8:Nat) (sp sq:SV) (p q:List Tm) (ex:Ex) (E:Env) (h:Qa):Prop:=ex=.ex 0∧∃ (s:SV) (F:Bool),Cb h0 h q3 q4 q5 q6 q7 q8 sp sq s F (mA p q)∧(yu (mA p q)↔F=true)∧∃ a b c d e f,
 E=[(3,a),(4,b),(6,some (.sc (.ptr q6 0))),(7,some (.sc (.ptr q7 0))),(8,some (.sc (.ptr q8 0))),(9,c),(10,d),(11,e),(40,f)]
def qC (p q:List Tm) (E:Env) (_:Qa):Nat:=match (E.keep [3,4,6,7,8,9,10,11]).get 10,(E.keep [3,4,6,7,8,9,10,11]).get 11 with | some (.sc (.int .i64 i)),some (.sc (.int .i64 j))=>p.length+q.length-(i+j).toNat | _,_=>0
theorem QiV (h0:Qa) (q3 q4 q5 q6 q7 q8:Nat) (sp sq:SV) (p q:List Tm) (hp:IsD h0 sp (tms p)) (hq:IsD h0 sq (tms q)) (fp:∀ t∈p,t.2.natAbs≤cM∧t.1.natAbs≤eM) (fq:∀ t∈q,t.2.natAbs≤cM∧t.1.natAbs≤eM) (pl:p.length≤2097153) (ql:q.length≤2097153) (E:Env) (h:Qa) (hI:I51 h0 q3 q4 q5 q6 q7 q8 sp sq p q E h) :
  wA FT HKt Qhp (E.keep [3,4,6,7,8,9,10,11]) h (QA (I51 h0 q3 q4 q5 q6 q7 q8 sp sq p q) (qC p q) (qC p q E h) (R51 h0 q3 q4 q5 q6 q7 q8 sp sq p q)):=by
 obtain ⟨i,j,s,F,r,hi,hj,u,g,hE⟩:=hI
 have hm:qC p q E h=p.length+q.length-(i+j):=by unfold qC;rw [hE];show p.length+q.length-((i:Int)+(j:Int)).toNat=_;omega
 rw [hm,hE]
 have lp:=hp.len
 have lq:=hq.len
 rw [Q6] at lp lq
 have gl:=g.ln
 have rl:r.length≤5000000:=by omega
 have z0:(0:Int).natAbs≤cM:=by simp
 have fin:∀ i' j':Nat,i+j < i'+j'→i'≤p.length→j'≤q.length→p.length+q.length-(i'+j') < p.length+q.length-(i+j):=fun i' j' a b c=>by omega
 by_cases hip:i < p.length
 ·obtain ⟨t,ht⟩:∃ t,p[i]?=some t:=⟨_,Ga hip⟩
  obtain ⟨tc,te⟩:=fp t (Gh ht)
  obtain ⟨id1,off1,cap1,e1,r1⟩:=hp.at (i:=i) (p:=tmP t) (by simp [ht])
  rw [Q6] at e1
  subst e1
  have rp:=QH u.e r1
  obtain ⟨rp1,rp2⟩:=rd1 rp
  by_cases hjq:j < q.length
  ·obtain ⟨v,hv⟩:∃ v,q[j]?=some v:=⟨_,Ga hjq⟩
   obtain ⟨vc,ve⟩:=fq v (Gh hv)
   obtain ⟨id2,off2,cap2,e2,r2⟩:=hq.at (i:=j) (p:=tmP v) (by simp [hv])
   rw [Q6] at e2
   subst e2
   have rq:=QH u.e r2
   obtain ⟨rq1,rq2⟩:=rd1 rq
   by_cases hlt:t.1 < v.1
   ·have g2:=g.step (i':=i+1) (j':=j) (by rw [Xz ht,Xz hv];exact mA_lt hlt) (by omega)
    have k82:=UV h0 h q3 q4 q5 q6 q7 q8 _ _ s F r t.1 t.2 0 u tc z0 rl
    repeat' (first | refine Qg ?_ | refine Qb ?_ | refine Qv ?_ | refine QJ ?_ | refine Qn ?_ | refine Qf ?_ | refine Q2 ?_ | refine Xk ?_ | refine Xl ?_ | ((refine Qh ?_);refine Qj rfl ?_) | ((refine Qe ?_);first | refine Q1 ?_ | refine Xw ?_ | refine Xa rfl rfl rfl rfl rfl rfl rfl rfl ?_ | refine Q5 rfl rfl rfl rfl rfl rfl rfl rfl rfl ?_) | ((refine Qc ?_);first | refine Xi rfl ?_ | refine Qz rfl u.c3 ?_ | refine Qz rfl u.c4 ?_ | refine Qs rfl lp ?_ | refine Qs rfl lq ?_ | refine Qw (esz:=2) rfl rfl (by omega) ?_ | refine Q4 rfl rp1 ?_ | refine Q4 rfl rp2 ?_ | refine Q4 rfl rq1 ?_ | (refine Xq rfl rfl k82 ?_;rintro w h2 ⟨s',u2⟩) | refine Xd rfl ?_ | refine QL rfl ?_ | refine Qo rfl ?_ | refine QS rfl rfl ?_ | refine QC rfl rfl ?_ | refine QK rfl rfl (by omega) ?_ | refine Qy rfl rfl (by omega) ?_ | refine Xf rfl rfl (by omega) ?_))
    exact Xo ⟨i+1,j,s',_,_,by omega,hj,u2,g2,rfl⟩ (by unfold qC;show p.length+q.length-(((i:Nat):Int)+1+(j:Int)).toNat < _;omega)
   ·by_cases hgt:v.1 < t.1
    ·have g2:=g.step (i':=i) (j':=j+1) (by rw [Xz ht,Xz hv];exact mA_gt hgt) (by omega)
     have k82:=UV h0 h q3 q4 q5 q6 q7 q8 _ _ s F r v.1 0 v.2 u z0 vc rl
     repeat' (first | refine Qg ?_ | refine Qb ?_ | refine Qv ?_ | refine QJ ?_ | refine Qn ?_ | refine Qf ?_ | refine Q2 ?_ | refine Xk ?_ | refine Xl ?_ | ((refine Qh ?_);first | refine Qj rfl ?_ | refine Qk rfl ?_) | ((refine Qe ?_);first | refine Q1 ?_ | refine Xw ?_ | refine Xa rfl rfl rfl rfl rfl rfl rfl rfl ?_ | refine Q5 rfl rfl rfl rfl rfl rfl rfl rfl rfl ?_) | ((refine Qc ?_);first | refine Xi rfl ?_ | refine Qz rfl u.c3 ?_ | refine Qz rfl u.c4 ?_ | refine Qs rfl lp ?_ | refine Qs rfl lq ?_ | refine Qw (esz:=2) rfl rfl (by omega) ?_ | refine Q4 rfl rp1 ?_ | refine Q4 rfl rq1 ?_ | refine Q4 rfl rq2 ?_ | (refine Xq rfl rfl k82 ?_;rintro w h2 ⟨s',u2⟩) | refine Xd rfl ?_ | refine QL rfl ?_ | refine Qo rfl ?_ | refine QS rfl rfl ?_ | refine QC rfl rfl ?_ | refine QK rfl rfl (by omega) ?_ | refine Qy rfl rfl (by omega) ?_ | refine QM rfl rfl (by omega) ?_ | refine Xf rfl rfl (by omega) ?_))
     exact Xo ⟨i,j+1,s',_,_,hi,by omega,u2,g2,rfl⟩ (by unfold qC;show p.length+q.length-((i:Int)+(((j:Nat):Int)+1)).toNat < _;omega)
    ·have heq:t.1=v.1:=by omega
     have g2:=g.step (i':=i+1) (j':=j+1) (by rw [Xz ht,Xz hv];exact mA_eq heq) (by omega)
     have k82:=UV h0 h q3 q4 q5 q6 q7 q8 _ _ s F r t.1 t.2 v.2 u tc vc rl
     repeat' (first | refine Qg ?_ | refine Qb ?_ | refine Qv ?_ | refine QJ ?_ | refine Qn ?_ | refine Qf ?_ | refine Q2 ?_ | refine Xk ?_ | refine Xl ?_ | ((refine Qh ?_);first | refine Qj rfl ?_ | refine Qk rfl ?_) | ((refine Qe ?_);first | refine Q1 ?_ | refine Xw ?_ | refine Xa rfl rfl rfl rfl rfl rfl rfl rfl ?_ | refine Q5 rfl rfl rfl rfl rfl rfl rfl rfl rfl ?_) | ((refine Qc ?_);first | refine Xi rfl ?_ | refine Qz rfl u.c3 ?_ | refine Qz rfl u.c4 ?_ | refine Qs rfl lp ?_ | refine Qs rfl lq ?_ | refine Qw (esz:=2) rfl rfl (by omega) ?_ | refine Q4 rfl rp1 ?_ | refine Q4 rfl rp2 ?_ | refine Q4 rfl rq1 ?_ | refine Q4 rfl rq2 ?_ | (refine Xq rfl rfl k82 ?_;rintro w h2 ⟨s',u2⟩) | refine Xd rfl ?_ | refine QL rfl ?_ | refine Qo rfl ?_ | refine QS rfl rfl ?_ | refine QC rfl rfl ?_ | refine QK rfl rfl (by omega) ?_ | refine Qy rfl rfl (by omega) ?_ | refine QM rfl rfl (by omega) ?_ | refine Xf rfl rfl (by omega) ?_))
     exact Xo ⟨i+1,j+1,s',_,_,by omega,by omega,u2,g2,rfl⟩ (by unfold qC;show p.length+q.length-(((i:Nat):Int)+1+(((j:Nat):Int)+1)).toNat < _;omega)
  ·have hjn:j=q.length:=by omega
   subst hjn
   have g2:=g.step (i':=i+1) (j':=q.length) (by rw [Xz ht,Hf];exact mA_l) (by omega)
   have k82:=UV h0 h q3 q4 q5 q6 q7 q8 _ _ s F r t.1 t.2 0 u tc z0 rl
   repeat' (first | refine Qg ?_ | refine Qb ?_ | refine Qv ?_ | refine QJ ?_ | refine Qn ?_ | refine Qf ?_ | refine Q2 ?_ | refine Xk ?_ | refine Xl ?_ | ((refine Qh ?_);refine Qj rfl ?_) | ((refine Qe ?_);first | refine Q1 ?_ | refine Xw ?_ | refine Xa rfl rfl rfl rfl rfl rfl rfl rfl ?_ | refine Q5 rfl rfl rfl rfl rfl rfl rfl rfl rfl ?_) | ((refine Qc ?_);first | refine Xi rfl ?_ | refine Qz rfl u.c3 ?_ | refine Qz rfl u.c4 ?_ | refine Qs rfl lp ?_ | refine Qs rfl lq ?_ | refine Qw (esz:=2) rfl rfl (by omega) ?_ | refine Q4 rfl rp1 ?_ | refine Q4 rfl rp2 ?_ | (refine Xq rfl rfl k82 ?_;rintro w h2 ⟨s',u2⟩) | refine Xd rfl ?_ | refine yo rfl ?_ | refine Qo rfl ?_ | refine QS rfl rfl ?_ | refine QK rfl rfl (by omega) ?_ | refine Qy rfl rfl (by omega) ?_ | refine XD rfl rfl (by omega) ?_))
   exact Xo ⟨i+1,q.length,s',_,_,by omega,hj,u2,g2,rfl⟩ (by unfold qC;show p.length+q.length-(((i:Nat):Int)+1+(q.length:Int)).toNat < _;omega)
 ·have hin:i=p.length:=by omega
  subst hin
  by_cases hjq:j < q.length
  ·obtain ⟨v,hv⟩:∃ v,q[j]?=some v:=⟨_,Ga hjq⟩
   obtain ⟨vc,ve⟩:=fq v (Gh hv)
   obtain ⟨id2,off2,cap2,e2,r2⟩:=hq.at (i:=j) (p:=tmP v) (by simp [hv])
   rw [Q6] at e2
   subst e2
   have rq:=QH u.e r2
   obtain ⟨rq1,rq2⟩:=rd1 rq
   have g2:=g.step (i':=p.length) (j':=j+1) (by rw [Xz hv,Hf];exact mA_r) (by omega)
   have k82:=UV h0 h q3 q4 q5 q6 q7 q8 _ _ s F r v.1 0 v.2 u z0 vc rl
   repeat' (first | refine Qg ?_ | refine Qb ?_ | refine Qv ?_ | refine QJ ?_ | refine Qn ?_ | refine Qf ?_ | refine Q2 ?_ | refine Xk ?_ | refine Xl ?_ | ((refine Qh ?_);first | refine Qj rfl ?_ | refine Qk rfl ?_) | ((refine Qe ?_);first | refine Q1 ?_ | refine Xw ?_ | refine Xa rfl rfl rfl rfl rfl rfl rfl rfl ?_ | refine Q5 rfl rfl rfl rfl rfl rfl rfl rfl rfl ?_) | ((refine Qc ?_);first | refine Xi rfl ?_ | refine Qz rfl u.c3 ?_ | refine Qz rfl u.c4 ?_ | refine Qs rfl lp ?_ | refine Qs rfl lq ?_ | refine Qw (esz:=2) rfl rfl (by omega) ?_ | refine Q4 rfl rq1 ?_ | refine Q4 rfl rq2 ?_ | (refine Xq rfl rfl k82 ?_;rintro w h2 ⟨s',u2⟩) | refine Xd rfl ?_ | refine QL rfl ?_ | refine Qo rfl ?_ | refine QS rfl rfl ?_ | refine QC rfl rfl ?_ | refine QK rfl rfl (by omega) ?_ | refine Qy rfl rfl (by omega) ?_ | refine QM rfl rfl (by omega) ?_ | refine XD rfl rfl (by omega) ?_ | refine Xf rfl rfl (by omega) ?_))
   exact Xo ⟨p.length,j+1,s',_,_,hi,by omega,u2,g2,rfl⟩ (by unfold qC;show p.length+q.length-((p.length:Int)+(((j:Nat):Int)+1)).toNat < _;omega)
  ·have hjn:j=q.length:=by omega
   subst hjn
   repeat' (first | refine Qg ?_ | refine Qb ?_ | refine Q0 ?_ | refine QX ?_ | refine Qf ?_ | ((refine Qh ?_);refine Qk rfl ?_) | ((refine Qe ?_);refine Q5 rfl rfl rfl rfl rfl rfl rfl rfl rfl ?_) | ((refine Qc ?_);first | refine Xi rfl ?_ | refine Qz rfl u.c3 ?_ | refine Qz rfl u.c4 ?_ | refine Qs rfl lp ?_ | refine Qs rfl lq ?_ | refine QL rfl ?_ | refine Qo rfl ?_ | refine QC rfl rfl ?_ | refine QM rfl rfl (by omega) ?_))
   have h1:=g.eq
   have h2:=g.ft
   have e0:mA [] []=[]:=by unfold mA;rw [mrg]
   rw [Hf,Hf,e0] at h1 h2
   rw [Hc] at h1
   rw [← h1] at u
   exact XM ⟨rfl,s,F,u,h2.trans ⟨fun h=>h.1,fun h=>⟨h,fun t ht=>absurd ht (by simp)⟩⟩,_,_,_,_,_,_,rfl⟩
open Classical in
noncomputable def Je (p q:Pol):Pol:=if p.big=true∨q.big=true then YP else if yu (mA p.ts q.ts) then ⟨false,mA p.ts q.ts⟩ else YP
theorem Qmx (h0:Qa) (sp sq:SV) (p q:Pol) (hp:IsD h0 sp (tms p.ts)) (hq:IsD h0 sq (tms q.ts)) (kp:Pok p) (kq:Pok q) :
  ∃ r h',Cal FT HKt 51 [.agg [.bool p.big,sp],.agg [.bool q.big,sq],.sc (.fn 52 [])] h0 r h'∧Ext h0 h'∧yN h' r (Je p q):=by
 refine Cal.of (F:=a51) rfl rfl rfl ?_
 have lp:=hp.len
 have lq:=hq.len
 rw [Q6] at lp lq
 by_cases hbp:p.big=true
 ·have e:Je p q=YP:=by unfold Je;rw [if_pos (.inl hbp)]
  rw [e,hbp]
  repeat' (first | refine Qg ?_ | refine Qb ?_ | refine QD ?_ | refine Qt ?_ | refine Qf ?_ | ((refine Qh ?_);refine Qj rfl ?_) | ((refine Qe ?_);first | refine Qq rfl ?_ | refine QG rfl rfl rfl rfl ?_ | refine QU rfl rfl rfl rfl rfl ?_) | ((refine Qc ?_);first | (have z:=e5;refine Xb ?_;intro h6 e6 c6;have d3:=c3.ext (e4.trans (e5.trans e6))) | (have z:=e4;refine yX rfl ?_;intro h5 e5 c5) | (have z:=e3;refine Qx rfl ?_;intro h4 e4 c4) | (refine Qx rfl ?_;intro h3 e3 c3) | refine QQ rfl d3 ?_ | (refine XE rfl rfl ?_) | (refine Xm rfl rfl c6 ?_;intro h7 w7) | refine Xd rfl ?_ | refine Qo rfl ?_ | refine QS rfl rfl ?_ | refine Xt rfl rfl ?_))
  exact ⟨.inr rfl,Xg rfl w7.cel.read ⟨w7.ext (e3.trans (e4.trans (e5.trans e6))) (Gn e3.len (Gn e4.len e5.len)),.nilS,rfl,IsD.nil _⟩⟩
 have hbp':p.big=false:=by simpa using hbp
 rw [hbp']
 by_cases hbq:q.big=true
 ·have e:Je p q=YP:=by unfold Je;rw [if_pos (.inr hbq)]
  rw [e,hbq]
  repeat' (first | refine Qg ?_ | refine Qb ?_ | refine QD ?_ | refine Qt ?_ | refine Qf ?_ | ((refine Qh ?_);refine Qj rfl ?_) | ((refine Qe ?_);first | refine Qq rfl ?_ | refine QG rfl rfl rfl rfl ?_ | refine QU rfl rfl rfl rfl rfl ?_) | ((refine Qc ?_);first | (have z:=e5;refine Xb ?_;intro h6 e6 c6;have d3:=c3.ext (e4.trans (e5.trans e6));have d4:=c4.ext (e5.trans e6)) | (have z:=e4;refine yX rfl ?_;intro h5 e5 c5) | (have z:=e3;refine Qx rfl ?_;intro h4 e4 c4) | (refine Qx rfl ?_;intro h3 e3 c3) | refine QQ rfl d3 ?_ | refine QQ rfl d4 ?_ | (refine XE rfl rfl ?_) | (refine Xm rfl rfl c6 ?_;intro h7 w7) | refine QL rfl ?_ | refine Qo rfl ?_ | refine QC rfl rfl ?_ | refine Xt rfl rfl ?_))
  exact ⟨.inr rfl,Xg rfl w7.cel.read ⟨w7.ext (e3.trans (e4.trans (e5.trans e6))) (Gn e3.len (Gn e4.len e5.len)),.nilS,rfl,IsD.nil _⟩⟩
 have hbq':q.big=false:=by simpa using hbq
 rw [hbq']
 have nb:¬ (p.big=true∨q.big=true):=fun h=>h.elim hbp hbq
 have pl:=kp.len
 have ql:=kq.len
 repeat' (first | refine Qg ?_ | refine Qb ?_ | refine Qv ?_ | refine Qn ?_ | refine Qf ?_ | ((refine Qh ?_);refine Qk rfl ?_) | ((refine Qe ?_);first | refine QG rfl rfl rfl rfl ?_ | refine QU rfl rfl rfl rfl rfl ?_ | refine QT rfl rfl rfl rfl rfl rfl ?_ | refine Xa rfl rfl rfl rfl rfl rfl rfl rfl ?_) | ((refine Qc ?_);first | (have z:=e7;refine ZY ?_;intro h8 e8 c8;have u8:Cb h0 h8 h0.length h3.length h4.length h5.length hB.length h7.length sp sq S false []:=⟨xB.trans (e7.trans e8),d3_B.ext (e7.trans e8),d4_B.ext (e7.trans e8),Cel1.ext d5_B (e7.trans e8),c6_B.ext (e7.trans e8),c7.ext e8,c8,((oB.ext e7).ext e8).weaken x6.len,⟨Gf _,c3.lt,c4.lt,Cel1.lt c5,by have:=c6.lt;omega,c7.lt⟩⟩) | (have z:=xB;refine Yd rfl ?_;intro h7 e7 c7) | (have z:=e5;refine Xb ?_;intro h6 e6 c6;have d3:=c3.ext (e4.trans (e5.trans e6));have d4:=c4.ext (e5.trans e6);have d5:=Cel1.ext c5 e6;have x6:=e3.trans (e4.trans (e5.trans e6))) | (have z:=e4;refine yX rfl ?_;intro h5 e5 c5) | (have z:=e3;refine Qx rfl ?_;intro h4 e4 c4) | (refine Qx rfl ?_;intro h3 e3 c3) | refine QQ rfl d3 ?_ | refine QQ rfl d4 ?_ | refine Qz rfl d3 ?_ | refine Qz rfl d4 ?_ | refine Qs rfl lp ?_ | refine Qs rfl lq ?_ | (refine Qdz x6 rfl rfl (by simp only [Yu];omega) ?_;intro S hB oB eB xB lB;have d3_B:=d3.ext eB;have d4_B:=d4.ext eB;have d5_B:=Cel1.ext d5 eB;have c6_B:=c6.ext eB) | (refine XE rfl rfl ?_) | (refine ZW rfl rfl u8.c8 ?_;intro h9 w9 c9;have u9:=u8.st8 (G:=true) w9 c9) | refine QL rfl ?_ | refine Qo rfl ?_ | refine QC rfl rfl ?_ | refine QK rfl rfl (by omega) ?_ | refine Xt rfl rfl ?_))
 have g0:Mg p.ts q.ts 0 0 true []:=⟨rfl,⟨fun h=>⟨rfl,h⟩,fun h=>h.2⟩,Gf _⟩
 refine YU (I51 h0 h0.length h3.length h4.length h5.length hB.length h7.length sp sq p.ts q.ts) (qC p.ts q.ts) (R51 h0 h0.length h3.length h4.length h5.length hB.length h7.length sp sq p.ts q.ts) ⟨0,0,S,true,[],Gs _,Gs _,u9,g0,rfl⟩ (QiV h0 h0.length h3.length h4.length h5.length hB.length h7.length sp sq p.ts q.ts hp hq (fun t ht=>⟨kp.cf t ht,kp.ex t ht⟩) (fun t ht=>⟨kq.cf t ht,kq.ex t ht⟩) pl ql) ?_
 rintro ex E' hC ⟨rfl,s,F,uC,hF,_,_,_,_,_,_,rfl⟩
 have o:=uC.ord
 have c8:=uC.c8.at
 have c6:=uC.c6
 have lq6:h0.length≤h5.length:=by omega
 cases F
 ·have e:Je p q=YP:=by unfold Je;rw [if_neg nb,if_neg (fun h=>by have:=hF.1 h;simp at this)]
  rw [e]
  repeat' (first | refine Qg ?_ | refine Qb ?_ | refine QD ?_ | refine QP ?_ | refine Qt ?_ | refine Qf ?_ | ((refine Qh ?_);refine Qj rfl ?_) | ((refine Qe ?_);first | refine Qq rfl ?_ | refine Qu rfl rfl rfl ?_) | ((refine Qc ?_);first | refine Xu rfl c8 rfl ?_ | (refine XE rfl rfl ?_) | (refine Xm rfl rfl c6 ?_;intro hD wD) | refine Yw rfl ?_))
  exact ⟨.inr rfl,Xg rfl wD.cel.read ⟨wD.ext uC.e lq6,.nilS,rfl,IsD.nil _⟩⟩
 ·have e:Je p q=⟨false,mA p.ts q.ts⟩:=by unfold Je;rw [if_neg nb,if_pos (hF.2 rfl)]
  rw [e]
  repeat' (first | refine Qg ?_ | refine Qb ?_ | refine QP ?_ | refine Qn ?_ | refine Qt ?_ | refine Qf ?_ | ((refine Qh ?_);refine Qk rfl ?_) | ((refine Qe ?_);first | refine Qq rfl ?_ | refine Qu rfl rfl rfl ?_) | ((refine Qc ?_);first | refine Xu rfl c8 rfl ?_ | refine QI rfl uC.c7 ?_ | (refine Xm rfl rfl c6 ?_;intro hD wD) | refine XR rfl ?_))
  exact ⟨.inr rfl,Xg rfl wD.cel.read ⟨wD.ext uC.e lq6,s,rfl,(uC.o.wrC wD).is⟩⟩
theorem QmG (h0:Qa) (sp sq:SV) (p q:Pol) (hp:IsD h0 sp (tms p.ts)) (hq:IsD h0 sq (tms q.ts)) (kp:Pok p) (kq:Pok q) :
  ∃ r h',Cal FT HKt 21 [.agg [.bool p.big,sp],.agg [.bool q.big,sq]] h0 r h'∧Ext h0 h'∧yN h' r (Je p q):=by
 refine Cal.of (F:=a21) rfl rfl rfl ?_
 have k53:=fun H (e:Ext h0 H)=>Qmx H sp sq p q (hp.ext e) (hq.ext e) kp kq
 generalize Je p q=D at *
 repeat' (first | refine Qg ?_ | refine Qb ?_ | refine Qt ?_ | refine Qf ?_ | ((refine Qe ?_);first | refine Qq rfl ?_ | refine Qu rfl rfl rfl ?_) | ((refine Qc ?_);first | (have z:=e2;refine Xb ?_;intro h3 e3 c4;have d2:=c2.ext (e2.trans e3);have d3:=c3.ext e3;have x3:=e1.trans (e2.trans e3)) | (have z:=e1;refine Qx rfl ?_;intro h2 e2 c3) | (refine Qx rfl ?_;intro h1 e1 c2) | refine QI rfl d2 ?_ | refine QI rfl d3 ?_ | (refine Qi rfl (k53 h3 x3) ?_;rintro r h4 ⟨e4,s,rfl,is⟩;have c4_4:=c4.ext e4) | (refine Xm rfl rfl c4_4 ?_;intro h5 w5)))
 exact ⟨.inr rfl,Xg rfl w5.cel.read ⟨w5.ext (x3.trans e4) (Gn e1.len e2.len),s,rfl,is.wrC w5⟩⟩
theorem QdS (h0:Qa) (a:Int):∃ r h',Cal FT HKt 117 [.sc (.int .i64 a)] h0 r h'∧r=.sc (.bool false)∧h'=h0:=by
 refine Cal.of (F:=a117) rfl rfl rfl ?_
 repeat' (first | refine Qg ?_ | refine Qb ?_ | refine Qt ?_ | refine Qf ?_ | ((refine Qe ?_);refine Qq rfl ?_) | ((refine Qc ?_);first | refine Qo rfl ?_ | refine XS rfl rfl (by omega) ?_))
 exact ⟨.inr rfl,rfl,rfl⟩
def JG (a b:Int):Int:=if a < b then -1 else if b < a then 1 else 0
theorem Qml (h0:Qa) (a b:Int):∃ r h',Cal FT HKt 91 [.sc (.int .i64 a),.sc (.int .i64 b)] h0 r h'∧r=.sc (.int .i64 (JG a b))∧h'=h0:=by
 refine Cal.of (F:=a91) rfl rfl rfl ?_
 have k84a:=fun H=>QdS H a
 have k84b:=fun H=>QdS H b
 by_cases h1:a < b
 ·have e:JG a b = -1:=by unfold JG;rw [if_pos h1]
  rw [e]
  repeat' (first | refine Qg ?_ | refine Qb ?_ | refine QD ?_ | refine Qn ?_ | refine Qt ?_ | refine Qf ?_ | ((refine Qh ?_);first | refine Qj rfl ?_ | refine Qk rfl ?_) | ((refine Qe ?_);first | refine Qq rfl ?_ | refine QE rfl rfl ?_ | refine Qu rfl rfl rfl ?_ | refine QG rfl rfl rfl rfl ?_) | ((refine Qc ?_);first | (refine Qi rfl (k84a _) ?_;rintro r _ ⟨rfl,rfl⟩) | (refine Qi rfl (k84b _) ?_;rintro r _ ⟨rfl,rfl⟩) | refine Qo rfl ?_ | refine Qy rfl rfl (by omega) ?_))
  exact ⟨.inr rfl,rfl,rfl⟩
 ·by_cases h2:b < a
  ·have e:JG a b=1:=by unfold JG;rw [if_neg h1,if_pos h2]
   rw [e]
   repeat' (first | refine Qg ?_ | refine Qb ?_ | refine QD ?_ | refine Qn ?_ | refine Qt ?_ | refine Qf ?_ | ((refine Qh ?_);first | refine Qj rfl ?_ | refine Qk rfl ?_) | ((refine Qe ?_);first | refine Qq rfl ?_ | refine QE rfl rfl ?_ | refine Qu rfl rfl rfl ?_ | refine QG rfl rfl rfl rfl ?_) | ((refine Qc ?_);first | (refine Qi rfl (k84a _) ?_;rintro r _ ⟨rfl,rfl⟩) | (refine Qi rfl (k84b _) ?_;rintro r _ ⟨rfl,rfl⟩) | refine Qo rfl ?_ | refine QM rfl rfl (by omega) ?_ | refine XV rfl rfl (by omega) ?_))
   exact ⟨.inr rfl,rfl,rfl⟩
  ·have e:JG a b=0:=by unfold JG;rw [if_neg h1,if_neg h2]
   rw [e]
   repeat' (first | refine Qg ?_ | refine Qb ?_ | refine Qn ?_ | refine Qt ?_ | refine Qf ?_ | ((refine Qh ?_);refine Qk rfl ?_) | ((refine Qe ?_);first | refine Qq rfl ?_ | refine QE rfl rfl ?_ | refine Qu rfl rfl rfl ?_ | refine QG rfl rfl rfl rfl ?_) | ((refine Qc ?_);first | (refine Qi rfl (k84a _) ?_;rintro r _ ⟨rfl,rfl⟩) | (refine Qi rfl (k84b _) ?_;rintro r _ ⟨rfl,rfl⟩) | refine Qo rfl ?_ | refine QM rfl rfl (by omega) ?_ | refine XT rfl rfl (by omega) ?_))
   exact ⟨.inr rfl,rfl,rfl⟩
theorem Qha (h0:Qa) (a c b:Int):∃ r h',Cal FT HKt 90 ([.agg [.int .i64 a,.int .i64 c],.sc (.int .i64 b)]++([]:List (Nat × Nat)).map fun p=>AV.sc (.ptr p.1 p.2)) h0 r h'∧Ext h0 h'∧r=.sc (.int .i64 (JG a b)):=by
 refine Cal.of (F:=a90) rfl rfl rfl ?_
 have k63:=fun H=>Qml H a b
 repeat' (first | refine Qg ?_ | refine Qb ?_ | refine Qt ?_ | refine Qf ?_ | ((refine Qe ?_);first | refine Qq rfl ?_ | refine QE rfl rfl ?_) | ((refine Qc ?_);first | (refine Qx rfl ?_;intro h1 e1 c1) | refine QQ rfl c1 ?_ | (refine Qi rfl (k63 _) ?_;rintro r _ ⟨rfl,rfl⟩) | refine Qo rfl ?_ | refine Xt rfl rfl ?_))
 exact ⟨.inr rfl,e1,rfl⟩
def I89 (h0:Qa) (s:SV) (ts:List Tm) (tg:Int) (E:Env) (h:Qa):Prop:=Ext h0 h∧∃ i j:Nat,i≤j∧j≤ts.length∧(∀ k,k < i→∀ t,ts[k]?=some t→t.1 < tg)∧(∀ k,j≤k→∀ t,ts[k]?=some t→tg≤t.1) ∧
 E.keep [0,1,2,8,9,10]=[(0,some (.sc s)),(1,some (.sc (.int .i64 tg))),(2,some (.sc (.fn 90 []))),(8,some (.sc (.int .i64 (ts.length:Nat)))),(9,some (.sc (.int .i64 (i:Nat)))),(10,some (.sc (.int .i64 (j:Nat))))]
def R89 (h0:Qa) (s:SV) (ts:List Tm) (tg:Int) (ex:Ex) (E:Env) (h:Qa):Prop:=Ext h0 h∧ex=.ex 0∧∃ i:Nat,i≤ts.length∧(∀ k,k < i→∀ t,ts[k]?=some t→t.1 < tg)∧(∀ k,i≤k→∀ t,ts[k]?=some t→tg≤t.1)∧∃ a b,
 E=[(0,some (.sc s)),(1,some (.sc (.int .i64 tg))),(2,some (.sc (.fn 90 []))),(8,some (.sc (.int .i64 (ts.length:Nat)))),(9,some (.sc (.int .i64 (i:Nat)))),(10,a),(17,b)]
def qS (E:Env) (_:Qa):Nat:=match (E.keep [0,1,2,8,9,10]).get 9,(E.keep [0,1,2,8,9,10]).get 10 with | some (.sc (.int .i64 i)),some (.sc (.int .i64 j))=>(j-i).toNat | _,_=>0
theorem QcI {ts:List Tm} (hc:Can ts) {a b:Nat} {t u:Tm} (ha:ts[a]?=some t) (hb:ts[b]?=some u) (h:a≤b):t.1≤u.1:=by
 by_cases e:a=b
 ·subst e;rw [ha] at hb;cases hb;exact Int.le_refl _
 ·obtain ⟨h1,rfl⟩:=Gb.1 ha
  obtain ⟨h2,rfl⟩:=Gb.1 hb
  have:=(List.pairwise_iff_getElem.1 hc.asc) a b h1 h2 (by omega)
  omega
theorem QiO (h0:Qa) (s:SV) (ts:List Tm) (tg:Int) (hs:IsD h0 s (tms ts)) (hc:Can ts) (hl:ts.length≤3000000) (E:Env) (h:Qa) (hI:I89 h0 s ts tg E h) :
  wA FT HKt Qks (E.keep [0,1,2,8,9,10]) h (QA (I89 h0 s ts tg) qS (qS E h) (R89 h0 s ts tg)):=by
 obtain ⟨he,i,j,hij,hj,hlo,hhi,hE⟩:=hI
 have hm:qS E h=j-i:=by unfold qS;rw [hE];show ((j:Int)-(i:Int)).toNat=_;omega
 rw [hm,hE]
 by_cases hlt:i < j
 ·obtain ⟨m,hmm⟩:∃ m:Nat,m=(i+j) / 2:=⟨_,rfl⟩
  have e1:((i:Int)+(j:Int)) / ((2 ^ 1:Nat):Int)=(m:Int):=by rw [hmm];simp
  obtain ⟨t,ht⟩:∃ t,ts[m]?=some t:=⟨_,Ga (by omega)⟩
  obtain ⟨id,off,cap,e2,r0⟩:=hs.at (i:=m) (p:=tmP t) (by simp [ht])
  rw [Q6] at e2
  subst e2
  have r1:=QH he r0
  have k62:=Qha h t.1 t.2 tg
  by_cases hv:t.1 < tg
  ·have e:JG t.1 tg = -1:=by unfold JG;rw [if_pos hv]
   rw [e] at k62
   repeat' (first | refine Qg ?_ | refine Qb ?_ | refine Qv ?_ | refine QJ ?_ | refine Qn ?_ | refine Qf ?_ | ((refine Qh ?_);refine Qj rfl ?_) | ((refine Qe ?_);first | refine QT rfl rfl rfl rfl rfl rfl ?_ | refine Xn rfl rfl rfl rfl rfl rfl rfl ?_ | refine Xa rfl rfl rfl rfl rfl rfl rfl rfl ?_) | ((refine Qc ?_);first | (refine UI rfl (by omega) ?_) | (refine XN (q:=1) rfl rfl rfl (by omega) ?_;rw [e1]) | refine Qw (esz:=2) rfl rfl (by omega) ?_ | refine XX rfl r1 ?_ | (refine Xq rfl rfl k62 ?_;rintro r h2 ⟨e2,rfl⟩) | refine Qo rfl ?_ | refine QK rfl rfl (by omega) ?_ | refine Yx rfl (by omega) ?_ | refine Qy rfl rfl (by omega) ?_))
   refine Xo ⟨he.trans e2,m+1,j,by omega,hj,fun k hk u hu=>?_,hhi,rfl⟩ (by unfold qS;show ((j:Int)-((m:Nat)+1)).toNat < j-i;omega)
   have:=QcI hc hu ht (by omega)
   omega
  ·have e:¬ JG t.1 tg < 0:=by unfold JG;rw [if_neg hv];split <;> omega
   generalize JG t.1 tg=C at *
   repeat' (first | refine Qg ?_ | refine Qb ?_ | refine Qv ?_ | refine QJ ?_ | refine Qn ?_ | refine Qf ?_ | ((refine Qh ?_);first | refine Qj rfl ?_ | refine Qk rfl ?_) | ((refine Qe ?_);first | refine QT rfl rfl rfl rfl rfl rfl ?_ | refine Xn rfl rfl rfl rfl rfl rfl rfl ?_ | refine Xa rfl rfl rfl rfl rfl rfl rfl rfl ?_) | ((refine Qc ?_);first | (refine UI rfl (by omega) ?_) | (refine XN (q:=1) rfl rfl rfl (by omega) ?_;rw [e1]) | refine Qw (esz:=2) rfl rfl (by omega) ?_ | refine XX rfl r1 ?_ | (refine Xq rfl rfl k62 ?_;rintro r h2 ⟨e2,rfl⟩) | refine Qo rfl ?_ | refine QK rfl rfl (by omega) ?_ | refine Yx rfl (by omega) ?_ | refine Qy rfl rfl (by omega) ?_ | refine QM rfl rfl (by omega) ?_))
   refine Xo ⟨he.trans e2,i,m,by omega,by omega,hlo,fun k hk u hu=>?_,rfl⟩ (by unfold qS;show ((m:Int)-(i:Int)).toNat < j-i;omega)
   have:=QcI hc ht hu hk
   omega
 ·have:j=i:=by omega
  subst this
  repeat' (first | refine Qg ?_ | refine Qb ?_ | refine Q0 ?_ | refine QX ?_ | refine Qf ?_ | ((refine Qh ?_);refine Qk rfl ?_) | ((refine Qe ?_);refine Xn rfl rfl rfl rfl rfl rfl rfl ?_) | ((refine Qc ?_);first | refine Qo rfl ?_ | refine QM rfl rfl (by omega) ?_))
  exact XM ⟨he,rfl,j,hj,hlo,hhi,_,_,rfl⟩
theorem Qmm (h0:Qa) (s:SV) (ts:List Tm) (tg:Int) (hs:IsD h0 s (tms ts)) (hc:Can ts) (hl:ts.length≤3000000) :
  ∃ r h',Cal FT HKt 89 [.sc s,.sc (.int .i64 tg),.sc (.fn 90 [])] h0 r h'∧Ext h0 h'∧∃ (i:Nat) (b:Bool),r=.tup [.sc (.int .i64 (i:Nat)),.sc (.bool b)]∧((b=true∧∃ t,ts[i]?=some t∧t.1=tg)∨(b=false∧cf ts tg=0)):=by
 refine Cal.of (F:=a89) rfl rfl rfl ?_
 have ls:=hs.len
 rw [Q6] at ls
 repeat' (first | refine Qg ?_ | refine Qb ?_ | refine Qv ?_ | refine Qf ?_ | ((refine Qe ?_);first | refine Qu rfl rfl rfl ?_ | refine QG rfl rfl rfl rfl ?_ | refine QT rfl rfl rfl rfl rfl rfl ?_) | ((refine Qc ?_);first | refine Qs rfl ls ?_ | refine Qo rfl ?_))
 refine YU (I89 h0 s ts tg) qS (R89 h0 s ts tg) ⟨Ext.refl _,0,ts.length,Gs _,Gf _,fun k hk=>absurd hk (Nat.not_lt_zero _),fun k hk t ht=>by have:=(Gb.1 ht).1;omega,rfl⟩ (QiO h0 s ts tg hs hc hl) ?_
 rintro ex E' h1 ⟨e1,rfl,i,hi,hlo,hhi,_,_,rfl⟩
 by_cases hlt:i < ts.length
 ·obtain ⟨t,ht⟩:∃ t,ts[i]?=some t:=⟨_,Ga hlt⟩
  have hge:=hhi i (Gf _) t ht
  obtain ⟨id,off,cap,e2,r0⟩:=hs.at (i:=i) (p:=tmP t) (by simp [ht])
  rw [Q6] at e2
  subst e2
  have r1:=QH e1 r0
  have k62:=Qha h1 t.1 t.2 tg
  by_cases hv:t.1=tg
  ·have e:JG t.1 tg=0:=by unfold JG;rw [if_neg (by omega),if_neg (by omega)]
   rw [e] at k62
   repeat' (first | refine Qg ?_ | refine Qb ?_ | refine QP ?_ | refine Qt ?_ | refine Qf ?_ | ((refine Qe ?_);refine QE rfl rfl ?_) | ((refine Qc ?_);first | refine Qw (esz:=2) rfl rfl (by omega) ?_ | refine XX rfl r1 ?_ | (refine Xq rfl rfl k62 ?_;rintro r h2 ⟨e2,rfl⟩) | refine QL rfl ?_ | refine Qo rfl ?_ | refine QS rfl rfl ?_ | refine Qy rfl rfl (by omega) ?_ | refine XD rfl rfl (by omega) ?_))
   exact ⟨.inr rfl,e1.trans e2,i,true,rfl,.inl ⟨rfl,t,ht,hv⟩⟩
  ·have e:JG t.1 tg≠0:=by unfold JG;rw [if_neg (by omega),if_pos (by omega)];omega
   generalize JG t.1 tg=C at *
   repeat' (first | refine Qg ?_ | refine Qb ?_ | refine QP ?_ | refine Qt ?_ | refine Qf ?_ | ((refine Qe ?_);refine QE rfl rfl ?_) | ((refine Qc ?_);first | refine Qw (esz:=2) rfl rfl (by omega) ?_ | refine XX rfl r1 ?_ | (refine Xq rfl rfl k62 ?_;rintro r h2 ⟨e2,rfl⟩) | refine QL rfl ?_ | refine Qo rfl ?_ | refine QS rfl rfl ?_ | refine Qy rfl rfl (by omega) ?_ | refine Xf rfl rfl (by omega) ?_))
   refine ⟨.inr rfl,e1.trans e2,i,false,rfl,.inr ⟨rfl,yF fun u hu he=>?_⟩⟩
   obtain ⟨k,hk⟩:=List.getElem?_of_mem hu
   by_cases hki:k < i
   ·have:=hlo k hki u hk;omega
   ·have:=QcI hc ht hk (by omega);omega
 ·repeat' (first | refine Qg ?_ | refine Qb ?_ | refine QP ?_ | refine Qt ?_ | refine Qf ?_ | ((refine Qe ?_);refine QE rfl rfl ?_) | ((refine Qc ?_);first | refine Xd rfl ?_ | refine Qo rfl ?_ | refine QC rfl rfl ?_ | refine QM rfl rfl (by omega) ?_))
  refine ⟨.inr rfl,e1,i,false,rfl,.inr ⟨rfl,yF fun u hu he=>?_⟩⟩
  obtain ⟨k,hk⟩:=List.getElem?_of_mem hu
  have hk2:=(Gb.1 hk).1
  have:=hlo k (by omega) u hk;omega
theorem Qmr (h0:Qa) (b:Bool) (s:SV) (ts:List Tm) (tg:Int) (hs:IsD h0 s (tms ts)) (hc:Can ts) (hl:ts.length≤3000000) :
  ∃ r h',Cal FT HKt 62 [.agg [.bool b,s],.sc (.int .i64 tg)] h0 r h'∧Ext h0 h'∧r=.sc (.int .i64 (cf ts tg)):=by
 refine Cal.of (F:=a62) rfl rfl rfl ?_
 have k61:=fun H (e:Ext h0 H)=>Qmm H s ts tg (hs.ext e) hc hl
 repeat' (first | refine Qg ?_ | refine Qb ?_ | refine Qf ?_ | ((refine Qe ?_);first | refine QE rfl rfl ?_ | refine Qu rfl rfl rfl ?_) | ((refine Qc ?_);first | (refine Qx rfl ?_;intro h1 e1 c1) | refine Xi rfl ?_ | refine Qz rfl c1 ?_ | (refine Qi rfl (k61 h1 e1) ?_;rintro r h2 ⟨e2,i,bb,rfl,hor⟩;have c2:=c1.ext e2) | refine Qo rfl ?_ | refine Xt rfl rfl ?_))
 rcases hor with ⟨rfl,t,ht,he⟩ | ⟨rfl,h0⟩
 ·obtain ⟨id,off,cap,e3,r0⟩:=hs.at (i:=i) (p:=tmP t) (by simp [ht])
  rw [Q6] at e3
  subst e3
  have hlt:=(Gb.1 ht).1
  have r2:=QH (e1.trans e2) (rd1 r0).2
  have e:cf ts tg=t.2:=by rw [← he];exact Z2 hc (Gh ht)
  rw [e]
  repeat' (first | refine Qg ?_ | refine Qb ?_ | refine Qn ?_ | refine Qt ?_ | refine Qf ?_ | ((refine Qh ?_);refine Qk rfl ?_) | ((refine Qe ?_);refine Qq rfl ?_) | ((refine Qc ?_);first | refine Xi rfl ?_ | refine Qz rfl c2 ?_ | refine Qw (esz:=2) rfl rfl (by omega) ?_ | refine Q4 rfl r2 ?_ | refine Qo rfl ?_))
  exact ⟨.inr rfl,e1.trans e2,rfl⟩
 ·rw [h0]
  repeat' (first | refine Qg ?_ | refine Qb ?_ | refine QD ?_ | refine Qt ?_ | refine Qf ?_ | ((refine Qh ?_);refine Qj rfl ?_) | ((refine Qe ?_);refine Qq rfl ?_) | ((refine Qc ?_);refine Qo rfl ?_))
  exact ⟨.inr rfl,e1.trans e2,rfl⟩
