/- Mul: contract. -/
import Derived.Test.YtofknpknogfijaaGreatDoorPY
namespace Go.Proofs.YtofknpknogfijaaGreatDoor
open Go.Ab
set_option linter.unusedVariables false
set_option linter.unusedSimpArgs false
set_option maxRecDepth 20000
set_option maxHeartbeats 4000000
attribute [local irreducible] Qi wA Xk Xj Qz Qo QS QV
set_option linter.unusedSectionVars false
variable [HB]
def Qkm (h0 h:Qa) (v:AV) (p:Pol):Prop:=∃ s,v=.agg [.bool p.big,s]∧OwnD h0 h s (tms p.ts)
theorem QgW (h0:Qa) (sp sq:SV) (p q:Pol) (hp:IsD h0 sp (tms p.ts)) (hq:IsD h0 sq (tms q.ts)) (kp:Pok p) (kq:Pok q) (hd:p.ts≠[]→q.ts≠[]→hi0 p.ts+hi0 q.ts-(lo0 p.ts+lo0 q.ts)≤64+4*(p.ts.length:Int)*q.ts.length) :
    ∃ r h',Cal FT HKt 22 [.agg [.bool p.big,sp],.agg [.bool q.big,sq]] h0 r h'∧Ext h0 h'∧Qkm h0 h' r (JE p q):=by
  refine Cal.of (F:=a22) rfl rfl rfl ?_
  have lp:=hp.len
  have lq:=hq.len
  rw [XD] at lp lq
  by_cases hbp:p.big=true
  · have e:JE p q=Jw:=by unfold JE;rw [if_pos (.inl hbp)]
    rw [e,hbp]
    repeat' (first | refine Qh ?_ | refine Qb ?_ | refine QF ?_ | refine Qs ?_ | refine Qf ?_ | ((refine Qg ?_);refine Qk rfl ?_) | ((refine Qe ?_);first | refine Qr rfl ?_ | refine Qy rfl rfl rfl ?_ | refine QQ rfl rfl rfl rfl ?_) | ((refine Qc ?_);first | (have z:=e2;refine Xm ?_;intro h3 e3 c3;have d1:=(c1.ext e2).ext e3;have d2:=c2.ext e3) | (have z:=e1;refine QR rfl ?_;intro h2 e2 c2) | (refine QR rfl ?_;intro h1 e1 c1) | refine Q4 rfl d1 ?_ | (refine Y0 rfl rfl ?_) | (refine Xu rfl rfl c3 ?_;intro h4 w4) | refine Xn rfl ?_ | refine Qp rfl ?_ | refine Q1 rfl rfl ?_ | refine XF rfl rfl ?_))
    exact ⟨.inr rfl,X1 rfl w4.cel.read ⟨w4.ext (e1.trans (e2.trans e3)) (Nat.le_trans e1.len e2.len),.nilS,rfl,.inl ⟨rfl,rfl⟩⟩⟩
  have hbp':p.big=false:=by simpa using hbp
  rw [hbp']
  by_cases hbq:q.big=true
  · have e:JE p q=Jw:=by unfold JE;rw [if_pos (.inr hbq)]
    rw [e,hbq]
    repeat' (first | refine Qh ?_ | refine Qb ?_ | refine QF ?_ | refine Qs ?_ | refine Qf ?_ | ((refine Qg ?_);refine Qk rfl ?_) | ((refine Qe ?_);first | refine Qr rfl ?_ | refine Qy rfl rfl rfl ?_ | refine QQ rfl rfl rfl rfl ?_) | ((refine Qc ?_);first | (have z:=e2;refine Xm ?_;intro h3 e3 c3;have d1:=(c1.ext e2).ext e3;have d2:=c2.ext e3) | (have z:=e1;refine QR rfl ?_;intro h2 e2 c2) | (refine QR rfl ?_;intro h1 e1 c1) | refine Q4 rfl d1 ?_ | refine Q4 rfl d2 ?_ | (refine Y0 rfl rfl ?_) | (refine Xu rfl rfl c3 ?_;intro h4 w4) | refine QY rfl ?_ | refine Qp rfl ?_ | refine QT rfl rfl ?_ | refine XF rfl rfl ?_))
    exact ⟨.inr rfl,X1 rfl w4.cel.read ⟨w4.ext (e1.trans (e2.trans e3)) (Nat.le_trans e1.len e2.len),.nilS,rfl,.inl ⟨rfl,rfl⟩⟩⟩
  have hbq':q.big=false:=by simpa using hbq
  rw [hbq']
  have nb:¬ (p.big=true∨q.big=true):=fun h=>h.elim hbp hbq
  by_cases hpe:p.ts=[]
  · have e:JE p q=Qbl:=by unfold JE;rw [if_neg nb,if_pos (.inl hpe)]
    have lp0:Yq false sp=some 0:=by rw [lp,hpe];rfl
    rw [e]
    repeat' (first | refine Qh ?_ | refine Qb ?_ | refine QF ?_ | refine Qn ?_ | refine Qs ?_ | refine Qf ?_ | ((refine Qg ?_);first | refine Qk rfl ?_ | refine Qj rfl ?_) | ((refine Qe ?_);first | refine Qr rfl ?_ | refine Qy rfl rfl rfl ?_ | refine QQ rfl rfl rfl rfl ?_) | ((refine Qc ?_);first | (have z:=e2;refine Xm ?_;intro h3 e3 c3;have d1:=(c1.ext e2).ext e3;have d2:=c2.ext e3) | (have z:=e1;refine QR rfl ?_;intro h2 e2 c2) | (refine QR rfl ?_;intro h1 e1 c1) | refine Q4 rfl d1 ?_ | refine Q4 rfl d2 ?_ | refine Q0 rfl d1 ?_ | refine QA rfl lp0 ?_ | (refine Y0 rfl rfl ?_) | (refine Xu rfl rfl c3 ?_;intro h4 w4) | refine Xn rfl ?_ | refine QY rfl ?_ | refine Qp rfl ?_ | refine Q1 rfl rfl ?_ | refine QT rfl rfl ?_ | refine Xw rfl rfl (by omega) ?_ | refine XF rfl rfl ?_))
    exact ⟨.inr rfl,X1 rfl w4.cel.read ⟨w4.ext (e1.trans (e2.trans e3)) (Nat.le_trans e1.len e2.len),.nilS,rfl,.inl ⟨rfl,rfl⟩⟩⟩
  have lpp:0 < p.ts.length:=List.length_pos_iff.2 hpe
  by_cases hqe:q.ts=[]
  · have e:JE p q=Qbl:=by unfold JE;rw [if_neg nb,if_pos (.inr hqe)]
    have lq0:Yq false sq=some 0:=by rw [lq,hqe];rfl
    rw [e]
    repeat' (first | refine Qh ?_ | refine Qb ?_ | refine QF ?_ | refine Qn ?_ | refine Qs ?_ | refine Qf ?_ | ((refine Qg ?_);first | refine Qk rfl ?_ | refine Qj rfl ?_) | ((refine Qe ?_);first | refine Qr rfl ?_ | refine Qy rfl rfl rfl ?_ | refine QQ rfl rfl rfl rfl ?_) | ((refine Qc ?_);first | (have z:=e2;refine Xm ?_;intro h3 e3 c3;have d1:=(c1.ext e2).ext e3;have d2:=c2.ext e3) | (have z:=e1;refine QR rfl ?_;intro h2 e2 c2) | (refine QR rfl ?_;intro h1 e1 c1) | refine Q4 rfl d1 ?_ | refine Q4 rfl d2 ?_ | refine Q0 rfl d1 ?_ | refine Q0 rfl d2 ?_ | refine QA rfl lp ?_ | refine QA rfl lq0 ?_ | (refine Y0 rfl rfl ?_) | (refine Xu rfl rfl c3 ?_;intro h4 w4) | refine QY rfl ?_ | refine Qp rfl ?_ | refine QT rfl rfl ?_ | refine Xw rfl rfl (by omega) ?_ | refine Xa rfl rfl (by omega) ?_ | refine XF rfl rfl ?_))
    exact ⟨.inr rfl,X1 rfl w4.cel.read ⟨w4.ext (e1.trans (e2.trans e3)) (Nat.le_trans e1.len e2.len),.nilS,rfl,.inl ⟨rfl,rfl⟩⟩⟩
  have lqp:0 < q.ts.length:=List.length_pos_iff.2 hqe
  have ne2:¬ (p.ts=[]∨q.ts=[]):=fun h=>h.elim hpe hqe
  have hd:=hd hpe hqe
  have kl:=kp.lo
  have kl2:=kq.lo
  have plen:=kp.len
  have qlen:=kq.len
  have k27p:=fun H (e:Ext h0 H)=>Vp H false sp p.ts (hp.ext e)
  have k27q:=fun H (e:Ext h0 H)=>Vp H false sq q.ts (hq.ext e)
  have k28p:=fun H (e:Ext h0 H)=>Vo H false sp p.ts (hp.ext e) plen
  have k28q:=fun H (e:Ext h0 H)=>Vo H false sq q.ts (hq.ext e) qlen
  have hmul:4*(p.ts.length:Int)*(q.ts.length:Int)≤8388612*2097153:=by
    have h1:4*(p.ts.length:Int)*(q.ts.length:Int)≤8388612*(q.ts.length:Int):=Int.mul_le_mul_of_nonneg_right (by omega) (by omega)
    omega
  have hmul0:0≤4*(p.ts.length:Int)*(q.ts.length:Int):=Int.mul_nonneg (by omega) (by omega)
  have hrng:=QbQ kp.can kq.can
  have hmlo:qO p.ts q.ts=lo0 p.ts+lo0 q.ts:=rfl
  have hmn:((Z4 p.ts q.ts:Nat):Int)=hi0 p.ts+hi0 q.ts-(lo0 p.ts+lo0 q.ts)+1:=by unfold Z4;omega
  generalize hLo:lo0 p.ts+lo0 q.ts=lo at *
  generalize hHi:hi0 p.ts+hi0 q.ts=hi at *
  by_cases hout:lo < -1048576∨1048576 < hi
  · have e:JE p q=Jw:=by unfold JE;rw [if_neg nb,if_neg ne2,hmlo,hHi,if_pos hout]
    rw [e]
    by_cases ho1:lo < -1048576
    · repeat' (first | refine Qh ?_ | refine Qb ?_ | refine QF ?_ | refine Qn ?_ | refine Qs ?_ | refine Qf ?_ | refine Q9 ?_ | refine Xs ?_ | refine Xt ?_ | ((refine Qg ?_);first | refine Qk rfl ?_ | refine Qj rfl ?_) | ((refine Qe ?_);first | refine Xb ?_ | refine XP ?_ | refine Xi (by assumption) ?_ | refine Qr rfl ?_ | refine Qy rfl rfl rfl ?_ | refine QQ rfl rfl rfl rfl ?_ | refine QU rfl rfl rfl rfl rfl ?_ | refine QM rfl rfl rfl rfl rfl rfl ?_) | ((refine Qc ?_);first | (have z:=e2;refine Xm ?_;intro h3 e3 c3;have x3:=e1.trans (e2.trans e3);have n1:=e1.len;have n2:=e2.len;have n3:=c3.lt;have d1:=(c1.ext e2).ext e3;have d2:=c2.ext e3;have m1:=c1.lt;have m2:=c2.lt) | (have z:=e1;refine QR rfl ?_;intro h2 e2 c2) | (refine QR rfl ?_;intro h1 e1 c1) | refine Q4 rfl d1 ?_ | refine Q4 rfl d2 ?_ | refine Q0 rfl d1 ?_ | refine Q0 rfl d2 ?_ | refine QA rfl lp ?_ | refine QA rfl lq ?_ | refine QN rfl d1 ?_ | refine QN rfl d2_4 ?_ | refine QN rfl d1_5 ?_ | refine QN rfl d2_6 ?_ | (refine Qm rfl (k27p h3 x3) ?_;rintro r h4 ⟨e4,rfl⟩;have d1_4:=d1.ext e4;have d2_4:=d2.ext e4;have c3_4:=c3.ext e4) | (refine Qm rfl (k27q h4 (x3.trans e4)) ?_;rintro r h5 ⟨e5,rfl⟩;have d1_5:=d1_4.ext e5;have d2_5:=d2_4.ext e5;have c3_5:=c3_4.ext e5) | (refine Qm rfl (k28p h5 (x3.trans (e4.trans e5))) ?_;rintro r h6 ⟨e6,rfl⟩;have d1_6:=d1_5.ext e6;have d2_6:=d2_5.ext e6;have c3_6:=c3_5.ext e6) | (refine Qm rfl (k28q h6 (x3.trans (e4.trans (e5.trans e6)))) ?_;rintro r h7 ⟨e7,rfl⟩;have d1_7:=d1_6.ext e7;have d2_7:=d2_6.ext e7;have c3_7:=c3_6.ext e7) | (have z:=e7;refine QK rfl rfl (by omega) ?_;rw [hHi]) | (have z:=e5;refine QK rfl rfl (by omega) ?_;rw [hLo]) | (have z:=e7;refine zS ?_;intro h8 e8 n8;have m7:=(e4.trans (e5.trans (e6.trans e7))).len;have d1_8:=d1_7.ext e8;have d2_8:=d2_7.ext e8;have c3_8:=c3_7.ext e8) | (refine Qaa rfl rfl n8 ?_;intro h9 w9 c9;have c3_9:Cel h9 h2.length (.bool false) .nilS:=(by unfold Cel;rw [w9,List.getElem?_set_ne (by omega)];exact c3_8)) | refine YL rfl (Cel1.at c9) rfl ?_ | (refine Y0 rfl rfl ?_) | (refine Xu rfl rfl c3_9 ?_;intro hA wA) | refine Xn rfl ?_ | refine QY rfl ?_ | refine Qp rfl ?_ | refine Q1 rfl rfl ?_ | refine QT rfl rfl ?_ | refine Qx rfl rfl (by omega) ?_ | refine Xa rfl rfl (by omega) ?_ | refine XF rfl rfl ?_))
      exact ⟨.inr rfl,X1 rfl wA.cel.read ⟨wA.ext (by rw [w9];exact (x3.trans (e4.trans (e5.trans (e6.trans (e7.trans e8))))).set (by omega) _) (Nat.le_trans e1.len e2.len),.nilS,rfl,.inl ⟨rfl,rfl⟩⟩⟩
    · have ho2:1048576 < hi:=by omega
      repeat' (first | refine Qh ?_ | refine Qb ?_ | refine QF ?_ | refine Qn ?_ | refine Qs ?_ | refine Qf ?_ | refine Q9 ?_ | refine Xs ?_ | refine Xt ?_ | ((refine Qg ?_);first | refine Qk rfl ?_ | refine Qj rfl ?_) | ((refine Qe ?_);first | refine Xb ?_ | refine XP ?_ | refine Xi (by assumption) ?_ | refine Qr rfl ?_ | refine Qy rfl rfl rfl ?_ | refine QQ rfl rfl rfl rfl ?_ | refine QU rfl rfl rfl rfl rfl ?_ | refine QM rfl rfl rfl rfl rfl rfl ?_) | ((refine Qc ?_);first | (have z:=e2;refine Xm ?_;intro h3 e3 c3;have x3:=e1.trans (e2.trans e3);have n1:=e1.len;have n2:=e2.len;have n3:=c3.lt;have d1:=(c1.ext e2).ext e3;have d2:=c2.ext e3;have m1:=c1.lt;have m2:=c2.lt) | (have z:=e1;refine QR rfl ?_;intro h2 e2 c2) | (refine QR rfl ?_;intro h1 e1 c1) | refine Q4 rfl d1 ?_ | refine Q4 rfl d2 ?_ | refine Q0 rfl d1 ?_ | refine Q0 rfl d2 ?_ | refine QA rfl lp ?_ | refine QA rfl lq ?_ | refine QN rfl d1 ?_ | refine QN rfl d2_4 ?_ | refine QN rfl d1_5 ?_ | refine QN rfl d2_6 ?_ | (refine Qm rfl (k27p h3 x3) ?_;rintro r h4 ⟨e4,rfl⟩;have d1_4:=d1.ext e4;have d2_4:=d2.ext e4;have c3_4:=c3.ext e4) | (refine Qm rfl (k27q h4 (x3.trans e4)) ?_;rintro r h5 ⟨e5,rfl⟩;have d1_5:=d1_4.ext e5;have d2_5:=d2_4.ext e5;have c3_5:=c3_4.ext e5) | (refine Qm rfl (k28p h5 (x3.trans (e4.trans e5))) ?_;rintro r h6 ⟨e6,rfl⟩;have d1_6:=d1_5.ext e6;have d2_6:=d2_5.ext e6;have c3_6:=c3_5.ext e6) | (refine Qm rfl (k28q h6 (x3.trans (e4.trans (e5.trans e6)))) ?_;rintro r h7 ⟨e7,rfl⟩;have d1_7:=d1_6.ext e7;have d2_7:=d2_6.ext e7;have c3_7:=c3_6.ext e7) | (have z:=e7;refine QK rfl rfl (by omega) ?_;rw [hHi]) | (have z:=e5;refine QK rfl rfl (by omega) ?_;rw [hLo]) | (have z:=e7;refine zS ?_;intro h8 e8 n8;have m7:=(e4.trans (e5.trans (e6.trans e7))).len;have d1_8:=d1_7.ext e8;have d2_8:=d2_7.ext e8;have c3_8:=c3_7.ext e8) | (refine Qaa rfl rfl n8 ?_;intro h9 w9 c9;have c3_9:Cel h9 h2.length (.bool false) .nilS:=(by unfold Cel;rw [w9,List.getElem?_set_ne (by omega)];exact c3_8)) | refine YL rfl (Cel1.at c9) rfl ?_ | (refine Y0 rfl rfl ?_) | (refine Xu rfl rfl c3_9 ?_;intro hA wA) | refine QY rfl ?_ | refine Qp rfl ?_ | refine QT rfl rfl ?_ | refine QH rfl rfl (by omega) ?_ | refine XA rfl rfl (by omega) ?_ | refine Xa rfl rfl (by omega) ?_ | refine XF rfl rfl ?_))
      exact ⟨.inr rfl,X1 rfl wA.cel.read ⟨wA.ext (by rw [w9];exact (x3.trans (e4.trans (e5.trans (e6.trans (e7.trans e8))))).set (by omega) _) (Nat.le_trans e1.len e2.len),.nilS,rfl,.inl ⟨rfl,rfl⟩⟩⟩
  repeat' (first | refine Qh ?_ | refine Qb ?_ | refine Qn ?_ | refine Qf ?_ | refine Q9 ?_ | refine Xs ?_ | refine Xt ?_ | ((refine Qg ?_);refine Qj rfl ?_) | ((refine Qe ?_);first | refine Xb ?_ | refine XP ?_ | refine Xi (by assumption) ?_ | refine Qy rfl rfl rfl ?_ | refine QQ rfl rfl rfl rfl ?_ | refine QU rfl rfl rfl rfl rfl ?_ | refine QM rfl rfl rfl rfl rfl rfl ?_) | ((refine Qc ?_);first | (have z:=eB;refine zS ?_;intro hC eC cC;have oC:=oB.ext eC;have c9C:=Cel1.ext c9B eC;have d1_C:=d1_B.ext eC;have d2_C:=d2_B.ext eC;have c3_C:=c3_B.ext eC) | (have z:=e2;refine Xm ?_;intro h3 e3 c3;have x3:=e1.trans (e2.trans e3);have n1:=e1.len;have n2:=e2.len;have n3:=c3.lt;have d1:=(c1.ext e2).ext e3;have d2:=c2.ext e3;have m1:=c1.lt;have m2:=c2.lt) | (have z:=e1;refine QR rfl ?_;intro h2 e2 c2) | (refine QR rfl ?_;intro h1 e1 c1) | refine Q4 rfl d1 ?_ | refine Q4 rfl d2 ?_ | refine Q0 rfl d1 ?_ | refine Q0 rfl d2 ?_ | refine QA rfl lp ?_ | refine QA rfl lq ?_ | refine QN rfl d1 ?_ | refine QN rfl d2_4 ?_ | refine QN rfl d1_5 ?_ | refine QN rfl d2_6 ?_ | (refine Qm rfl (k27p h3 x3) ?_;rintro r h4 ⟨e4,rfl⟩;have d1_4:=d1.ext e4;have d2_4:=d2.ext e4;have c3_4:=c3.ext e4) | (refine Qm rfl (k27q h4 (x3.trans e4)) ?_;rintro r h5 ⟨e5,rfl⟩;have d1_5:=d1_4.ext e5;have d2_5:=d2_4.ext e5;have c3_5:=c3_4.ext e5) | (refine Qm rfl (k28p h5 (x3.trans (e4.trans e5))) ?_;rintro r h6 ⟨e6,rfl⟩;have d1_6:=d1_5.ext e6;have d2_6:=d2_5.ext e6;have c3_6:=c3_5.ext e6) | (refine Qm rfl (k28q h6 (x3.trans (e4.trans (e5.trans e6)))) ?_;rintro r h7 ⟨e7,rfl⟩;have d1_7:=d1_6.ext e7;have d2_7:=d2_6.ext e7;have c3_7:=c3_6.ext e7) | (have z:=e7;refine QK rfl rfl (by omega) ?_;rw [hHi]) | (have z:=e5;refine QK rfl rfl (by omega) ?_;rw [hLo]) | (have z:=e7;refine zS ?_;intro h8 e8 n8;have m7:=(e4.trans (e5.trans (e6.trans e7))).len;have d1_8:=d1_7.ext e8;have d2_8:=d2_7.ext e8;have c3_8:=c3_7.ext e8) | (refine Qaa rfl rfl n8 ?_;intro h9 w9 c9;have x9:Ext h0 h9:=(by rw [w9];exact (x3.trans (e4.trans (e5.trans (e6.trans (e7.trans e8))))).set (by omega) _);have c3_9:Cel h9 h2.length (.bool false) .nilS:=(by unfold Cel;rw [w9,List.getElem?_set_ne (by omega)];exact c3_8);have d1_9:Cel h9 h0.length (.bool false) sp:=(by unfold Cel;rw [w9,List.getElem?_set_ne (by omega)];exact d1_8);have d2_9:Cel h9 h1.length (.bool false) sq:=(by unfold Cel;rw [w9,List.getElem?_set_ne (by omega)];exact d2_8)) | refine YL rfl (Cel1.at c9) rfl ?_ | refine Q0 rfl d1_9 ?_ | refine Q0 rfl d2_9 ?_ | (refine Qhy x9 rfl rfl (by simp only [YV];omega) ?_;intro S hB oB eB xB lB;have c9B:=Cel1.ext c9 eB;have d1_B:=d1_9.ext eB;have d2_B:=d2_9.ext eB;have c3_B:=c3_9.ext eB) | refine QY rfl ?_ | refine Qp rfl ?_ | refine QT rfl rfl ?_ | refine QK rfl rfl (by omega) ?_ | refine YY rfl rfl (by omega) ?_ | refine YR rfl rfl (by omega) ?_ | refine QH rfl rfl (by omega) ?_ | refine Xq rfl rfl (by omega) ?_ | refine Xa rfl rfl (by omega) ?_ | refine XF rfl rfl ?_))
  refine Qaa rfl rfl cC ?_
  intro hD wD cD
  have lC:hB.length < hC.length:=(List.getElem?_eq_some_iff.1 cC).1
  have l79:h7.length < h9.length:=(List.getElem?_eq_some_iff.1 c9).1
  have l19:=d1_9.lt
  have l29:=d2_9.lt
  have l39:=c3_9.lt
  have nD:XT S hB.length:=oC.cel cC
  have xD:Ext h0 hD:=by rw [wD];exact (xB.trans eC).set xB.len _
  have hrep:List.replicate (hi-lo+1).toNat (SV.int IntKind.u64 0,SV.int IntKind.u64 0)=(List.replicate (Z4 p.ts q.ts) (0:Int)).map wdP:=by
    rw [List.map_replicate,show (hi-lo+1).toNat=Z4 p.ts q.ts from by omega]
    rfl
  rw [hrep] at oC
  have oD:OwnD h0 hD S ((List.replicate (Z4 p.ts q.ts) (0:Int)).map wdP):=by rw [wD];exact (oC.set nD _).weaken x9.len
  have c9D:Cel1 hD h7.length (.int .i64 lo):=by unfold Cel1;rw [wD,List.getElem?_set_ne (by omega)];exact c9C
  have d1_D:Cel hD h0.length (.bool false) sp:=by unfold Cel;rw [wD,List.getElem?_set_ne (by omega)];exact d1_C
  have d2_D:Cel hD h1.length (.bool false) sq:=by unfold Cel;rw [wD,List.getElem?_set_ne (by omega)];exact d2_C
  have c3_D:Cel hD h2.length (.bool false) .nilS:=by unfold Cel;rw [wD,List.getElem?_set_ne (by omega)];exact c3_C
  have xS:Sx h0 hD hD S hB.length h7.length lo (List.replicate (Z4 p.ts q.ts) 0):=⟨xD,oD,cD,c9D,fun _ _ h _=>h⟩
  rw [hmlo] at hrng
  have k43:=QjE h0 hD S hB.length h7.length lo (Z4 p.ts q.ts) (by omega) false false sp sq p.ts q.ts hp hq kp.fit kq.fit hrng (by omega) xS
  have n3:=oD.cel c3_D
  clear wD c9C d1_C d2_C c3_C oC oB
  refine Qdn ?_
  repeat' (first | refine Qh ?_ | refine Qb ?_ | refine Qt ?_ | refine Qf ?_ | ((refine Qe ?_);first | refine Qy rfl rfl rfl ?_ | refine QQ rfl rfl rfl rfl ?_ | refine QM rfl rfl rfl rfl rfl rfl ?_) | ((refine Qc ?_);first | refine QN rfl d1_D ?_ | refine QN rfl d2_D ?_ | (refine Qm rfl k43 ?_;rintro r hE xE;have c3_E:=xE.k _ _ c3_D n3) | (have z:=xE;refine Xm ?_;intro hF eF c8;have xF:=xE.ext eF;have c3_F:=Cel.ext c3_E eF;have lS:Yq false S=some ((Z4 p.ts q.ts:Nat):Int):=(by have:=xF.o.len;rwa [List.length_map,qB] at this)) | refine YL rfl (Cel1.at xF.b7) rfl ?_ | refine QA rfl lS ?_ | refine Qp rfl ?_ | refine XF rfl rfl ?_))
  have hst:St22 h0 hF h2.length h7.length hE.length lo false S .nilS (smL (fun e=>mc p.ts q.ts e) lo (Z4 p.ts q.ts)) (Zp (fun e=>mc p.ts q.ts e) lo 0):=⟨xF.e,c3_F,xF.b5,c8,.inl ⟨rfl,rfl⟩,xF.o.is,fun j=>.inl (fun o n c e=>by cases e)⟩
  have nE:=c3_E
  have lE:h2.length < hE.length:=(List.getElem?_eq_some_iff.1 c3_E).1
  have l02:h0.length≤h2.length:=Nat.le_trans e1.len e2.len
  have hmul:JE p q=if ∀ t∈QaU p.ts q.ts lo (Z4 p.ts q.ts),t.2.natAbs≤cM then ⟨false,QaU p.ts q.ts lo (Z4 p.ts q.ts)⟩ else Jw:=by unfold JE;rw [if_neg nb,if_neg ne2,hmlo,hHi,if_neg hout]
  refine Z9 (I22 h0 h2.length h7.length hE.length lo S (fun e=>mc p.ts q.ts e) (Z4 p.ts q.ts)) (cK [4,5,8,73,74,75] (Z4 p.ts q.ts) 75) (R22 h0 h2.length h7.length hE.length lo S (fun e=>mc p.ts q.ts e) (Z4 p.ts q.ts)) ⟨0,.nilS,Nat.zero_le _,fun k hk=>absurd hk (by omega),hst,rfl⟩ (Qgk h0 h2.length h7.length hE.length lo S (fun e=>mc p.ts q.ts e) (Z4 p.ts q.ts) (by omega) (by omega) (Qd6 kp kq) l02 (by have:=xF.e.len;have:=xS.e.len;have:=xE.e.len;omega) (by omega)) ?_
  rintro ex E' h3 (⟨rfl,s,_,_,_,_,hsm,st,rfl⟩ | ⟨rfl,hns,e3,c4,rfl⟩)
  · have c4:=st.c4
    repeat' (first | refine Qh ?_ | refine Qb ?_ | refine QE ?_ | refine Qs ?_ | refine Qf ?_ | ((refine Qe ?_);refine Qr rfl ?_) | ((refine Qc ?_);first | refine QN rfl st.c8 ?_ | (refine Xu rfl rfl c4 ?_;intro h4 w4)))
    refine ⟨.inr rfl,X1 rfl w4.cel.read ⟨w4.ext st.e l02,?_⟩⟩
    rw [hmul,if_pos]
    · exact ⟨s,rfl,st.o.wrC w4⟩
    · intro t ht
      obtain ⟨a,b,c,d⟩:=fromC_mem.1 ht
      have:=hsm (t.1-lo).toNat (by omega)
      rw [show lo+((t.1-lo).toNat:Int)=t.1 from by omega] at this
      rw [c];exact this
  · repeat' (first | refine QF ?_ | refine Xg ?_)
    refine ⟨.inr rfl,X1 rfl c4.read ⟨e3,?_⟩⟩
    rw [hmul,if_neg]
    · exact ⟨.nilS,rfl,.inl ⟨rfl,rfl⟩⟩
    · intro hall
      refine hns fun k hk=>?_
      by_cases hz:mc p.ts q.ts (lo+k)=0
      · show (mc p.ts q.ts (lo+k)).natAbs≤cM
        rw [hz];simp [cM]
      · exact hall (lo+k,mc p.ts q.ts (lo+k)) (fromC_mem.2 ⟨by omega,by omega,rfl,hz⟩)
end Go.Proofs.YtofknpknogfijaaGreatDoor
