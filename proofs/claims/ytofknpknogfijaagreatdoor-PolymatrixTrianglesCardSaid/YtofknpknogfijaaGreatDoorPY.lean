/- The products of the terms: contracts. -/
import Derived.Test.YtofknpknogfijaaGreatDoorPE
import Derived.Test.YtofknpknogfijaaGreatDoorPM
import Derived.Test.YtofknpknogfijaaGreatDoorAb41
namespace Go.Proofs.YtofknpknogfijaaGreatDoor
open Go.Ab
set_option linter.unusedVariables false
set_option linter.unusedSimpArgs false
set_option maxRecDepth 20000
set_option maxHeartbeats 4000000
attribute [local irreducible] Qi wA Xk Xj Qz Qo QS QV
set_option linter.unusedSectionVars false
variable [HB]
def wdP (v:Int):P2:=(.int .u64 (v / 18446744073709551616%18446744073709551616),.int .u64 (v%18446744073709551616))
theorem wd_P (v:Int):wd v=[(wdP v).1,(wdP v).2]:=rfl
def Cel1 (h:Qa) (q:Nat) (a:SV):Prop:=h[q]?=some (.cells [a] true 0)
theorem Cel1.at {h:Qa} {q:Nat} {a:SV} (c:Cel1 h q a):Blk.At h q [a]:=⟨true,0,c⟩
theorem Cel1.ext {h h':Qa} {q:Nat} {a:SV} (c:Cel1 h q a) (he:Ext h h'):Cel1 h' q a:=he.get _ _ c
theorem Cel1.fram {h h':Qa} {q:Nat} {a s s':SV} (c:Cel1 h q a) (hf:Fram h h' s s') (hn:XT s q):Cel1 h' q a:=(hf _ _ c hn).1
theorem QjD (h0 h:Qa) (he:Ext h0 h) (q7 q5:Nat) (S:SV) (lo ex w:Int) (vs:List Int) (ho:OwnD h0 h S (vs.map wdP)) (b7:Cel1 h q7 S) (b5:Cel1 h q5 (.int .i64 lo)) (hk:0≤ex-lo∧ex-lo < vs.length) (hlen:vs.length≤10000000) :
    ∃ r h',Cal FT HKt 57 [.sc (.int .i64 ex),.agg (wd w),.sc (.ptr q7 0),.sc (.ptr q5 0)] h r h'∧Ext h0 h'∧OwnD h0 h' S ((vs.set (ex-lo).toNat (vs.getD (ex-lo).toNat 0+w)).map wdP)∧Fram h h' S S:=by
  refine Cal.of (F:=a57) rfl rfl rfl ?_
  have hkl:(ex-lo).toNat < vs.length:=by omega
  obtain ⟨v,hv⟩:∃ v,vs[(ex-lo).toNat]?=some v:=⟨_,List.getElem?_eq_getElem hkl⟩
  have hv2:vs.getD (ex-lo).toNat 0=v:=by rw [List.getD_eq_getElem?_getD,hv];rfl
  rw [hv2]
  obtain ⟨id,cap,hS,hr⟩:=ho.rd (i:=(ex-lo).toNat) (p:=wdP v) (by simp [hv])
  have k40:=fun H=>QjC H v w
  have hwr:=fun H (e:Ext h0 H) (o:OwnD h0 H S (vs.map wdP))=>OwnD.wr e o (i:=(ex-lo).toNat) (by simp;exact hkl) (wdP (v+w)).1 (wdP (v+w)).2
  rw [List.length_map] at hS hwr
  have fin:∀ (H h2:Qa),OwnD h0 h2 S ((vs.map wdP).set (ex-lo).toNat ((wdP (v+w)).1,(wdP (v+w)).2))→OwnD h0 h2 S ((vs.set (ex-lo).toNat (v+w)).map wdP):=fun _ _ o=>by rw [List.map_set];exact o
  subst hS
  simp only [wd_P] at k40 ⊢
  repeat' (first | refine Qh ?_ | refine Qb ?_ | refine Qf ?_ | refine Q9 ?_ | refine Xs ?_ | refine Xt ?_ | ((refine Qe ?_);first | refine Xb ?_ | refine XP ?_ | refine Xi (by assumption) ?_ | refine QQ rfl rfl rfl rfl ?_) | ((refine Qc ?_);first | (refine QR rfl ?_;intro h1 e1 c1;have d7:=b7.ext e1;have d5:=b5.ext e1;have r1:=QO e1 hr) | refine YL rfl d7.at rfl ?_ | refine YL rfl d5.at rfl ?_ | (refine YY rfl rfl (by omega) ?_) | refine QD (esz:=2) rfl rfl (by omega) ?_ | refine Yi rfl r1 ?_ | refine QN rfl c1 ?_ | (refine Qm rfl (k40 _) ?_;rintro r h2 ⟨e2,rfl⟩;obtain ⟨id2,cap2,h3,e3,w3,o3,x3,f3,l3⟩:=hwr h2 (he.trans (e1.trans e2)) (ho.ext (e1.trans e2));cases e3) | refine k_stD rfl rfl w3 ?_ | refine Qp rfl ?_))
  refine Qdn ?_
  exact ⟨.inl rfl,x3,fin h2 h3 o3,fun j b hj hn=>f3 j b ((e1.trans e2).get _ _ hj) hn⟩
def smL (f:Int→Int) (lo:Int) (n:Nat):List Int:=(List.range n).map fun k:Nat=>f (lo+(k:Int))
theorem qB (f:Int→Int) (lo:Int) (n:Nat):(smL f lo n).length=n:=by simp [smL]
theorem Qiw {f:Int→Int} {lo:Int} {n k:Nat} (hk:k < n):(smL f lo n).getD k 0=f (lo+k):=by simp [smL,List.getD,hk]
theorem yj {f g:Int→Int} {lo:Int} {n:Nat} (h:∀ e,f e=g e):smL f lo n=smL g lo n:=by
  unfold smL
  exact List.map_congr_left fun k _=>h _
theorem Qf5 {f:Int→Int} {lo e w:Int} {n:Nat} (h0:lo≤e) (h1:e < lo+n):(smL f lo n).set (e-lo).toNat ((smL f lo n).getD (e-lo).toNat 0+w)=smL (fun x=>f x+w*dl x e) lo n:=by
  rw [Qiw (k:=(e-lo).toNat) (by omega)]
  refine List.ext_getElem (by simp [smL]) fun k h2 h3=>?_
  rw [List.getElem_set]
  simp only [smL,List.getElem_map,List.getElem_range]
  rw [qB] at h3
  by_cases hk:(e-lo).toNat=k
  · rw [if_pos hk,show lo+((e-lo).toNat:Int)=e by omega,show lo+(k:Int)=e by omega,ZT];omega
  · rw [if_neg hk,yd (by omega)];omega
structure Sx (h0 hb h:Qa) (S:SV) (q7 q5:Nat) (lo:Int) (vs:List Int):Prop where
  e:Ext h0 h
  o:OwnD h0 h S (vs.map wdP)
  b7:Cel1 h q7 S
  b5:Cel1 h q5 (.int .i64 lo)
  k:∀ (j:Nat) (b:Blk),hb[j]?=some b→XT S j→h[j]?=some b
theorem Sx.ext {h0 hb h h':Qa} {S:SV} {q7 q5:Nat} {lo:Int} {vs:List Int} (x:Sx h0 hb h S q7 q5 lo vs) (he:Ext h h'):Sx h0 hb h' S q7 q5 lo vs:=⟨x.e.trans he,x.o.ext he,x.b7.ext he,x.b5.ext he,fun j b hj hn=>he.get _ _ (x.k j b hj hn)⟩
def I56i (h0 hb:Qa) (S:SV) (q7 q5 q4 qt:Nat) (lo:Int) (n:Nat) (bb:Bool) (sp sq:SV) (p q:List Tm) (i:Nat) (t:Tm) (E:Env) (h:Qa):Prop:=∃ j:Nat,j≤q.length∧Sx h0 hb h S q7 q5 lo (smL (fun e=>mc (p.take i) q e+mc [t] (q.take j) e) lo n)∧Cel h q4 (.bool bb) sq∧Cel h qt (.int .i64 t.1) (.int .i64 t.2) ∧
  E.keep [2,4,7,11,12,13,18,19,20]=[(2,some (.sc (.fn 57 [(q7,0),(q5,0)]))),(4,some (.sc (.ptr q4 0))),(7,some (.sc (.ptr qt 0))),(11,some (.sc sp)),(12,some (.sc (.int .i64 (p.length:Nat)))),(13,some (.sc (.int .i64 (i:Nat)))),(18,some (.sc sq)),(19,some (.sc (.int .i64 (q.length:Nat)))),(20,some (.sc (.int .i64 (j:Nat))))]
def R56i (h0 hb:Qa) (S:SV) (q7 q5 q4:Nat) (lo:Int) (n:Nat) (bb:Bool) (sp sq:SV) (p q:List Tm) (i:Nat) (t:Tm) (ex:Ex) (E:Env) (h:Qa):Prop:=ex=.ex 2∧Sx h0 hb h S q7 q5 lo (smL (fun e=>mc (p.take i) q e+mc [t] q e) lo n)∧Cel h q4 (.bool bb) sq∧∃ a b c d e,
  E=[(2,some (.sc (.fn 57 [(q7,0),(q5,0)]))),(4,some (.sc (.ptr q4 0))),(7,a),(11,some (.sc sp)),(12,some (.sc (.int .i64 (p.length:Nat)))),(13,some (.sc (.int .i64 (i:Nat)))),(18,b),(19,c),(20,d),(21,e)]
structure Tfit (ts:List Tm):Prop where
  len:ts.length≤2097153
  cf:∀ t∈ts,t.2.natAbs≤cM
  ex:∀ t∈ts,t.1.natAbs≤4194304
theorem Pok.fit {p:Pol} (k:Pok p):Tfit p.ts:=⟨k.len,k.cf,fun t ht=>by have:=k.ex t ht;simp only [eM] at this;omega⟩
theorem QgB (q:List Tm) (t u:Tm) (e:Int):mc [t] (q++[u]) e=mc [t] q e+t.2*u.2*dl e (t.1+u.1):=by
  rw [Qd7,Qd7,QeP,Int.mul_add,Int.mul_assoc]
  congr 1
  show t.2*(u.2*dl (e-t.1) u.1+0)=_
  congr 1
  by_cases h:u.1=e-t.1
  · rw [h,ZT,show t.1+(e-t.1)=e by omega,ZT];omega
  · rw [yd h,yd (by omega)];omega
theorem QdF (h0 hb:Qa) (S:SV) (q7 q5 q4 qt:Nat) (lo:Int) (n:Nat) (hn:n≤10000000) (bb:Bool) (sp sq:SV) (p q:List Tm) (i:Nat) (t:Tm) (hq:IsD h0 sq (tms q)) (fq:Tfit q) (ht:t.2.natAbs≤cM∧t.1.natAbs≤4194304) (hrng:∀ u∈q,lo≤t.1+u.1∧t.1+u.1 < lo+n) (hlo : -100000000≤lo∧lo≤100000000) (E:Env) (h:Qa) (hI:I56i h0 hb S q7 q5 q4 qt lo n bb sp sq p q i t E h) :
    wA FT HKt QhO (E.keep [2,4,7,11,12,13,18,19,20]) h (Qz (I56i h0 hb S q7 q5 q4 qt lo n bb sp sq p q i t) (cK [2,4,7,11,12,13,18,19,20] q.length 20) (cK [2,4,7,11,12,13,18,19,20] q.length 20 E h) (R56i h0 hb S q7 q5 q4 lo n bb sp sq p q i t)):=by
  obtain ⟨j,hj,x,c4,ct,hE⟩:=hI
  have hm:cK [2,4,7,11,12,13,18,19,20] q.length 20 E h=q.length-j:=by unfold cK;rw [hE];rfl
  rw [hm,hE]
  have hql:=fq.len
  by_cases hlt:j < q.length
  · obtain ⟨u,hu⟩:∃ u,q[j]?=some u:=⟨_,List.getElem?_eq_getElem hlt⟩
    have hum:=List.mem_of_getElem? hu
    have hur:=hrng u hum
    have hue:=fq.ex u hum
    have huc:=fq.cf u hum
    obtain ⟨id,off,cap,e1,r0⟩:=hq.at (i:=j) (p:=tmP u) (by simp [hu])
    rw [XD] at e1
    subst e1
    have r1:=QO x.e r0
    simp only [cM] at ht huc
    have k41:=fun H=>Qjw H t.2 u.2 (by omega) (by omega)
    have tk:q.take (j+1)=q.take j++[u]:=by rw [List.take_add_one,hu];rfl
    have k44:=fun H (x:Sx h0 hb H S q7 q5 lo (smL (fun e=>mc (p.take i) q e+mc [t] (q.take j) e) lo n))=>QjD h0 H x.e q7 q5 S lo (t.1+u.1) (t.2*u.2) _ x.o x.b7 x.b5 (by rw [qB];omega) (by rw [qB];exact hn)
    rw [Qf5 hur.1 hur.2] at k44
    repeat' (first | refine Qh ?_ | refine Qb ?_ | refine Qt ?_ | refine QC ?_ | refine Qn ?_ | refine Qf ?_ | refine Q9 ?_ | refine Xs ?_ | refine Xt ?_ | ((refine Qg ?_);refine Qk rfl ?_) | ((refine Qe ?_);first | refine Xb ?_ | refine XP ?_ | refine Xi (by assumption) ?_ | refine Q6 rfl rfl rfl rfl rfl rfl rfl rfl rfl ?_ | refine Xf rfl rfl rfl rfl rfl rfl rfl rfl rfl rfl ?_) | ((refine Qc ?_);first | refine QD (esz:=2) rfl rfl (by omega) ?_ | refine Yi rfl r1 ?_ | (refine YU rfl ?_;intro h2 e2 c2;have dt:=ct.ext e2;have x2:=x.ext e2) | refine Q4 rfl dt ?_ | refine Q4 rfl c2 ?_ | refine Q0 rfl dt ?_ | refine Q0 rfl c2 ?_ | (refine Qm rfl (k41 _) ?_;rintro r h3 ⟨e3,rfl⟩;have x3:=x2.ext e3) | (refine ZB rfl rfl (k44 h3 x3) ?_;rintro r h4 ⟨e4,o4,f4⟩) | refine Qp rfl ?_ | refine QK rfl rfl (by omega) ?_ | refine Qx rfl rfl (by omega) ?_ | refine XF rfl rfl ?_))
    have n4:XT S q4→Cel h4 q4 (.bool bb) (.slc id off q.length cap):=fun hn=>(c4.ext (e2.trans e3)).fram f4 hn
    refine Yd ⟨j+1,by omega,⟨e4,?_,x3.b7.fram f4 (x3.o.cel x3.b7),x3.b5.fram f4 (x3.o.cel x3.b5),fun j b hj hn=>(f4 j b (x3.k j b hj hn) hn).1⟩,n4 (x.o.cel c4),(dt.ext e3).fram f4 (x.o.cel ct),rfl⟩ (by simp [cK,Env.keep,Env.get];omega)
    rw [tk]
    have:smL (fun e=>mc (p.take i) q e+mc [t] (q.take j++[u]) e) lo n=smL (fun x=>mc (p.take i) q x+mc [t] (q.take j) x+t.2*u.2*dl x (t.1+u.1)) lo n:=yj fun e=>by rw [QgB];omega
    rw [this];exact o4
  · have:j=q.length:=by omega
    subst this
    rw [List.take_length] at x
    repeat' (first | refine Qh ?_ | refine Qb ?_ | refine QP ?_ | refine QL ?_ | refine Qf ?_ | ((refine Qg ?_);refine Qj rfl ?_) | ((refine Qe ?_);refine Xf rfl rfl rfl rfl rfl rfl rfl rfl rfl rfl ?_) | ((refine Qc ?_);refine QH rfl rfl (by omega) ?_))
    exact Yo ⟨rfl,x,c4,_,_,_,_,_,rfl⟩
def I56 (h0 hb:Qa) (S:SV) (q7 q5 q4:Nat) (lo:Int) (n:Nat) (bb:Bool) (sp sq:SV) (p q:List Tm) (E:Env) (h:Qa):Prop:=∃ i:Nat,i≤p.length∧Sx h0 hb h S q7 q5 lo (smL (fun e=>mc (p.take i) q e) lo n)∧Cel h q4 (.bool bb) sq ∧
  E.keep [2,4,11,12,13]=[(2,some (.sc (.fn 57 [(q7,0),(q5,0)]))),(4,some (.sc (.ptr q4 0))),(11,some (.sc sp)),(12,some (.sc (.int .i64 (p.length:Nat)))),(13,some (.sc (.int .i64 (i:Nat))))]
def R56 (h0 hb:Qa) (S:SV) (q7 q5:Nat) (lo:Int) (n:Nat) (p q:List Tm) (ex:Ex) (E:Env) (h:Qa):Prop:=ex=.ex 0∧Sx h0 hb h S q7 q5 lo (smL (fun e=>mc p q e) lo n)
theorem Qgi (h0 hb:Qa) (S:SV) (q7 q5 q4:Nat) (lo:Int) (n:Nat) (hn:n≤10000000) (bb:Bool) (sp sq:SV) (p q:List Tm) (hp:IsD h0 sp (tms p)) (hq:IsD h0 sq (tms q)) (fp:Tfit p) (fq:Tfit q) (hrng:∀ t∈p,∀ u∈q,lo≤t.1+u.1∧t.1+u.1 < lo+n) (hlo : -100000000≤lo∧lo≤100000000) (E:Env) (h:Qa) (hI:I56 h0 hb S q7 q5 q4 lo n bb sp sq p q E h) :
    wA FT HKt QhP (E.keep [2,4,11,12,13]) h (Qz (I56 h0 hb S q7 q5 q4 lo n bb sp sq p q) (cK [2,4,11,12,13] p.length 13) (cK [2,4,11,12,13] p.length 13 E h) (R56 h0 hb S q7 q5 lo n p q)):=by
  obtain ⟨i,hi,x,c4,hE⟩:=hI
  have hm:cK [2,4,11,12,13] p.length 13 E h=p.length-i:=by unfold cK;rw [hE];rfl
  rw [hm,hE]
  have hpl:=fp.len
  have lq:=hq.len
  rw [XD] at lq
  by_cases hlt:i < p.length
  · obtain ⟨t,ht⟩:∃ t,p[i]?=some t:=⟨_,List.getElem?_eq_getElem hlt⟩
    have htm:=List.mem_of_getElem? ht
    obtain ⟨id,off,cap,e1,r0⟩:=hp.at (i:=i) (p:=tmP t) (by simp [ht])
    rw [XD] at e1
    subst e1
    have r1:=QO x.e r0
    repeat' (first | refine Qh ?_ | refine Qb ?_ | refine Qt ?_ | refine Qn ?_ | refine Qf ?_ | ((refine Qg ?_);refine Qk rfl ?_) | ((refine Qe ?_);first | refine QM rfl rfl rfl rfl rfl rfl ?_ | refine Q6 rfl rfl rfl rfl rfl rfl rfl rfl rfl ?_) | ((refine Qc ?_);first | refine QD (esz:=2) rfl rfl (by omega) ?_ | refine Yi rfl r1 ?_ | (refine YU rfl ?_;intro h2 e2 c2;have d4:=c4.ext e2;have x2:=x.ext e2) | refine Q0 rfl d4 ?_ | refine QA rfl lq ?_ | refine Qp rfl ?_ | refine Qx rfl rfl (by omega) ?_ | refine XF rfl rfl ?_))
    have x2':Sx h0 hb h2 S q7 q5 lo (smL (fun e=>mc (p.take i) q e+mc [t] (q.take 0) e) lo n):=by
      have:smL (fun e=>mc (p.take i) q e+mc [t] (q.take 0) e) lo n=smL (fun e=>mc (p.take i) q e) lo n:=yj fun e=>by rw [List.take_zero,QgC];omega
      rw [this];exact x2
    refine Z9 (I56i h0 hb S q7 q5 q4 h.length lo n bb (.slc id off p.length cap) sq p q i t) (cK [2,4,7,11,12,13,18,19,20] q.length 20) (R56i h0 hb S q7 q5 q4 lo n bb (.slc id off p.length cap) sq p q i t) ⟨0,Nat.zero_le _,x2',d4,c2,rfl⟩ (QdF h0 hb S q7 q5 q4 h.length lo n hn bb (.slc id off p.length cap) sq p q i t hq fq ⟨fp.cf t htm,fp.ex t htm⟩ (hrng t htm) hlo) ?_
    rintro ex E' h3 ⟨rfl,x3,c3,a,b,c,d,e,rfl⟩
    repeat' (first | refine Qb ?_ | refine QC ?_ | refine QE ?_ | refine Qf ?_ | ((refine Qe ?_);refine QU rfl rfl rfl rfl rfl ?_) | ((refine Qc ?_);first | refine Qp rfl ?_ | refine QK rfl rfl (by omega) ?_))
    refine Yd ⟨i+1,by omega,?_,c3,rfl⟩ (by simp [cK,Env.keep,Env.get];omega)
    have tk:p.take (i+1)=p.take i++[t]:=by rw [List.take_add_one,ht];rfl
    have:smL (fun e=>mc (p.take (i+1)) q e) lo n=smL (fun e=>mc (p.take i) q e+mc [t] q e) lo n:=yj fun e=>by rw [tk,Qi2]
    rw [this];exact x3
  · have:i=p.length:=by omega
    subst this
    rw [List.take_length] at x
    repeat' (first | refine Qh ?_ | refine Qb ?_ | refine QP ?_ | refine QL ?_ | refine Qf ?_ | ((refine Qg ?_);refine Qj rfl ?_) | ((refine Qe ?_);refine QM rfl rfl rfl rfl rfl rfl ?_) | ((refine Qc ?_);refine QH rfl rfl (by omega) ?_))
    exact Yo ⟨rfl,x⟩
theorem QjE (h0 h:Qa) (S:SV) (q7 q5:Nat) (lo:Int) (n:Nat) (hn:n≤10000000) (ba bb:Bool) (sp sq:SV) (p q:List Tm) (hp:IsD h0 sp (tms p)) (hq:IsD h0 sq (tms q)) (fp:Tfit p) (fq:Tfit q) (hrng:∀ t∈p,∀ u∈q,lo≤t.1+u.1∧t.1+u.1 < lo+n) (hlo : -100000000≤lo∧lo≤100000000) (x:Sx h0 h h S q7 q5 lo (List.replicate n 0)) :
    ∃ r h',Cal FT HKt 56 [.agg [.bool ba,sp],.agg [.bool bb,sq],.sc (.fn 57 [(q7,0),(q5,0)])] h r h'∧Sx h0 h h' S q7 q5 lo (smL (fun e=>mc p q e) lo n):=by
  refine Cal.of (F:=a56) rfl rfl rfl ?_
  have lp:=hp.len
  rw [XD] at lp
  have e0:List.replicate n 0=smL (fun e=>mc (p.take 0) q e) lo n:=by
    refine List.ext_getElem (by simp [smL]) fun k h1 h2=>?_
    simp [smL,Qd8]
  rw [e0] at x
  repeat' (first | refine Qh ?_ | refine Qb ?_ | refine Qt ?_ | refine Qf ?_ | ((refine Qe ?_);first | refine Qy rfl rfl rfl ?_ | refine QU rfl rfl rfl rfl rfl ?_) | ((refine Qc ?_);first | (have z:=e1;refine QR rfl ?_;intro h2 e2 c2;have x2:=x1.ext e2;have d1:=c1.ext e2) | (refine QR rfl ?_;intro h1 e1 c1;have x1:=x.ext e1) | refine Q0 rfl d1 ?_ | refine QA rfl lp ?_ | refine Qp rfl ?_ | refine XF rfl rfl ?_))
  refine Z9 (I56 h0 h S q7 q5 h1.length lo n bb sp sq p q) (cK [2,4,11,12,13] p.length 13) (R56 h0 h S q7 q5 lo n p q) ⟨0,Nat.zero_le _,x2,c2,rfl⟩ (Qgi h0 h S q7 q5 h1.length lo n hn bb sp sq p q hp hq fp fq hrng hlo) ?_
  rintro ex E' h3 ⟨rfl,x3⟩
  repeat' (refine QE ?_)
  exact ⟨.inl rfl,x3⟩
end Go.Proofs.YtofknpknogfijaaGreatDoor


namespace Go.Proofs.YtofknpknogfijaaGreatDoor
open Go.Ab
set_option linter.unusedVariables false
set_option linter.unusedSimpArgs false
set_option maxRecDepth 20000
set_option maxHeartbeats 4000000
attribute [local irreducible] Qi wA Xk Xj Qz Qo QS QV
set_option linter.unusedSectionVars false
variable [HB]
theorem Qg1 (h0:Qa) (hi lo y:Nat) (hhi:hi < 18446744073709551616) (hlo:lo < 18446744073709551616) (hy:0 < y∧y < 18446744073709551616) :
    ∃ r h',Cal FT HKt 124 [.sc (.int .u64 (hi:Nat)),.sc (.int .u64 (lo:Nat)),.sc (.int .u64 (y:Nat))] h0 r h'∧h'=h0∧r=.sc (.int .u64 (((hi*18446744073709551616+lo)%y:Nat):Int)):=by
  refine Cal.of (F:=a124) rfl rfl rfl ?_
  have k71:=fun H=>Qg4 H (hi%y) lo y (Nat.mod_lt _ hy.1) hlo hy.2
  have e:(hi%y*18446744073709551616+lo)%y=(hi*18446744073709551616+lo)%y:=by
    rw [Nat.add_mod,Nat.mul_mod,Nat.mod_mod,← Nat.mul_mod,← Nat.add_mod]
  rw [e] at k71
  have e2:(hi:Int)%(y:Int)=((hi%y:Nat):Int):=rfl
  repeat' (first | refine Qh ?_ | refine Qb ?_ | refine Qs ?_ | refine Qf ?_ | ((refine Qe ?_);first | refine Qr rfl ?_ | refine Qy rfl rfl rfl ?_) | ((refine Qc ?_);first | (refine Qej rfl rfl (by omega) ?_;rw [e2]) | (refine Qm rfl (k71 _) ?_;rintro r _ ⟨rfl,rfl⟩) | refine Qp rfl ?_ | refine XF rfl rfl ?_))
  exact ⟨.inr rfl,rfl,rfl⟩
end Go.Proofs.YtofknpknogfijaaGreatDoor


/- The value of the terms whose exponents are not negative: contracts. -/
namespace Go.Proofs.YtofknpknogfijaaGreatDoor
open Go.Ab
set_option linter.unusedVariables false
set_option linter.unusedSimpArgs false
set_option maxRecDepth 20000
set_option maxHeartbeats 4000000
attribute [local irreducible] Qi wA Xk Xj Qz Qo QS QV
set_option linter.unusedSectionVars false
variable [HB]
section
variable {FT:FuncId→Option AFun} {HK:FuncId→Option Xc} {E:Env} {h:Qa} {K:Env→Qa→Prop} {d:Option Nat} {r:List AOp} {x:AO}
end
end Go.Proofs.YtofknpknogfijaaGreatDoor




namespace Go.Proofs.YtofknpknogfijaaGreatDoor
open Go.Ab
set_option linter.unusedVariables false
set_option linter.unusedSimpArgs false
set_option maxRecDepth 20000
set_option maxHeartbeats 4000000
attribute [local irreducible] Qi wA Xk Xj Qz Qo QS QV
set_option linter.unusedSectionVars false
variable [HB]
def qO (p q:List Tm):Int:=lo0 p+lo0 q
def Z4 (p q:List Tm):Nat:=(hi0 p+hi0 q-(lo0 p+lo0 q)+1).toNat
def JE (p q:Pol):Pol:=open Classical in
  if p.big=true∨q.big=true then Jw
  else if p.ts=[]∨q.ts=[] then Qbl
  else if qO p.ts q.ts < -1048576∨1048576 < hi0 p.ts+hi0 q.ts then Jw
  else if ∀ t∈QaU p.ts q.ts (qO p.ts q.ts) (Z4 p.ts q.ts),t.2.natAbs≤cM then ⟨false,QaU p.ts q.ts (qO p.ts q.ts) (Z4 p.ts q.ts)⟩ else Jw
theorem QbQ {p q:List Tm} (hp:Can p) (hq:Can q):∀ t∈p,∀ u∈q,qO p q≤t.1+u.1∧t.1+u.1 < qO p q+Z4 p q:=fun t ht u hu=>by
  have a:=zQ hp t ht
  have b:=zQ hq u hu
  have c:=yt hp t ht
  have d:=yt hq u hu
  unfold qO Z4
  omega
theorem JW {p:List Tm} (h0:p≠[]):∃ t∈p,t.1=lo0 p:=by
  cases p with
  | nil=>exact absurd rfl h0
  | cons t r=>exact ⟨t,.head _,rfl⟩
theorem Pok.lo {p:Pol} (k:Pok p) : -1048576≤lo0 p.ts∧lo0 p.ts≤1048576 ∧ -1048576≤hi0 p.ts∧hi0 p.ts≤1048576∧lo0 p.ts≤hi0 p.ts:=by
  by_cases h:p.ts=[]
  · rw [h];simp [lo0,hi0]
  · obtain ⟨t,t1,t2⟩:=JW h
    obtain ⟨u,u1,u2⟩:=JX h
    have a:=k.ex t t1
    have b:=k.ex u u1
    have c:=zQ k.can u u1
    simp only [eM] at a b
    omega
theorem Qd6 {p q:Pol} (kp:Pok p) (kq:Pok q) (e:Int) : -170141183460469231731687303715884105728 < mc p.ts q.ts e∧mc p.ts q.ts e < 170141183460469231731687303715884105728:=by
  have h1:=Qd9 (p:=p.ts) kq.can kq.cf e kp.cf
  have h2:=Nat.mul_le_mul_right (cM*cM) kp.len
  simp only [cM] at *
  omega
structure St22 (h0 h:Qa) (q4 q5 q8:Nat) (lo:Int) (a:Bool) (S s:SV) (vs:List Int) (r:List Tm):Prop where
  e:Ext h0 h
  c4:Cel h q4 (.bool a) .nilS
  c5:Cel1 h q5 (.int .i64 lo)
  c8:Cel h q8 (.bool false) s
  o:OwnD h0 h s (tms r)
  sm:IsD h S (vs.map wdP)
  ap:Go.Ab.Apart s S
theorem St22.ext {h0 h h':Qa} {q4 q5 q8:Nat} {lo:Int} {a:Bool} {S s:SV} {vs:List Int} {r:List Tm} (st:St22 h0 h q4 q5 q8 lo a S s vs r) (he:Ext h h'):St22 h0 h' q4 q5 q8 lo a S s vs r :=
  ⟨st.e.trans he,st.c4.ext he,st.c5.ext he,st.c8.ext he,st.o.ext he,st.sm.ext he,st.ap⟩
theorem St22.wr {h0 h h1:Qa} {q4 q5 q8 q:Nat} {lo:Int} {a:Bool} {S s:SV} {vs:List Int} {r:List Tm} {x y:SV} (st:St22 h0 h q4 q5 q8 lo a S s vs r) (w:Wr h h1 q x y) (hq:h0.length≤q∧q4≠q∧q5≠q∧q8≠q):St22 h0 h1 q4 q5 q8 lo a S s vs r:=by
  refine ⟨w.ext st.e hq.1,w.keep st.c4 hq.2.1,?_,w.keep st.c8 hq.2.2.2,st.o.wrC w,st.sm.wrC w,st.ap⟩
  have:=st.c5
  unfold Cel1 at this ⊢
  rw [w.eq,List.getElem?_set_ne (Ne.symm hq.2.2.1)];exact this
def I22 (h0:Qa) (q4 q5 q8:Nat) (lo:Int) (S:SV) (f:Int→Int) (n:Nat) (E:Env) (h:Qa):Prop:=∃ (i:Nat) (s:SV),i≤n∧(∀ k:Nat,k < i→(f (lo+k)).natAbs≤cM)∧St22 h0 h q4 q5 q8 lo false S s (smL f lo n) (Zp f lo i) ∧
  E.keep [4,5,8,73,74,75]=[(4,some (.sc (.ptr q4 0))),(5,some (.sc (.ptr q5 0))),(8,some (.sc (.ptr q8 0))),(73,some (.sc S)),(74,some (.sc (.int .i64 (n:Nat)))),(75,some (.sc (.int .i64 (i:Nat))))]
def R22 (h0:Qa) (q4 q5 q8:Nat) (lo:Int) (S:SV) (f:Int→Int) (n:Nat) (ex:Ex) (E:Env) (h:Qa):Prop :=
  (ex=.ex 0∧∃ s a b c d,(∀ k:Nat,k < n→(f (lo+k)).natAbs≤cM)∧St22 h0 h q4 q5 q8 lo false S s (smL f lo n) (Zp f lo n)∧E=[(4,some (.sc (.ptr q4 0))),(5,a),(8,some (.sc (.ptr q8 0))),(73,b),(74,c),(75,d),(76,some (.sc (.bool false)))]) ∨
  (ex=.rt∧¬ (∀ k:Nat,k < n→(f (lo+k)).natAbs≤cM)∧Ext h0 h∧Cel h q4 (.bool true) .nilS∧E=[(4,some (.sc (.ptr q4 0)))])
theorem Qc4 (g:Int→Int) (lo:Int) (n:Nat):(Zp g lo n).length≤n:=JZ (yu g lo n) fun t ht=>⟨(fromC_mem.1 ht).1,(fromC_mem.1 ht).2.1⟩
theorem Qgk (h0:Qa) (q4 q5 q8:Nat) (lo:Int) (S:SV) (f:Int→Int) (n:Nat) (hn:n≤5000000) (hlo : -2097152≤lo∧lo≤2097152) (hf:∀ e,-170141183460469231731687303715884105728 < f e∧f e < 170141183460469231731687303715884105728) (l4:h0.length≤q4) (l8:h0.length≤q8) (n48:q4≠q8) (E:Env) (h:Qa) (hI:I22 h0 q4 q5 q8 lo S f n E h) :
    wA FT HKt QhV (E.keep [4,5,8,73,74,75]) h (Qz (I22 h0 q4 q5 q8 lo S f n) (cK [4,5,8,73,74,75] n 75) (cK [4,5,8,73,74,75] n 75 E h) (R22 h0 q4 q5 q8 lo S f n)):=by
  obtain ⟨i,s,hi,hsm,st,hE⟩:=hI
  have hm:cK [4,5,8,73,74,75] n 75 E h=n-i:=by unfold cK;rw [hE];rfl
  rw [hm,hE]
  by_cases hlt:i < n
  · have hv:(smL f lo n)[i]?=some (f (lo+i)):=by simp [smL,hlt]
    obtain ⟨id,off,cap,e1,r0⟩:=st.sm.at (i:=i) (p:=wdP (f (lo+i))) (by simp [hv])
    rw [List.length_map,qB] at e1
    subst e1
    have k45:=fun H=>QjB H (f (lo+i)) (hf _)
    have fl:=Qc4 f lo i
    have fs:=qh f lo i
    by_cases hb:(f (lo+i)).natAbs≤cM
    · have hsm2:∀ k:Nat,k < i+1→(f (lo+k)).natAbs≤cM:=fun k hk=>by
        by_cases e:k=i
        · subst e;exact hb
        · exact hsm k (by omega)
      have e45:smV (f (lo+i))=f (lo+i):=by unfold smV;rw [if_pos hb]
      rw [e45,decide_eq_true hb] at k45
      generalize hv2:f (lo+i)=v at *
      simp only [wd_P] at k45
      have n4:=st.c4.lt
      have n5:=(List.getElem?_eq_some_iff.1 st.c5).1
      have n8:=st.c8.lt
      have n0:=st.e.len
      by_cases hz:v=0
      · have fs2:Zp f lo (i+1)=Zp f lo i:=by rw [fs];unfold put;rw [if_pos hz,List.append_nil]
        subst hz
        repeat' (first | refine Qh ?_ | refine Qb ?_ | refine Qt ?_ | refine QC ?_ | refine Qn ?_ | refine Qf ?_ | ((refine Qg ?_);first | refine Qk rfl ?_ | refine Qj rfl ?_) | ((refine Qe ?_);first | refine QM rfl rfl rfl rfl rfl rfl ?_ | refine Q7 rfl rfl rfl rfl rfl rfl rfl ?_ | refine Q5 rfl rfl rfl rfl rfl rfl rfl rfl ?_ | refine Q6 rfl rfl rfl rfl rfl rfl rfl rfl rfl ?_) | ((refine Qc ?_);first | refine QD (esz:=2) rfl rfl (by omega) ?_ | refine Yi rfl r0 ?_ | (refine Xm ?_;intro h2 e2 c2;have s2:=st.ext e2;have n2:=e2.len) | (refine Xu rfl rfl c2 ?_;intro h3 w3;have c3:=w3.cel;have s3:=s2.wr w3 (by omega)) | refine QN rfl c3 ?_ | (refine Qm rfl (k45 _) ?_;rintro r h4 ⟨e4,rfl⟩;have s4:=s3.ext e4) | refine Qp rfl ?_ | refine XQ rfl ?_ | refine QK rfl rfl (by omega) ?_ | refine Qx rfl rfl (by omega) ?_ | refine XJ rfl rfl (by omega) ?_ | refine XF rfl rfl ?_))
        exact Yd ⟨i+1,s,by omega,hsm2,by rw [fs2];exact s4,rfl⟩ (by simp [cK,Env.keep,Env.get];omega)
      · have fs2:Zp f lo (i+1)=Zp f lo i++[(lo+i,v)]:=by rw [fs];unfold put;rw [if_neg hz]
        repeat' (first | refine Qh ?_ | refine Qb ?_ | refine Qt ?_ | refine QC ?_ | refine Qn ?_ | refine Qf ?_ | ((refine Qg ?_);first | refine Qk rfl ?_ | refine Qj rfl ?_) | ((refine Qe ?_);first | refine QM rfl rfl rfl rfl rfl rfl ?_ | refine Q7 rfl rfl rfl rfl rfl rfl rfl ?_ | refine Q5 rfl rfl rfl rfl rfl rfl rfl rfl ?_ | refine Q6 rfl rfl rfl rfl rfl rfl rfl rfl rfl ?_) | ((refine Qc ?_);first | refine QD (esz:=2) rfl rfl (by omega) ?_ | refine Yi rfl r0 ?_ | (refine Xm ?_;intro h2 e2 c2;have s2:=st.ext e2;have n2:=e2.len) | (refine Xu rfl rfl c2 ?_;intro h3 w3;have c3:=w3.cel;have s3:=s2.wr w3 (by omega)) | refine QN rfl c3 ?_ | (refine Qm rfl (k45 _) ?_;rintro r h4 ⟨e4,rfl⟩;have s4:=s3.ext e4) | refine Xr rfl ?_ | refine Q0 rfl s4.c8 ?_ | refine YL rfl s4.c5.at rfl ?_ | (refine Y0 rfl rfl ?_) | (refine Qb0 s4.e s4.o rfl rfl (by rw [XD];simp only [YV];omega) ?_;intro s' h5 o5 e5 f5 l5;have d8:=s4.c8.fram f5 (s4.o.cel s4.c8)) | (refine Vb rfl rfl d8 ?_;intro h6 w6) | refine Qp rfl ?_ | refine XQ rfl ?_ | refine QK rfl rfl (by omega) ?_ | refine Qx rfl rfl (by omega) ?_ | refine XX rfl rfl (by omega) ?_ | refine XF rfl rfl ?_))
        have d4:=s4.c4.fram f5 (s4.o.cel s4.c4)
        have d5:=s4.c5.fram f5 (s4.o.cel s4.c5)
        have dS:IsD h5 (.slc id off n cap) ((smL f lo n).map wdP):=IsSl.away s4.sm f5 s4.ap
        have dA:=Fram.apart f5 s4.sm s4.ap
        have c5':Cel1 h6 q5 (.int .i64 lo):=by
          unfold Cel1 at d5 ⊢
          rw [w6.eq,List.getElem?_set_ne (fun e=>by
            subst e
            have:=s4.c5
            have c8':=s4.c8
            unfold Cel1 at this
            unfold Cel at c8'
            rw [c8'] at this
            simp at this)]
          exact d5
        refine Yd ⟨i+1,s',by omega,hsm2,⟨w6.ext e5 l8,w6.keep d4 n48,c5',w6.cel,?_,dS.wrC w6,dA⟩,rfl⟩ (by simp [cK,Env.keep,Env.get];omega)
        rw [fs2]
        have:=o5.wrC w6
        simpa [tms,tmP] using this
    · have e45:smV (f (lo+i))=0:=by unfold smV;rw [if_neg hb]
      rw [e45,decide_eq_false hb] at k45
      generalize hv2:f (lo+i)=v at *
      simp only [wd_P] at k45
      have n4:=st.c4.lt
      have n5:=(List.getElem?_eq_some_iff.1 st.c5).1
      have n8:=st.c8.lt
      have n0:=st.e.len
      repeat' (first | refine Qh ?_ | refine Qb ?_ | refine QF ?_ | refine Qt ?_ | refine Xg ?_ | refine Qn ?_ | refine Qs ?_ | refine Qf ?_ | ((refine Qg ?_);refine Qk rfl ?_) | ((refine Qe ?_);first | refine Qr rfl ?_ | refine Q7 rfl rfl rfl rfl rfl rfl rfl ?_ | refine Q5 rfl rfl rfl rfl rfl rfl rfl rfl ?_ | refine Q6 rfl rfl rfl rfl rfl rfl rfl rfl rfl ?_) | ((refine Qc ?_);first | refine QD (esz:=2) rfl rfl (by omega) ?_ | refine Yi rfl r0 ?_ | (refine Xm ?_;intro h2 e2 c2;have s2:=st.ext e2;have n2:=e2.len) | (refine Xu rfl rfl c2 ?_;intro h3 w3;have c3:=w3.cel;have s3:=s2.wr w3 (by omega)) | refine QN rfl c3 ?_ | (refine Qm rfl (k45 _) ?_;rintro r h4 ⟨e4,rfl⟩;have s4:=s3.ext e4) | (refine Y0 rfl rfl ?_) | (have c4:=s4.c4;refine Xu rfl rfl c4 ?_;intro h6 w6) | refine Qp rfl ?_ | refine XW rfl ?_ | refine Qx rfl rfl (by omega) ?_ | refine XF rfl rfl ?_))
      exact Jz (.inr ⟨rfl,fun h=>hb (by have:=h i hlt;rwa [hv2] at this),w6.ext s4.e l4,w6.cel,rfl⟩)
  · have:i=n:=by omega
    subst this
    repeat' (first | refine Qh ?_ | refine Qb ?_ | refine QP ?_ | refine QL ?_ | refine Qf ?_ | ((refine Qg ?_);refine Qj rfl ?_) | ((refine Qe ?_);refine Q7 rfl rfl rfl rfl rfl rfl rfl ?_) | ((refine Qc ?_);refine QH rfl rfl (by omega) ?_))
    exact Yo (.inl ⟨rfl,s,_,_,_,_,hsm,st,rfl⟩)
end Go.Proofs.YtofknpknogfijaaGreatDoor

