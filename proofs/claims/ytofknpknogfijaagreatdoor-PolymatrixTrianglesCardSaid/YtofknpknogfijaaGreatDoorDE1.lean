/- The contract of interpolated. -/
import Derived.Test.YtofknpknogfijaaGreatDoorIN2
import Derived.Test.YtofknpknogfijaaGreatDoorAb50
import Derived.Test.YtofknpknogfijaaGreatDoorMN2
import Derived.Test.YtofknpknogfijaaGreatDoorPE
import Derived.Test.YtofknpknogfijaaGreatDoorPY
namespace Go.Proofs.YtofknpknogfijaaGreatDoor
open Go.Ab
set_option linter.unusedVariables false
set_option linter.unusedSimpArgs false
set_option maxRecDepth 20000
set_option maxHeartbeats 4000000
attribute [local irreducible] Qi wA Xk Xj Qz Qo QS QV
set_option linter.unusedSectionVars false
variable [HB]
theorem cop12:Nat.Coprime p1 p2:=by decide +kernel
theorem Qiq {a b:Int} (h1:Cg p1 a b) (h2:Cg p2 a b):Cg (p1*p2) a b:=by
  unfold Cg at *
  have k1:p1 ∣ (a-b).natAbs:=by have:=Int.natAbs_dvd_natAbs.2 h1;simpa using this
  have k2:p2 ∣ (a-b).natAbs:=by have:=Int.natAbs_dvd_natAbs.2 h2;simpa using this
  have k3:p1*p2 ∣ (a-b).natAbs:=Nat.Coprime.mul_dvd_of_dvd_of_dvd cop12 k1 k2
  exact Int.natAbs_dvd_natAbs.1 (by rw [Int.natAbs_natCast];exact k3)
def cnt (T:Nat):Nat:=(max T 50+1) / 60+1
theorem QeN {T:Nat} (h:T≤118):1≤cnt T∧cnt T≤2:=by unfold cnt;omega
theorem uniq {T:Nat} (hT:T≤118) {z d:Int} (hz:z.natAbs≤cM) (hd:d.natAbs≤2 ^ T) (h:∀ x∈Yr (cnt T),Cg x.1 z d):z=d:=by
  have hc:=QeN hT
  have hcM:cM=1125899906842624:=rfl
  by_cases h1:cnt T=1
  · have hT58:T≤58:=by unfold cnt at h1;omega
    have hp:(2:Nat) ^ T≤2 ^ 58:=Nat.pow_le_pow_right (by decide) hT58
    have e58:(2:Nat) ^ 58=288230376151711744:=by decide
    have e1:p1=2305843009211596801:=rfl
    have:=h (p1,r1) (by unfold Yr;rw [if_pos h1];simp)
    exact Cg.eq this (by simp only;omega)
  · have hp:(2:Nat) ^ T≤2 ^ 118:=Nat.pow_le_pow_right (by decide) hT
    have e118:(2:Nat) ^ 118=332306998946228968225951765070086144:=by decide
    have e12:p1*p2=5316911983126365312211161035202625537:=by decide
    have k1:=h (p1,r1) (by unfold Yr;rw [if_neg h1];simp)
    have k2:=h (p2,r2) (by unfold Yr;rw [if_neg h1];simp)
    exact Cg.eq (Qiq k1 k2) (by rw [e12];omega)
theorem Qjv (n deg b:Nat) (d:Nat→Int) (h0:Qa) (esl:SV) (es:List (List (List Tm))) (hdeg:deg≤65536) (hn:n≤1000) (hb:b≤60∧b*n≤118) (ee:Ents h0 esl es) (he:es.length=n)
    (tok:∀ r∈es,r.length=n∧∀ l∈r,l.length≤1000000∧∀ m∈l,0≤m.1∧m.1≤100000∧m.2.natAbs≤cM) (hw:∀ r∈es,0 < XU r∧XU r < 2 ^ b)
    (hD:∀ x:Int,D (es.map (evR x)) (List.range' 0 n)=sm (deg+1) fun j=>d j*x ^ j) (hdb:∀ j,(d j).natAbs≤(es.map XU).foldr (·*·) 1) :
    ∃ r h',Cal FT HKt 77 [.sc esl,.sc (.int .i64 (deg:Nat))] h0 r h'∧Ext h0 h' ∧
      ((∃ s,r=.tup [.sc s,.sc (.bool true)]∧IsInts h' s ((List.range (deg+1)).map d)∧∀ j,j≤deg→(d j).natAbs≤cM)∨(r=.tup [.sc .nilS,.sc (.bool false)]∧∃ j,j≤deg∧cM < (d j).natAbs)):=by
  refine Cal.of (F:=a77) rfl rfl rfl ?_
  have k107:=fun H (e:Ext h0 H)=>Qg3 b es esl H hb.1 (by omega) (fun r hr=>⟨by have:=(tok r hr).1;omega,fun l hl=>((tok r hr).2 l hl).1,hw r hr⟩) (ee.ext e)
  repeat' (first | refine Qh ?_ | refine Qb ?_ | refine Qt ?_ | refine Qf ?_ | ((refine Qe ?_);first | refine Qv rfl rfl ?_ | refine Qy rfl rfl rfl ?_ | refine QQ rfl rfl rfl rfl ?_ | refine QM rfl rfl rfl rfl rfl rfl ?_) | ((refine Qc ?_);first | (refine Qm rfl (k107 _ (Ext.refl _)) ?_;rintro v h1 ⟨e1,T,rfl,wt⟩;have hT:T≤118:=Nat.le_trans wt.2 (by rw [he];exact hb.2);have hc:=QeN hT;have ec:(max (T:Int) 50+1) / 60+1=((cnt T:Nat):Int):=(by unfold cnt;omega)) | (refine Qm rfl (Qjr _ (cnt T) hc) ?_;rintro v h2 ⟨e2,fs,rfl,ofs⟩;have lf:=OwnD.len' ofs) | (refine Zz rfl rfl (by omega) ?_) | (refine QK rfl rfl (by omega) ?_;rw [ec]) | refine QA rfl lf ?_ | refine Qp rfl ?_ | refine QK rfl rfl (by omega) ?_ | refine Zh rfl rfl ?_))
  refine Q2 (I77 (cnt T) (deg+1) d esl fs h2) (Yr (cnt T)).length (R77 (cnt T) (deg+1) d h2) ⟨0,.nilS,Nat.zero_le _,rfl,Ext.refl _,.inl ⟨rfl,rfl⟩,rfl⟩
    (Qgc (cnt T) (deg+1) n d esl fs es h2 (by omega) (by omega) (ee.ext (e1.trans e2)) he tok hD ofs.is) ?_
  rintro ex E' h3 ⟨x3,⟨rfl,cs,st,_,_,_,_,_,rfl⟩ | ⟨rfl,⟨j,hj,hlt⟩,rfl⟩⟩
  · rcases st with ⟨h0',-⟩ | ⟨-,cid,zs,rfl,bz,hzl,hzc,hzg⟩
    · exfalso
      have:(Yr (cnt T)).length≠0:=by unfold Yr;split <;> simp
      exact this h0'
    have key:∀ j,j < deg+1→zs.getD j 0=d j:=fun j hj=>by
      refine uniq hT ?_ (Nat.le_trans (hdb j) wt.1) fun x hx=>?_
      · rw [List.getD_eq_getElem?_getD,List.getElem?_eq_getElem (by omega)];exact hzc _ (List.getElem_mem _)
      · obtain ⟨m,hm⟩:=List.mem_iff_getElem?.1 hx
        exact hzg m x (List.getElem?_eq_some_iff.1 hm).1 hm j hj
    have ezs:zs=(List.range (deg+1)).map d:=by
      apply List.ext_getElem?
      intro j
      rw [List.getElem?_map]
      rcases Nat.lt_or_ge j (deg+1) with h | h
      · rw [List.getElem?_range h,Option.map_some,← key j h,List.getD_eq_getElem?_getD,List.getElem?_eq_getElem (by omega)];rfl
      · rw [List.getElem?_eq_none (by omega),List.getElem?_eq_none (by simpa using h)];rfl
    have ic:IsInts h3 (.slc cid 0 (deg+1) (some (deg+1))) zs:=by have:=bz.ints (c:=some (deg+1));rwa [hzl] at this
    repeat' (first | refine Qh ?_ | refine Qb ?_ | refine QE ?_ | refine Qs ?_ | refine Qf ?_ | ((refine Qe ?_);refine Qv rfl rfl ?_) | ((refine Qc ?_);refine Qp rfl ?_))
    refine ⟨.inr rfl,(e1.trans e2).trans x3,.inl ⟨_,rfl,by rw [← ezs];exact ic,fun j hj=>?_⟩⟩
    rw [← key j (by omega),List.getD_eq_getElem?_getD,List.getElem?_eq_getElem (by omega)]
    exact hzc _ (List.getElem_mem _)
  · repeat' (first | refine QF ?_ | refine Xg ?_)
    exact ⟨.inr rfl,(e1.trans e2).trans x3,.inr ⟨rfl,j,by omega,hlt⟩⟩
end Go.Proofs.YtofknpknogfijaaGreatDoor


namespace Go.Proofs.YtofknpknogfijaaGreatDoor
open Go.Ab
set_option linter.unusedVariables false
set_option linter.unusedSimpArgs false
set_option maxRecDepth 20000
set_option maxHeartbeats 4000000
attribute [local irreducible] Qi wA Xk Xj Qz Qo QS QV
set_option linter.unusedSectionVars false
variable [HB]
def Zr (ts:List Tm) (e:Int):List Tm:=ts.filter fun t=>decide (t.1 < e)
theorem Qdd {ts:List Tm} {e:Int} (h:∀ t∈ts,t.1 < e):Zr ts e=ts:=List.filter_eq_self.2 fun t ht=>by simpa using h t ht
theorem Qbb {ts:List Tm} {e:Int} (h:∀ t∈ts,e≤t.1):Zr ts e=[]:=List.filter_eq_nil_iff.2 fun t ht=>by simpa using h t ht
theorem Qba {ts:List Tm} {e:Int} (h:∀ t∈ts,t.1≠e):Zr ts (e+1)=Zr ts e:=List.filter_congr fun t ht=>by
  have:=h t ht
  simp only [decide_eq_decide];omega
theorem z7:∀ {ts:List Tm} {t:Tm},ts.Pairwise (fun x y=>x.1 < y.1)→t∈ts→Zr ts (t.1+1)=Zr ts t.1++[t]
  | u::r,t,h,ht=>by
    obtain ⟨h1,h2⟩:=List.pairwise_cons.1 h
    rcases List.mem_cons.1 ht with rfl | ht
    · unfold Zr
      rw [List.filter_cons_of_pos (by simp;omega),List.filter_cons_of_neg (by simp)]
      have e1:r.filter (fun t_1=>decide (t_1.1 < t.1+1))=[]:=List.filter_eq_nil_iff.2 fun y hy=>by have:=h1 y hy;simp;omega
      have e2:r.filter (fun t_1=>decide (t_1.1 < t.1))=[]:=List.filter_eq_nil_iff.2 fun y hy=>by have:=h1 y hy;simp;omega
      rw [e1,e2];rfl
    · have:=h1 t ht
      have ih:=z7 h2 ht
      unfold Zr at ih ⊢
      rw [List.filter_cons_of_pos (by simp;omega),List.filter_cons_of_pos (by simp;omega),ih];rfl
def shL (low:Int) (l:List Tm):List Tm:=l.map fun t=>(t.1-low,t.2)
def I65 (q2:Nat) (low:Int) (ts:List Tm) (hb:Qa) (m:Nat) (E:Env) (h:Qa):Prop:=∃ (e:Int) (s:SV),lo0 ts≤e∧e≤hi0 ts+1∧m=(hi0 ts+1-e).toNat∧Ext hb h∧OwnD hb h s (tms (shL low (Zr ts e))) ∧
  E.keep [1,2,5,6]=[(1,some (.sc (.int .i64 low))),(2,some (.sc (.ptr q2 0))),(5,some (.sc s)),(6,some (.sc (.int .i64 e)))]
def R65 (low:Int) (ts:List Tm) (hb:Qa) (ex:Ex) (E:Env) (h:Qa):Prop:=ex=.ex 0∧Ext hb h∧∃ s,OwnD hb h s (tms (shL low ts))∧∃ a b c d,E=[(1,a),(2,b),(5,some (.sc s)),(6,c),(13,d)]
theorem Qdc {ts:List Tm} {e:Int}:(Zr ts e).length≤ts.length:=List.length_filter_le _ _
theorem Qge (q2:Nat) (low:Int) (b:Bool) (sp:SV) (ts:List Tm) (hb:Qa) (hlow:low.natAbs≤10000000) (c2:Cel hb q2 (.bool b) sp) (dp:IsD hb sp (tms ts)) (ca:Can ts) (hl:ts.length≤100000) (he:∀ t∈ts,t.1.natAbs≤10000000) (hlh:lo0 ts≤hi0 ts+1∧(lo0 ts).natAbs≤10000000∧(hi0 ts).natAbs≤10000000) (m:Nat) (E:Env) (h:Qa) (hI:I65 q2 low ts hb m E h) :
    wA FT HKt QhM (E.keep [1,2,5,6]) h (Qo (I65 q2 low ts hb) m (R65 low ts hb)):=by
  obtain ⟨e,s,he1,he2,rfl,x,o,hE⟩:=hI
  rw [hE]
  have k54:=fun H (y:Ext hb H)=>Vo H b sp ts (dp.ext y) (by omega)
  have k62:=fun H (y:Ext hb H)=>Qjy H b sp ts e (dp.ext y) ca (by omega)
  have c2h:=fun H (y:Ext hb H)=>c2.ext y
  by_cases hlt:e≤hi0 ts
  · by_cases hz:cf ts e=0
    · have sk:Zr ts (e+1)=Zr ts e:=Qba fun t ht heq=>by
        have:=JP ca ht
        rw [heq,hz] at this
        exact ca.nz t ht this.symm
      rw [hz] at k62
      have x0:=x
      repeat' (first | refine Qh ?_ | refine Qb ?_ | refine Qt ?_ | refine QC ?_ | refine Qn ?_ | refine Qf ?_ | ((refine Qg ?_);first | refine Qk rfl ?_ | refine Qj rfl ?_) | ((refine Qe ?_);first | refine QQ rfl rfl rfl rfl ?_ | refine QU rfl rfl rfl rfl rfl ?_ | refine QM rfl rfl rfl rfl rfl rfl ?_) | ((refine Qc ?_);first | refine QN rfl (c2h _ x0) ?_ | (refine Qm rfl (k54 _ x0) ?_;rintro v h1 ⟨e1,rfl⟩;replace x0:=x0.trans e1;replace o:=o.ext e1) | (refine Qm rfl (k62 _ x0) ?_;rintro v h2 ⟨e2,rfl⟩;replace x0:=x0.trans e2;replace o:=o.ext e2) | refine Qp rfl ?_ | refine QK rfl rfl (by omega) ?_ | refine YM rfl rfl (by omega) ?_ | refine XJ rfl rfl (by omega) ?_))
      exact Qu (j:=(hi0 ts+1-(e+1)).toNat) (by omega) ⟨e+1,s,by omega,by omega,rfl,x0,by rw [sk];exact o,rfl⟩
    · obtain ⟨t,ht,hte⟩:=QhE hz
      have hcf:=JP ca ht
      rw [hte] at hcf
      have st:=z7 ca.asc ht
      rw [hte] at st
      have nx:tms (shL low (Zr ts e))++[(SV.int .i64 (e-low),SV.int .i64 (cf ts e))]=tms (shL low (Zr ts (e+1))):=by
        rw [st,hcf]
        simp [shL,tmP,hte]
      have lb:=Qdc (ts:=ts) (e:=e)
      have ll:(tms (shL low (Zr ts e))).length≤100000:=by rw [XD];unfold shL;rw [List.length_map];omega
      generalize cf ts e=v0 at *
      have x0:=x
      repeat' (first | refine Qh ?_ | refine Qb ?_ | refine Qt ?_ | refine QC ?_ | refine Qn ?_ | refine Qf ?_ | ((refine Qg ?_);refine Qk rfl ?_) | ((refine Qe ?_);first | refine QQ rfl rfl rfl rfl ?_ | refine QU rfl rfl rfl rfl rfl ?_ | refine QM rfl rfl rfl rfl rfl rfl ?_) | ((refine Qc ?_);first | refine QN rfl (c2h _ x0) ?_ | (refine Qm rfl (k54 _ x0) ?_;rintro v h1 ⟨e1,rfl⟩;replace x0:=x0.trans e1;replace o:=o.ext e1) | (refine Qm rfl (k62 _ x0) ?_;rintro v h2 ⟨e2,rfl⟩;replace x0:=x0.trans e2;replace o:=o.ext e2) | refine XX rfl rfl (by omega) ?_ | refine Y0 rfl rfl ?_ | (refine zU rfl ?_;intro h4 x4 s4) | (refine qW (x0.trans x4) (o.ext x4) rfl rfl s4 (by unfold YV;omega) ?_;intro s5 h5 o5 x5 fr5 l5) | refine Qp rfl ?_ | refine QK rfl rfl (by omega) ?_ | refine YY rfl rfl (by omega) ?_ | refine YM rfl rfl (by omega) ?_))
      exact Qu (j:=(hi0 ts+1-(e+1)).toNat) (by omega) ⟨e+1,s5,by omega,by omega,rfl,x5,by rw [← nx];exact o5,rfl⟩
  · have:e=hi0 ts+1:=by omega
    subst this
    have x0:=x
    repeat' (first | refine Qh ?_ | refine Qb ?_ | refine QP ?_ | refine QL ?_ | refine Qf ?_ | ((refine Qg ?_);refine Qj rfl ?_) | ((refine Qe ?_);refine QU rfl rfl rfl rfl rfl ?_) | ((refine Qc ?_);first | refine QN rfl (c2h _ x0) ?_ | (refine Qm rfl (k54 _ x0) ?_;rintro v h1 ⟨e1,rfl⟩;replace x0:=x0.trans e1;replace o:=o.ext e1) | refine Qp rfl ?_ | refine YD rfl rfl (by omega) ?_))
    rw [Qdd fun t ht=>by have:=yt ca t ht;omega] at o
    exact QG ⟨rfl,x0,s,o,_,_,_,_,rfl⟩
theorem OwnD.older {h0 hb h:Qa} {s:SV} {ps:List P2} (o:OwnD hb h s ps) (x:Ext h0 hb):OwnD h0 h s ps:=by
  rcases o with o | ⟨id,cap,bl,h1,h2,h3⟩
  · exact .inl o
  · exact .inr ⟨id,cap,bl,h1,Nat.le_trans x.len h2,h3⟩
theorem lo_hi {ts:List Tm} (ca:Can ts):lo0 ts≤hi0 ts:=by
  by_cases h:ts=[]
  · subst h;exact Int.le_refl _
  · obtain ⟨t,ht,e⟩:=JW h
    rw [← e];exact yt ca t ht
theorem Qjx (h0:Qa) (b:Bool) (sp:SV) (ts:List Tm) (low:Int) (hlow:low.natAbs≤10000000) (dp:IsD h0 sp (tms ts)) (ca:Can ts) (hl:ts.length≤100000) (he:∀ t∈ts,t.1.natAbs≤10000000) :
    ∃ r h',Cal FT HKt 65 [.agg [.bool b,sp],.sc (.int .i64 low)] h0 r h'∧Ext h0 h'∧∃ s,r=.sc s∧OwnD h0 h' s (tms (shL low ts)):=by
  refine Cal.of (F:=a65) rfl rfl rfl ?_
  have k53:=fun H (y:Ext h0 H)=>Vp H b sp ts (dp.ext y)
  have hlh:lo0 ts≤hi0 ts+1∧(lo0 ts).natAbs≤10000000∧(hi0 ts).natAbs≤10000000:=by
    have:=lo_hi ca
    by_cases h:ts=[]
    · subst h;simp [lo0,hi0]
    · obtain ⟨t,ht,e⟩:=JW h
      obtain ⟨u,hu,e2⟩:=JX h
      have:=he t ht
      have:=he u hu
      omega
  repeat' (first | refine Qh ?_ | refine Qb ?_ | refine Qt ?_ | refine Qf ?_ | ((refine Qe ?_);first | refine Qv rfl rfl ?_ | refine Qy rfl rfl rfl ?_ | refine QQ rfl rfl rfl rfl ?_) | ((refine Qc ?_);first | (refine QR rfl ?_;intro h1 e1 c1) | refine QN rfl c1 ?_ | (refine Qm rfl (k53 _ e1) ?_;rintro v h2 ⟨e2,rfl⟩) | refine Qp rfl ?_))
  have e0:Zr ts (lo0 ts)=[]:=Qbb fun t ht=>zQ ca t ht
  refine Q2 (I65 h0.length low ts h2) (hi0 ts+1-lo0 ts).toNat (R65 low ts h2) ⟨lo0 ts,.nilS,Int.le_refl _,hlh.1,rfl,Ext.refl _,by rw [e0];exact .inl ⟨rfl,rfl⟩,rfl⟩
    (Qge h0.length low b sp ts h2 hlow (c1.ext e2) ((dp.ext e1).ext e2) ca hl he hlh) ?_
  rintro ex E' h3 ⟨rfl,x3,s3,o3,_,_,_,_,rfl⟩
  repeat' (first | refine Qh ?_ | refine Qb ?_ | refine QE ?_ | refine Qs ?_ | refine Qf ?_ | ((refine Qe ?_);refine Qr rfl ?_) | ((refine Qc ?_);refine Qp rfl ?_))
  exact ⟨.inr rfl,(e1.trans e2).trans x3,s3,rfl,OwnD.older o3 (e1.trans e2)⟩
end Go.Proofs.YtofknpknogfijaaGreatDoor



namespace Go.Proofs.YtofknpknogfijaaGreatDoor
open Go.Ab
set_option linter.unusedVariables false
set_option linter.unusedSimpArgs false
set_option maxRecDepth 20000
set_option maxHeartbeats 4000000
attribute [local irreducible] Qi wA Xk Xj Qz Qo QS QV
set_option linter.unusedSectionVars false
variable [HB]
def PolRow (h:Qa) (s:SV) (ps:List Pol):Prop:=∃ ss:List SV,ss.length=ps.length∧IsD h s (List.zipWith (fun (p:Pol) t=>(SV.bool p.big,t)) ps ss)∧∀ (i:Nat) (p:Pol) (t:SV),ps[i]?=some p→ss[i]?=some t→IsD h t (tms p.ts)
def PolMx (h:Qa) (s:SV) (m:List (List Pol)):Prop:=∃ ss:List SV,ss.length=m.length∧IsSl h s 1 ss.length ss∧∀ (i:Nat) (t:SV) (r:List Pol),ss[i]?=some t→m[i]?=some r→PolRow h t r
theorem PolRow.ext {h h':Qa} {s:SV} {r:List Pol} (e:PolRow h s r) (x:Ext h h'):PolRow h' s r:=by
  obtain ⟨ss,h1,h2,h3⟩:=e
  exact ⟨ss,h1,h2.ext x,fun i t l a b=>(h3 i t l a b).ext x⟩
theorem PolMx.ext {h h':Qa} {s:SV} {m:List (List Pol)} (e:PolMx h s m) (x:Ext h h'):PolMx h' s m:=by
  obtain ⟨ss,h1,h2,h3⟩:=e
  exact ⟨ss,h1,h2.ext x,fun i t l a b=>(h3 i t l a b).ext x⟩
theorem PolRow.len {h:Qa} {s:SV} {r:List Pol} (e:PolRow h s r):Yq false s=some (r.length:Int):=by
  obtain ⟨ss,h1,h2,-⟩:=e
  have:=h2.len
  rwa [List.length_zipWith,h1,Nat.min_self] at this
theorem PolMx.len {h:Qa} {s:SV} {m:List (List Pol)} (e:PolMx h s m):Yq false s=some (m.length:Int):=by
  obtain ⟨ss,h1,h2,-⟩:=e
  rw [← h1];exact IsSl.len h2
theorem PolRow.at {h:Qa} {s:SV} {r:List Pol} (e:PolRow h s r) {i:Nat} {p:Pol} (hi:r[i]?=some p):∃ id off cap t,s=.slc id off r.length cap∧QX h id (off+i*2) 2=some [.bool p.big,t]∧IsD h t (tms p.ts):=by
  obtain ⟨ss,h1,h2,h3⟩:=e
  have hl:=(List.getElem?_eq_some_iff.1 hi).1
  obtain ⟨t,ht⟩:∃ t,ss[i]?=some t:=⟨_,List.getElem?_eq_getElem (by omega)⟩
  obtain ⟨id,off,cap,e1,rd⟩:=h2.at (i:=i) (p:=(SV.bool p.big,t)) (by rw [List.getElem?_zipWith,hi,ht])
  rw [List.length_zipWith,h1,Nat.min_self] at e1
  exact ⟨id,off,cap,t,e1,rd,h3 i p t hi ht⟩
theorem PolMx.at {h:Qa} {s:SV} {m:List (List Pol)} (e:PolMx h s m) {i:Nat} {r:List Pol} (hi:m[i]?=some r):∃ id off cap t,s=.slc id off m.length cap∧QX h id (off+i*1) 1=some [t]∧PolRow h t r:=by
  obtain ⟨ss,h1,h2,h3⟩:=e
  have hl:=(List.getElem?_eq_some_iff.1 hi).1
  obtain ⟨t,ht⟩:∃ t,ss[i]?=some t:=⟨_,List.getElem?_eq_getElem (by omega)⟩
  obtain ⟨id,off,cap,e1,rd⟩:=h2.at ht
  rw [h1] at e1
  exact ⟨id,off,cap,t,e1,rd,h3 i t r ht hi⟩
def yi (st:Option (Int × Int)) (p:Pol):Option (Int × Int):=if p.ts=[] then st else match st with
  | none=>some (lo0 p.ts,hi0 p.ts)
  | some (a,b)=>some (min a (lo0 p.ts),max b (hi0 p.ts))
def Y2 (r:List Pol):Option (Int × Int):=r.foldl yi none
def Qg8:Option (Int × Int)→Int
  | none=>0
  | some x=>x.1
def Qg7:Option (Int × Int)→Int
  | none=>0
  | some x=>x.2
theorem Qdb {r:List Pol} {i:Nat} {p:Pol} (h:r[i]?=some p):Y2 (r.take (i+1))=yi (Y2 (r.take i)) p:=by
  unfold Y2
  rw [List.take_add_one,h,List.foldl_append];rfl
def I40b (r:List Pol) (rs:SV) (a0 a2 a4 a5 a6 a7 a24 a25 a26:AV) (hb:Qa) (m:Nat) (E:Env) (h:Qa):Prop:=∃ i,i≤r.length∧m=r.length-i∧Ext hb h ∧
  E.keep [0,2,4,5,6,7,8,9,10,11,24,25,26,31,32,33]=[(0,some a0),(2,some a2),(4,some a4),(5,some a5),(6,some a6),(7,some a7),(8,some (.sc rs)),(9,some (.sc (.int .i64 (Qg8 (Y2 (r.take i)))))),(10,some (.sc (.int .i64 (Qg7 (Y2 (r.take i)))))),(11,some (.sc (.bool (Y2 (r.take i)).isSome))),(24,some a24),(25,some a25),(26,some a26),(31,some (.sc rs)),(32,some (.sc (.int .i64 (r.length:Nat)))),(33,some (.sc (.int .i64 (i:Nat))))]
def R40b (r:List Pol) (rs:SV) (a0 a2 a4 a5 a6 a7 a24 a25 a26:AV) (hb:Qa) (ex:Ex) (E:Env) (h:Qa):Prop:=ex=.ex 2∧Ext hb h ∧
  ∃ a b c d,E=[(0,some a0),(2,some a2),(4,some a4),(5,some a5),(6,some a6),(7,some a7),(8,some (.sc rs)),(9,some (.sc (.int .i64 (Qg8 (Y2 r))))),(10,some (.sc (.int .i64 (Qg7 (Y2 r))))),(11,some (.sc (.bool (Y2 r).isSome))),(24,some a24),(25,some a25),(26,some a26),(31,a),(32,b),(33,c),(34,d)]
theorem QdI (r:List Pol) (rs:SV) (a0 a2 a4 a5 a6 a7 a24 a25 a26:AV) (hb:Qa) (pr:PolRow hb rs r) (hl:r.length≤1000000) (ok:∀ p∈r,p.big=false∧p.ts.length≤100000) (m:Nat) (E:Env) (h:Qa) (hI:I40b r rs a0 a2 a4 a5 a6 a7 a24 a25 a26 hb m E h) :
    wA FT HKt QhS (E.keep [0,2,4,5,6,7,8,9,10,11,24,25,26,31,32,33]) h (Qo (I40b r rs a0 a2 a4 a5 a6 a7 a24 a25 a26 hb) m (R40b r rs a0 a2 a4 a5 a6 a7 a24 a25 a26 hb)):=by
  obtain ⟨i,hi,rfl,x,hE⟩:=hI
  rw [hE]
  by_cases hlt:i < r.length
  · obtain ⟨p,hp⟩:∃ p,r[i]?=some p:=⟨_,List.getElem?_eq_getElem hlt⟩
    obtain ⟨id,off,cap,t,es,rd,dt⟩:=pr.at hp
    subst es
    obtain ⟨hbig,hlen⟩:=ok p (List.mem_of_getElem? hp)
    rw [hbig] at rd
    have rd0:=QO x rd
    have st:=Qdb hp
    have k14:=fun H (y:Ext hb H)=>QjM H false t p.ts (dt.ext y)
    have k53:=fun H (y:Ext hb H)=>Vp H false t p.ts (dt.ext y)
    have k54:=fun H (y:Ext hb H)=>Vo H false t p.ts (dt.ext y) (by omega)
    have x0:=x
    by_cases hz:p.ts=[]
    · have st2:Y2 (r.take (i+1))=Y2 (r.take i):=by rw [st];unfold yi;rw [if_pos hz]
      simp only [hz,decide_true,Bool.not_false,Bool.and_true] at k14
      generalize Y2 (r.take i)=B at *
      repeat' (first | refine Qh ?_ | refine Qb ?_ | refine Qt ?_ | refine QC ?_ | refine Qn ?_ | refine Qf ?_ | ((refine Qg ?_);refine Qk rfl ?_) | ((refine Qe ?_);first | refine XK rfl rfl rfl rfl rfl rfl rfl rfl rfl rfl rfl rfl rfl rfl rfl rfl ?_ | refine XZ rfl rfl rfl rfl rfl rfl rfl rfl rfl rfl rfl rfl rfl rfl rfl rfl rfl ?_ | refine X5 rfl rfl rfl rfl rfl rfl rfl rfl rfl rfl rfl rfl rfl rfl rfl rfl rfl rfl ?_) | ((refine Qc ?_);first | refine QD (esz:=2) rfl rfl (by omega) ?_ | refine Yi rfl rd0 ?_ | (refine J5 rfl ?_;intro h1 e1 c13;replace x0:=x0.trans e1) | refine QN rfl c13 ?_ | (refine Qm rfl (k14 _ x0) ?_;rintro v h2 ⟨e2,rfl⟩;replace x0:=x0.trans e2) | refine Qp rfl ?_ | refine QK rfl rfl (by omega) ?_ | refine Qx rfl rfl (by omega) ?_))
      exact Qu (j:=r.length-(i+1)) (by omega) ⟨i+1,by omega,rfl,x0,by rw [st2];rfl⟩
    · simp only [hz,decide_false,Bool.and_false] at k14
      cases hB:Y2 (r.take i) with
      | none =>
        have st2:Y2 (r.take (i+1))=some (lo0 p.ts,hi0 p.ts):=by rw [st,hB];unfold yi;rw [if_neg hz]
        have c13':=True.intro
        repeat' (first | refine Qh ?_ | refine Qb ?_ | refine Qt ?_ | refine QC ?_ | refine Qn ?_ | refine Qf ?_ | refine Q9 ?_ | refine Xs ?_ | refine Xt ?_ | ((refine Qg ?_);first | refine Qk rfl ?_ | refine Qj rfl ?_) | ((refine Qe ?_);first | refine Xb ?_ | refine XP ?_ | refine Xi (by assumption) ?_ | refine XK rfl rfl rfl rfl rfl rfl rfl rfl rfl rfl rfl rfl rfl rfl rfl rfl ?_ | refine XZ rfl rfl rfl rfl rfl rfl rfl rfl rfl rfl rfl rfl rfl rfl rfl rfl rfl ?_ | refine X5 rfl rfl rfl rfl rfl rfl rfl rfl rfl rfl rfl rfl rfl rfl rfl rfl rfl rfl ?_) | ((refine Qc ?_);first | refine QD (esz:=2) rfl rfl (by omega) ?_ | refine Yi rfl rd0 ?_ | (refine J5 rfl ?_;intro h1 e1 c13;replace x0:=x0.trans e1) | refine QN rfl c13 ?_ | (refine Qm rfl (k14 _ x0) ?_;rintro v h2 ⟨e2,rfl⟩;replace x0:=x0.trans e2;replace c13:=c13.ext e2) | (refine Qm rfl (k53 _ x0) ?_;rintro v h2 ⟨e2,rfl⟩;replace x0:=x0.trans e2;replace c13:=c13.ext e2) | (refine Qm rfl (k54 _ x0) ?_;rintro v h2 ⟨e2,rfl⟩;replace x0:=x0.trans e2;replace c13:=c13.ext e2) | refine Qp rfl ?_ | refine XW rfl ?_ | refine QK rfl rfl (by omega) ?_ | refine Qx rfl rfl (by omega) ?_))
        exact Qu (j:=r.length-(i+1)) (by omega) ⟨i+1,by omega,rfl,x0,by rw [st2];rfl⟩
      | some B =>
        obtain ⟨a,b⟩:=B
        have st2:Y2 (r.take (i+1))=some (min a (lo0 p.ts),max b (hi0 p.ts)):=by rw [st,hB];unfold yi;rw [if_neg hz]
        repeat' (first | refine Qh ?_ | refine Qb ?_ | refine Qt ?_ | refine QC ?_ | refine Qn ?_ | refine Qf ?_ | refine Q9 ?_ | refine Xs ?_ | refine Xt ?_ | ((refine Qg ?_);first | refine Qk rfl ?_ | refine Qj rfl ?_) | ((refine Qe ?_);first | refine Xb ?_ | refine XP ?_ | refine Xi (by assumption) ?_ | refine XK rfl rfl rfl rfl rfl rfl rfl rfl rfl rfl rfl rfl rfl rfl rfl rfl ?_ | refine XZ rfl rfl rfl rfl rfl rfl rfl rfl rfl rfl rfl rfl rfl rfl rfl rfl rfl ?_ | refine X5 rfl rfl rfl rfl rfl rfl rfl rfl rfl rfl rfl rfl rfl rfl rfl rfl rfl rfl ?_) | ((refine Qc ?_);first | refine QD (esz:=2) rfl rfl (by omega) ?_ | refine Yi rfl rd0 ?_ | (refine J5 rfl ?_;intro h1 e1 c13;replace x0:=x0.trans e1) | refine QN rfl c13 ?_ | (refine Qm rfl (k14 _ x0) ?_;rintro v h2 ⟨e2,rfl⟩;replace x0:=x0.trans e2;replace c13:=c13.ext e2) | (refine Qm rfl (k53 _ x0) ?_;rintro v h2 ⟨e2,rfl⟩;replace x0:=x0.trans e2;replace c13:=c13.ext e2) | (refine Qm rfl (k54 _ x0) ?_;rintro v h2 ⟨e2,rfl⟩;replace x0:=x0.trans e2;replace c13:=c13.ext e2) | refine Qp rfl ?_ | refine XQ rfl ?_ | refine QK rfl rfl (by omega) ?_ | refine Zh rfl rfl ?_ | refine ZA rfl rfl ?_ | refine Qx rfl rfl (by omega) ?_))
        exact Qu (j:=r.length-(i+1)) (by omega) ⟨i+1,by omega,rfl,x0,by rw [st2];rfl⟩
  · have:i=r.length:=by omega
    subst this
    repeat' (first | refine Qh ?_ | refine Qb ?_ | refine QP ?_ | refine QL ?_ | refine Qf ?_ | ((refine Qg ?_);refine Qj rfl ?_) | ((refine Qe ?_);refine XZ rfl rfl rfl rfl rfl rfl rfl rfl rfl rfl rfl rfl rfl rfl rfl rfl rfl ?_) | ((refine Qc ?_);refine QH rfl rfl (by omega) ?_))
    rw [List.take_length]
    exact QG ⟨rfl,x,_,_,_,_,rfl⟩
end Go.Proofs.YtofknpknogfijaaGreatDoor

