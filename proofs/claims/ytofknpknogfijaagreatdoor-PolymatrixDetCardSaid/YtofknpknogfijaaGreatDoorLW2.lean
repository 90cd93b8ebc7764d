/- The law's matrices: of laurent's polynomials,and of the reference's. -/
import Derived.Test.YtofknpknogfijaaGreatDoorLW3
import Derived.Test.YtofknpknogfijaaGreatDoorMN2
import Derived.Test.YtofknpknogfijaaGreatDoorAb50
namespace Go.Proofs.YtofknpknogfijaaGreatDoor
open Go.Ab
set_option linter.unusedVariables false
set_option linter.unusedSimpArgs false
set_option maxRecDepth 20000
set_option maxHeartbeats 4000000
attribute [local irreducible] Qj wA Xm Xk QI Qo QW QV
set_option linter.unusedSectionVars false
variable [HB]
def PE (e:Ent):Pol:=ofP e.1 e.2
theorem Qh8 (h0:Qa) (low:Int) (hlow : -9223372036854775808≤low∧low≤9223372036854775807) (c:SV) (xs:List Int) (hn:xs.length≤1000000) (hc:IsInts h0 c xs) (hw:∀ x∈xs,-9223372036854775808≤x∧x≤9223372036854775807) :
    ∃ r h',Cal FT HKt 20 [.sc (.int .i64 low),.sc c] h0 r h'∧Ext h0 h'∧∃ s,r=.agg [.bool (ofP low xs).big,s]∧OwnD h0 h' s (tms (ofP low xs).ts):=by
  refine Cal.of (F:=a20) rfl rfl rfl ?_
  have lc:=IsSl.len hc
  repeat' (first | refine Qg ?_ | refine Qb ?_ | refine Qt ?_ | refine Qf ?_ | ((refine Qe ?_);first | refine QB rfl rfl rfl ?_ | refine QS rfl rfl rfl rfl ?_ | refine QD rfl rfl rfl rfl rfl rfl ?_) | ((refine Qc ?_);first | (have z:=e1;refine Xz ?_;intro h2 e2 c2;have d1:=c1.ext e2) | (refine Xz ?_;intro h1 e1 c1) | refine Qu rfl lc ?_ | refine Qm rfl ?_))
  have n1:=e1.len
  have n2:=c1.lt
  refine Js (I20 h0 h0.length h1.length low c xs) (cK [0,4,5,8,9,10] xs.length 10) (R20 h0 h0.length h1.length low xs) ⟨0,[],.nilS,Nat.zero_le _,rfl,⟨e1.trans e2,d1,c2,.inl ⟨rfl,rfl⟩,Nat.le_refl _,n1,by omega⟩,rfl⟩ (Qcd h0 _ _ low hlow c xs hn hc hw) ?_
  rintro ex E' h3 (⟨rfl,r,s,a,b,c,d,e,hr,st,rfl⟩ | ⟨rfl,r,s,hr,st,rfl⟩)
  · have c5:=st.c5
    have c4:=st.c4
    repeat' (first | refine Qg ?_ | refine Qb ?_ | refine QC ?_ | refine Qv ?_ | refine Qf ?_ | ((refine Qe ?_);refine Qq rfl ?_) | ((refine Qc ?_);first | refine Xa rfl c5 ?_ | (refine Xw rfl rfl c4 ?_;intro h4 w4)))
    refine ⟨.inr rfl,XM rfl w4.cel.read ⟨w4.ext st.e st.l4,s,?_,?_⟩⟩
    · unfold ofP;rw [hr]
    · unfold ofP;rw [hr]
      exact st.o.wrC w4
  · repeat' (first | refine QL ?_ | refine Q9 ?_)
    refine ⟨.inr rfl,XM rfl st.c4.read ⟨st.e,.nilS,?_,?_⟩⟩
    · unfold ofP;rw [hr]
    · unfold ofP;rw [hr]
      exact .inl ⟨rfl,rfl⟩
theorem QcM (h0:Qa) (low:Int) (c:SV) (xs:List Int) (hs:Qbi low xs) (hc:IsInts h0 c xs):∃ r h',Cal FT HKt 27 [.sc (.int .i64 low),.sc c] h0 r h'∧Ext h0 h'∧∃ s,r=.agg [s,.bool (ofP low xs).big]∧OwnD h0 h' s (tms (ofP low xs).ts):=by
  refine Cal.of (F:=a27) rfl rfl rfl ?_
  repeat' (first | refine Qg ?_ | refine Qb ?_ | refine Qt ?_ | refine Qf ?_ | ((refine Qe ?_);first | refine QB rfl rfl rfl ?_ | refine QS rfl rfl rfl rfl ?_ | refine QO rfl rfl rfl rfl rfl ?_) | ((refine Qc ?_);first | (have z:=e1;refine Xz ?_;intro h2 e2 c2;have d1:=c1.ext e2;have m1:=c1.lt) | (refine Xz ?_;intro h1 e1 c1) | refine Qm rfl ?_))
  refine Js (I27 h0 h0.length h1.length low c xs) (cK [0,1,4,5,6] xs.length 6) (R27 h0 h0.length h1.length low xs) ⟨0,[],.nilS,Nat.zero_le _,rfl,⟨e1.trans e2,d1,c2,.inl ⟨rfl,rfl⟩,⟨Nat.le_refl _,m1⟩⟩,rfl⟩ (Qhk h0 h0.length h1.length low c xs hs hc) ?_
  rintro ex E' h3 (⟨rfl,r,s,_,_,_,_,hr,st,rfl⟩ | ⟨rfl,hr,e3,c4,rfl⟩)
  · have c4:=st.c4
    repeat' (first | refine Qg ?_ | refine Qb ?_ | refine QC ?_ | refine Qv ?_ | refine Qf ?_ | ((refine Qe ?_);refine Qq rfl ?_) | ((refine Qc ?_);first | refine Xa rfl st.c5 ?_ | (refine Xw rfl rfl c4 ?_;intro h4 w4)))
    refine ⟨.inr rfl,XM rfl w4.cel.read ⟨w4.ext st.e (Nat.le_refl _),s,?_,?_⟩⟩
    · unfold ofP;rw [hr]
    · unfold ofP;rw [hr]
      exact st.o.wrC w4
  · repeat' (first | refine QL ?_ | refine Q9 ?_)
    refine ⟨.inr rfl,XM rfl c4.read ⟨e3,.nilS,?_,?_⟩⟩
    · unfold ofP;rw [hr]
    · unfold ofP;rw [hr]
      exact .inl ⟨rfl,rfl⟩
theorem QiL (h0:Qa):OwnD h0 (h0++[.cells [] true 2]) (.slc h0.length 0 0 (some 0)) [] :=
  .inr ⟨h0.length,some 0,[],rfl,Nat.le_refl _,by simp,rfl,by simp [RoomD]⟩
def RowF (f:Pol→SV→P2) (h:Qa) (s:SV) (ps:List Pol):Prop:=∃ ss:List SV,ss.length=ps.length∧IsD h s (List.zipWith f ps ss)∧∀ (i:Nat) (p:Pol) (t:SV),ps[i]?=some p→ss[i]?=some t→IsD h t (tms p.ts)
def MxF (f:Pol→SV→P2) (h:Qa) (s:SV) (m:List (List Pol)):Prop:=∃ ss:List SV,ss.length=m.length∧IsSl h s 1 ss.length ss∧∀ (i:Nat) (t:SV) (r:List Pol),ss[i]?=some t→m[i]?=some r→RowF f h t r
def fL:Pol→SV→P2:=fun p t=>(SV.bool p.big,t)
def fR:Pol→SV→P2:=fun p t=>(t,SV.bool p.big)
theorem MxF.pol {h:Qa} {s:SV} {m:List (List Pol)} (e:MxF fL h s m):PolMx h s m:=e
theorem RowF.ext {f:Pol→SV→P2} {h h':Qa} {s:SV} {r:List Pol} (e:RowF f h s r) (x:Ext h h'):RowF f h' s r:=by
  obtain ⟨ss,h1,h2,h3⟩:=e
  exact ⟨ss,h1,h2.ext x,fun i t l a b=>(h3 i t l a b).ext x⟩
theorem MxF.ext {f:Pol→SV→P2} {h h':Qa} {s:SV} {m:List (List Pol)} (e:MxF f h s m) (x:Ext h h'):MxF f h' s m:=by
  obtain ⟨ss,h1,h2,h3⟩:=e
  exact ⟨ss,h1,h2.ext x,fun i t l a b=>(h3 i t l a b).ext x⟩
structure SRow (f:Pol→SV→P2) (hr h:Qa) (s:SV) (ps:List Pol):Prop where
  x:Ext hr h
  o:∃ ss:List SV,ss.length=ps.length∧OwnD hr h s (List.zipWith f ps ss)∧∀ (i:Nat) (p:Pol) (t:SV),ps[i]?=some p→ss[i]?=some t→IsD h t (tms p.ts)∧Apart s t
theorem OwnD.apart {h0 h h2:Qa} {s t:SV} {ps qs:List P2} (o:OwnD h0 h s ps) (q:OwnD h h2 t qs):Apart s t:=by
  intro j
  rcases Nat.lt_or_ge j h.length with hj | hj
  · exact .inr (q.not hj)
  · left
    rcases o with ⟨rfl,-⟩ | ⟨id,cap,bl,rfl,h1,h2',h3⟩
    · intro o n c e;cases e
    · intro o n c e;cases e
      have:=(List.getElem?_eq_some_iff.1 h2').1
      omega
theorem SRow.nil {f:Pol→SV→P2} {hr h:Qa} (x:Ext hr h) {s:SV} (o:OwnD hr h s []):SRow f hr h s []:=⟨x,[],rfl,o,fun i p t a b=>by simp at a⟩
theorem SRow.row {f:Pol→SV→P2} {hr h:Qa} {s:SV} {ps:List Pol} (a:SRow f hr h s ps):RowF f h s ps:=by
  obtain ⟨ss,h1,h2,h3⟩:=a.o
  exact ⟨ss,h1,h2.is,fun i p t x y=>(h3 i p t x y).1⟩
theorem SRow.push {f:Pol→SV→P2} {hr h h2 h3 h4:Qa} {s s' t:SV} {ps:List Pol} {p:Pol} {ss:List SV} (l:ss.length=ps.length) (o:OwnD hr h s (List.zipWith f ps ss)) (a:∀ (i:Nat) (p:Pol) (t:SV),ps[i]?=some p→ss[i]?=some t→IsD h t (tms p.ts)∧Apart s t)
    (e2:Ext h h2) (q:OwnD h h2 t (tms p.ts)) (e3:Ext h2 h3) (o4:OwnD hr h4 s' (List.zipWith f ps ss++[f p t])) (x4:Ext hr h4) (fr:Fram h3 h4 s s'):SRow f hr h4 s' (ps++[p]):=by
  refine ⟨x4,ss++[t],by simp [l],?_,fun i r u hi hu=>?_⟩
  · rw [List.zipWith_append l.symm];exact o4
  · rcases Nat.lt_or_ge i ps.length with h1 | h1
    · rw [List.getElem?_append_left h1] at hi
      rw [List.getElem?_append_left (by omega)] at hu
      obtain ⟨d,ap⟩:=a i r u hi hu
      have d3:=(d.ext e2).ext e3
      exact ⟨IsSl.away d3 fr ap,fr.apart d3 ap⟩
    · obtain rfl:i=ps.length:=by have:=(List.getElem?_eq_some_iff.1 hi).1;simp at this;omega
      rw [List.getElem?_append_right (Nat.le_refl _),Nat.sub_self] at hi
      rw [List.getElem?_append_right (by omega),l,Nat.sub_self] at hu
      simp at hi hu;subst hi;subst hu
      have d3:=q.is.ext e3
      have ap:=OwnD.apart o q
      exact ⟨IsSl.away d3 fr ap,fr.apart d3 ap⟩
structure SMx (f:Pol→SV→P2) (hb h:Qa) (s:SV) (m:List (List Pol)):Prop where
  x:Ext hb h
  o:∃ vs:List SV,vs.length=m.length∧Own hb h s vs∧∀ (i:Nat) (t:SV) (r:List Pol),vs[i]?=some t→m[i]?=some r→RowF f h t r
theorem SMx.ext {f:Pol→SV→P2} {hb h h':Qa} {s:SV} {m:List (List Pol)} (a:SMx f hb h s m) (e:Ext h h'):SMx f hb h' s m:=by
  obtain ⟨vs,h1,h2,h3⟩:=a.o
  exact ⟨a.x.trans e,vs,h1,h2.ext e,fun i t r x y=>(h3 i t r x y).ext e⟩
theorem SMx.mx {f:Pol→SV→P2} {hb h:Qa} {s:SV} {m:List (List Pol)} (a:SMx f hb h s m):MxF f h s m:=by
  obtain ⟨vs,h1,h2,h3⟩:=a.o
  exact ⟨vs,h1,h2.sl,h3⟩
theorem RowF.away {f:Pol→SV→P2} {hb h h':Qa} {s s' t:SV} {vs:List SV} {r:List Pol} (a:RowF f h t r) (o:Own hb h s vs) (fr:Fram h h' s s'):RowF f h' t r:=by
  obtain ⟨ss,h1,h2,h3⟩:=a
  exact ⟨ss,h1,IsSl.away h2 fr (Own.apD o h2),fun i p u x y=>IsSl.away (h3 i p u x y) fr (Own.apD o (h3 i p u x y))⟩
theorem SMx.push {f:Pol→SV→P2} {hb h h':Qa} {s s' t:SV} {m:List (List Pol)} {r:List Pol} {vs:List SV} (l:vs.length=m.length) (o:Own hb h s vs) (a:∀ (i:Nat) (t:SV) (r:List Pol),vs[i]?=some t→m[i]?=some r→RowF f h t r)
    (q:RowF f h t r) (o4:Own hb h' s' (vs++[t])) (x4:Ext hb h') (fr:Fram h h' s s'):SMx f hb h' s' (m++[r]):=by
  refine ⟨x4,vs++[t],by simp [l],o4,fun i u p hu hp=>?_⟩
  rcases Nat.lt_or_ge i m.length with h1 | h1
  · rw [List.getElem?_append_left (by omega)] at hu
    rw [List.getElem?_append_left h1] at hp
    exact (a i u p hu hp).away o fr
  · obtain rfl:i=m.length:=by have:=(List.getElem?_eq_some_iff.1 hp).1;simp at this;omega
    rw [List.getElem?_append_right (Nat.le_refl _),Nat.sub_self] at hp
    rw [List.getElem?_append_right (by omega),l,Nat.sub_self] at hu
    simp at hu hp;subst hu;subst hp
    exact q.away o fr
def I12e (r:List Ent) (ls a3:AV) (i:Nat) (hr:Qa) (k:Nat) (E:Env) (h:Qa):Prop:=∃ j s,j≤r.length∧k=r.length-j∧SRow fL hr h s ((r.take j).map PE) ∧
  E.keep [0,3,4,5,6]=[(0,some ls),(3,some a3),(4,some (.sc (.int .i64 (i:Nat)))),(5,some (.sc s)),(6,some (.sc (.int .i64 (j:Nat))))]
def R12e (r:List Ent) (ls a3:AV) (i:Nat) (hr:Qa) (ex:Ex) (E:Env) (h:Qa):Prop:=ex=.ex 2∧∃ s a b,SRow fL hr h s (r.map PE)∧E=[(0,some ls),(3,some a3),(4,some (.sc (.int .i64 (i:Nat)))),(5,some (.sc s)),(6,a),(21,b)]
theorem Qet (l:List (List Ent)) (r:List Ent) (id off:Nat) (cap:Option Nat) (rs:SV) (a3:AV) (i:Nat) (hr:Qa) (hi:i < l.length) (hl2:l.length≤1000) (hrl:r.length≤1000) (rd:QT hr id (off+i*1) 1=some [rs]) (er:ERow hr rs r) (ok:∀ e∈r,smE e) (k:Nat) (E:Env) (h:Qa) (hI:I12e r (.sc (.slc id off l.length cap)) a3 i hr k E h) :
    wA FT HKt Qjs (E.keep [0,3,4,5,6]) h (Qo (I12e r (.sc (.slc id off l.length cap)) a3 i hr) k (R12e r (.sc (.slc id off l.length cap)) a3 i hr)):=by
  obtain ⟨j,s,hj,rfl,sr,hE⟩:=hI
  rw [hE]
  have lr:=er.len
  have rd0:=QA sr.x rd
  by_cases hlt:j < r.length
  · obtain ⟨e,he⟩:∃ e,r[j]?=some e:=⟨_,List.getElem?_eq_getElem hlt⟩
    obtain ⟨id2,off2,cap2,t,es,rd2,dt⟩:=er.at he
    subst es
    have rd20:=QA sr.x rd2
    have rda:=(rd1 rd20).1
    have rdb:=(rd1 rd20).2
    obtain ⟨k1,k2,k3,k4⟩:=ok e (List.mem_of_getElem? he)
    have k20:=Qh8 h e.1 (by omega) t e.2 (by omega) (IsSl.ext dt sr.x) (fun x hx=>by have:=k4 x hx;omega)
    obtain ⟨ss,o1,o2,o3⟩:=sr.o
    have lz:(List.zipWith fL ((r.take j).map PE) ss).length≤1000:=by rw [List.length_zipWith,o1,Nat.min_self,List.length_map,List.length_take];omega
    repeat' (first | refine Qg ?_ | refine Qb ?_ | refine Qt ?_ | refine QG ?_ | refine Qp ?_ | refine Qf ?_ | refine Xb ?_ | refine Xq ?_ | refine Xr ?_ | ((refine Qh ?_);refine Qk rfl ?_) | ((refine Qe ?_);first | refine Xd ?_ | refine XI ?_ | refine QO rfl rfl rfl rfl rfl ?_ | refine QD rfl rfl rfl rfl rfl rfl ?_) | ((refine Qc ?_);first | (have z:=used;refine Qx (esz:=2) rfl rfl (by omega) ?_) | (refine Qx (esz:=1) rfl rfl (by omega) ?_) | (refine Q2 rfl rd0 ?_;have used:=True.intro) | refine Qu rfl lr ?_ | refine QQ rfl ?_ | refine Q2 rfl rda ?_ | refine Q2 rfl rdb ?_ | (refine Qn rfl k20 ?_;rintro v h1 ⟨e1,t1,rfl,q1⟩) | (refine JE rfl ?_;intro h3 e3 s3) | (refine ZK ((sr.x.trans e1).trans e3) ((o2.ext e1).ext e3) rfl rfl s3 (by unfold XQ;omega) ?_;intro s4 h4 o4 x4 fr4 l4) | refine Qm rfl ?_ | refine QM rfl rfl (by omega) ?_ | refine Qw rfl rfl (by omega) ?_))
    have sr4:SRow fL hr h4 s4 ((r.take (j+1)).map PE):=by
      rw [List.take_add_one,he,List.map_append]
      exact SRow.push o1 o2 o3 e1 q1 e3 o4 x4 fr4
    exact Qs (j:=r.length-(j+1)) (by omega) ⟨j+1,s4,by omega,rfl,sr4,rfl⟩
  · have:j=r.length:=by omega
    subst this
    rw [List.take_length] at sr
    repeat' (first | refine Qg ?_ | refine Qb ?_ | refine QK ?_ | refine QH ?_ | refine Qf ?_ | ((refine Qh ?_);refine Qi rfl ?_) | ((refine Qe ?_);refine QD rfl rfl rfl rfl rfl rfl ?_) | ((refine Qc ?_);first | (refine Qx (esz:=1) rfl rfl (by omega) ?_) | (refine Q2 rfl rd0 ?_) | refine Qu rfl lr ?_ | refine Qm rfl ?_ | refine QE rfl rfl (by omega) ?_))
    exact Qz ⟨rfl,s,_,_,sr,rfl⟩
def I12 (l:List (List Ent)) (ls:SV) (hb:Qa) (k:Nat) (E:Env) (h:Qa):Prop:=∃ i s,i≤l.length∧k=l.length-i∧SMx fL hb h s ((l.take i).map fun r=>r.map PE) ∧
  E.keep [0,3,4]=[(0,some (.sc ls)),(3,some (.sc s)),(4,some (.sc (.int .i64 (i:Nat))))]
def R12 (l:List (List Ent)) (hb:Qa) (ex:Ex) (E:Env) (h:Qa):Prop:=ex=.ex 0∧∃ s a b c,SMx fL hb h s (l.map fun r=>r.map PE)∧E=[(0,a),(3,some (.sc s)),(4,b),(11,c)]
theorem Qhq (l:List (List Ent)) (ls:SV) (hb:Qa) (hl:l.length≤1000) (em:EMx hb ls l) (ok:∀ r∈l,r.length≤1000∧∀ e∈r,smE e) (k:Nat) (E:Env) (h:Qa) (hI:I12 l ls hb k E h) :
    wA FT HKt Qjt (E.keep [0,3,4]) h (Qo (I12 l ls hb) k (R12 l hb)):=by
  obtain ⟨i,s,hi,rfl,sm,hE⟩:=hI
  rw [hE]
  have lm:=em.len
  by_cases hlt:i < l.length
  · obtain ⟨r,hr⟩:∃ r,l[i]?=some r:=⟨_,List.getElem?_eq_getElem hlt⟩
    obtain ⟨id,off,cap,rs,es,rd,er⟩:=em.at hr
    subst es
    have rd0:=QA sm.x rd
    obtain ⟨ok1,ok2⟩:=ok r (List.mem_of_getElem? hr)
    repeat' (first | refine Qg ?_ | refine Qb ?_ | refine Qt ?_ | refine Qp ?_ | refine Qf ?_ | ((refine Qh ?_);refine Qk rfl ?_) | ((refine Qe ?_);first | refine QS rfl rfl rfl rfl ?_ | refine QO rfl rfl rfl rfl rfl ?_) | ((refine Qc ?_);first | refine Qu rfl lm ?_ | refine Qm rfl ?_ | refine Qw rfl rfl (by omega) ?_ | refine X6 rfl rfl ?_))
    refine QP (I12e r (.sc (.slc id off l.length cap)) (.sc s) i h) r.length (R12e r (.sc (.slc id off l.length cap)) (.sc s) i h) ⟨0,_,Nat.zero_le _,rfl,SRow.nil ⟨_,rfl⟩ (QiL h),rfl⟩ (Qet l r id off cap rs (.sc s) i h hlt hl ok1 rd0 (er.ext sm.x) ok2) ?_
    rintro ex E' h2 ⟨rfl,s2,_,_,sr,rfl⟩
    have sm2:=sm.ext sr.x
    obtain ⟨vs,o1,o2,o3⟩:=sm2.o
    have lz:vs.length≤1000:=by rw [o1,List.length_map,List.length_take];omega
    repeat' (first | refine Qb ?_ | refine QG ?_ | refine QC ?_ | refine Qf ?_ | ((refine Qe ?_);refine QB rfl rfl rfl ?_) | ((refine Qc ?_);first | (refine VH rfl ?_;intro h3 e3 s3) | (refine U0 (ws:=[s2]) (sm2.x.trans e3) (o2.ext e3) rfl rfl s3 (by simp only [List.length_cons,List.length_nil];unfold XQ;omega) ?_;intro s5 h5 o5 x5 l5 fr5) | refine Qm rfl ?_ | refine QM rfl rfl (by omega) ?_))
    have sm5:SMx fL hb h5 s5 ((l.take (i+1)).map fun r=>r.map PE):=by
      rw [List.take_add_one,hr,List.map_append]
      exact SMx.push o1 (o2.ext e3) (fun i t r x y=>(o3 i t r x y).ext e3) (sr.row.ext e3) o5 x5 fr5
    exact Qs (j:=l.length-(i+1)) (by omega) ⟨i+1,s5,by omega,rfl,sm5,rfl⟩
  · have:i=l.length:=by omega
    subst this
    rw [List.take_length] at sm
    repeat' (first | refine Qg ?_ | refine Qb ?_ | refine QK ?_ | refine QH ?_ | refine Qf ?_ | ((refine Qh ?_);refine Qi rfl ?_) | ((refine Qe ?_);refine QS rfl rfl rfl rfl ?_) | ((refine Qc ?_);first | refine Qu rfl lm ?_ | refine Qm rfl ?_ | refine QE rfl rfl (by omega) ?_))
    exact Qz ⟨rfl,s,_,_,_,sm,rfl⟩
theorem Qlr (h0:Qa) (l:List (List Ent)) (ls:SV) (hl:l.length≤1000) (em:EMx h0 ls l) (ok:∀ r∈l,r.length≤1000∧∀ e∈r,smE e):∃ r h',Cal FT HKt 12 [.sc ls] h0 r h'∧(Ext h0 h'∧∃ s,r=.sc s∧SMx fL h0 h' s (l.map fun r=>r.map PE)):=by
  refine Cal.of (F:=a12) rfl rfl rfl ?_
  repeat' (first | refine Qg ?_ | refine Qb ?_ | refine Qt ?_ | refine Qf ?_ | ((refine Qe ?_);first | refine Qq rfl ?_ | refine Qy rfl rfl ?_ | refine QB rfl rfl rfl ?_) | ((refine Qc ?_);first | refine Qm rfl ?_ | refine X6 rfl rfl ?_))
  refine QP (I12 l ls h0) l.length (R12 l h0) ⟨0,_,Nat.zero_le _,rfl,⟨⟨_,rfl⟩,[],rfl,Own.lit0 h0,fun i t r a=>by simp at a⟩,rfl⟩ (Qhq l ls h0 hl em ok) ?_
  rintro ex E' h2 ⟨rfl,s2,_,_,_,sm,rfl⟩
  repeat' (first | refine Qg ?_ | refine Qb ?_ | refine QC ?_ | refine Qv ?_ | refine Qf ?_ | ((refine Qe ?_);refine Qq rfl ?_) | ((refine Qc ?_);refine Qm rfl ?_))
  exact ⟨.inr rfl,sm.x,s2,rfl,sm⟩
def I18e (r:List Ent) (ls a3:AV) (i:Nat) (hr:Qa) (k:Nat) (E:Env) (h:Qa):Prop:=∃ j s,j≤r.length∧k=r.length-j∧SRow fR hr h s ((r.take j).map PE) ∧
  E.keep [0,3,4,5,6]=[(0,some ls),(3,some a3),(4,some (.sc (.int .i64 (i:Nat)))),(5,some (.sc s)),(6,some (.sc (.int .i64 (j:Nat))))]
def R18e (r:List Ent) (ls a3:AV) (i:Nat) (hr:Qa) (ex:Ex) (E:Env) (h:Qa):Prop:=ex=.ex 2∧∃ s a b,SRow fR hr h s (r.map PE)∧E=[(0,some ls),(3,some a3),(4,some (.sc (.int .i64 (i:Nat)))),(5,some (.sc s)),(6,a),(21,b)]
theorem Qep (l:List (List Ent)) (r:List Ent) (id off:Nat) (cap:Option Nat) (rs:SV) (a3:AV) (i:Nat) (hr:Qa) (hi:i < l.length) (hl2:l.length≤1000) (hrl:r.length≤1000) (rd:QT hr id (off+i*1) 1=some [rs]) (er:ERow hr rs r) (ok:∀ e∈r,smE e) (k:Nat) (E:Env) (h:Qa) (hI:I18e r (.sc (.slc id off l.length cap)) a3 i hr k E h) :
    wA FT HKt Qjn (E.keep [0,3,4,5,6]) h (Qo (I18e r (.sc (.slc id off l.length cap)) a3 i hr) k (R18e r (.sc (.slc id off l.length cap)) a3 i hr)):=by
  obtain ⟨j,s,hj,rfl,sr,hE⟩:=hI
  rw [hE]
  have lr:=er.len
  have rd0:=QA sr.x rd
  by_cases hlt:j < r.length
  · obtain ⟨e,he⟩:∃ e,r[j]?=some e:=⟨_,List.getElem?_eq_getElem hlt⟩
    obtain ⟨id2,off2,cap2,t,es,rd2,dt⟩:=er.at he
    subst es
    have rd20:=QA sr.x rd2
    have rda:=(rd1 rd20).1
    have rdb:=(rd1 rd20).2
    obtain ⟨k1,k2,k3,k4⟩:=ok e (List.mem_of_getElem? he)
    have k20:=QcM h e.1 t e.2 ⟨by omega,by omega,by omega,fun x hx=>by have:=k4 x hx;unfold smC;omega⟩ (IsSl.ext dt sr.x)
    obtain ⟨ss,o1,o2,o3⟩:=sr.o
    have lz:(List.zipWith fR ((r.take j).map PE) ss).length≤1000:=by rw [List.length_zipWith,o1,Nat.min_self,List.length_map,List.length_take];omega
    repeat' (first | refine Qg ?_ | refine Qb ?_ | refine Qt ?_ | refine QG ?_ | refine Qp ?_ | refine Qf ?_ | refine Xb ?_ | refine Xq ?_ | refine Xr ?_ | ((refine Qh ?_);refine Qk rfl ?_) | ((refine Qe ?_);first | refine Xd ?_ | refine XI ?_ | refine QO rfl rfl rfl rfl rfl ?_ | refine QD rfl rfl rfl rfl rfl rfl ?_) | ((refine Qc ?_);first | (have z:=used;refine Qx (esz:=2) rfl rfl (by omega) ?_) | (refine Qx (esz:=1) rfl rfl (by omega) ?_) | (refine Q2 rfl rd0 ?_;have used:=True.intro) | refine Qu rfl lr ?_ | refine QQ rfl ?_ | refine Q2 rfl rda ?_ | refine Q2 rfl rdb ?_ | (refine Qn rfl k20 ?_;rintro v h1 ⟨e1,t1,rfl,q1⟩) | (refine JE rfl ?_;intro h3 e3 s3) | (refine ZK ((sr.x.trans e1).trans e3) ((o2.ext e1).ext e3) rfl rfl s3 (by unfold XQ;omega) ?_;intro s4 h4 o4 x4 fr4 l4) | refine Qm rfl ?_ | refine QM rfl rfl (by omega) ?_ | refine Qw rfl rfl (by omega) ?_))
    have sr4:SRow fR hr h4 s4 ((r.take (j+1)).map PE):=by
      rw [List.take_add_one,he,List.map_append]
      exact SRow.push o1 o2 o3 e1 q1 e3 o4 x4 fr4
    exact Qs (j:=r.length-(j+1)) (by omega) ⟨j+1,s4,by omega,rfl,sr4,rfl⟩
  · have:j=r.length:=by omega
    subst this
    rw [List.take_length] at sr
    repeat' (first | refine Qg ?_ | refine Qb ?_ | refine QK ?_ | refine QH ?_ | refine Qf ?_ | ((refine Qh ?_);refine Qi rfl ?_) | ((refine Qe ?_);refine QD rfl rfl rfl rfl rfl rfl ?_) | ((refine Qc ?_);first | (refine Qx (esz:=1) rfl rfl (by omega) ?_) | (refine Q2 rfl rd0 ?_) | refine Qu rfl lr ?_ | refine Qm rfl ?_ | refine QE rfl rfl (by omega) ?_))
    exact Qz ⟨rfl,s,_,_,sr,rfl⟩
def I18 (l:List (List Ent)) (ls:SV) (hb:Qa) (k:Nat) (E:Env) (h:Qa):Prop:=∃ i s,i≤l.length∧k=l.length-i∧SMx fR hb h s ((l.take i).map fun r=>r.map PE) ∧
  E.keep [0,3,4]=[(0,some (.sc ls)),(3,some (.sc s)),(4,some (.sc (.int .i64 (i:Nat))))]
def R18 (l:List (List Ent)) (hb:Qa) (ex:Ex) (E:Env) (h:Qa):Prop:=ex=.ex 0∧∃ s a b c,SMx fR hb h s (l.map fun r=>r.map PE)∧E=[(0,a),(3,some (.sc s)),(4,b),(11,c)]
theorem Qhm (l:List (List Ent)) (ls:SV) (hb:Qa) (hl:l.length≤1000) (em:EMx hb ls l) (ok:∀ r∈l,r.length≤1000∧∀ e∈r,smE e) (k:Nat) (E:Env) (h:Qa) (hI:I18 l ls hb k E h) :
    wA FT HKt Qjo (E.keep [0,3,4]) h (Qo (I18 l ls hb) k (R18 l hb)):=by
  obtain ⟨i,s,hi,rfl,sm,hE⟩:=hI
  rw [hE]
  have lm:=em.len
  by_cases hlt:i < l.length
  · obtain ⟨r,hr⟩:∃ r,l[i]?=some r:=⟨_,List.getElem?_eq_getElem hlt⟩
    obtain ⟨id,off,cap,rs,es,rd,er⟩:=em.at hr
    subst es
    have rd0:=QA sm.x rd
    obtain ⟨ok1,ok2⟩:=ok r (List.mem_of_getElem? hr)
    repeat' (first | refine Qg ?_ | refine Qb ?_ | refine Qt ?_ | refine Qp ?_ | refine Qf ?_ | ((refine Qh ?_);refine Qk rfl ?_) | ((refine Qe ?_);first | refine QS rfl rfl rfl rfl ?_ | refine QO rfl rfl rfl rfl rfl ?_) | ((refine Qc ?_);first | refine Qu rfl lm ?_ | refine Qm rfl ?_ | refine Qw rfl rfl (by omega) ?_ | refine X6 rfl rfl ?_))
    refine QP (I18e r (.sc (.slc id off l.length cap)) (.sc s) i h) r.length (R18e r (.sc (.slc id off l.length cap)) (.sc s) i h) ⟨0,_,Nat.zero_le _,rfl,SRow.nil ⟨_,rfl⟩ (QiL h),rfl⟩ (Qep l r id off cap rs (.sc s) i h hlt hl ok1 rd0 (er.ext sm.x) ok2) ?_
    rintro ex E' h2 ⟨rfl,s2,_,_,sr,rfl⟩
    have sm2:=sm.ext sr.x
    obtain ⟨vs,o1,o2,o3⟩:=sm2.o
    have lz:vs.length≤1000:=by rw [o1,List.length_map,List.length_take];omega
    repeat' (first | refine Qb ?_ | refine QG ?_ | refine QC ?_ | refine Qf ?_ | ((refine Qe ?_);refine QB rfl rfl rfl ?_) | ((refine Qc ?_);first | (refine VH rfl ?_;intro h3 e3 s3) | (refine U0 (ws:=[s2]) (sm2.x.trans e3) (o2.ext e3) rfl rfl s3 (by simp only [List.length_cons,List.length_nil];unfold XQ;omega) ?_;intro s5 h5 o5 x5 l5 fr5) | refine Qm rfl ?_ | refine QM rfl rfl (by omega) ?_))
    have sm5:SMx fR hb h5 s5 ((l.take (i+1)).map fun r=>r.map PE):=by
      rw [List.take_add_one,hr,List.map_append]
      exact SMx.push o1 (o2.ext e3) (fun i t r x y=>(o3 i t r x y).ext e3) (sr.row.ext e3) o5 x5 fr5
    exact Qs (j:=l.length-(i+1)) (by omega) ⟨i+1,s5,by omega,rfl,sm5,rfl⟩
  · have:i=l.length:=by omega
    subst this
    rw [List.take_length] at sm
    repeat' (first | refine Qg ?_ | refine Qb ?_ | refine QK ?_ | refine QH ?_ | refine Qf ?_ | ((refine Qh ?_);refine Qi rfl ?_) | ((refine Qe ?_);refine QS rfl rfl rfl rfl ?_) | ((refine Qc ?_);first | refine Qu rfl lm ?_ | refine Qm rfl ?_ | refine QE rfl rfl (by omega) ?_))
    exact Qz ⟨rfl,s,_,_,_,sm,rfl⟩
theorem Qln (h0:Qa) (l:List (List Ent)) (ls:SV) (hl:l.length≤1000) (em:EMx h0 ls l) (ok:∀ r∈l,r.length≤1000∧∀ e∈r,smE e):∃ r h',Cal FT HKt 18 [.sc ls] h0 r h'∧(Ext h0 h'∧∃ s,r=.sc s∧SMx fR h0 h' s (l.map fun r=>r.map PE)):=by
  refine Cal.of (F:=a18) rfl rfl rfl ?_
  repeat' (first | refine Qg ?_ | refine Qb ?_ | refine Qt ?_ | refine Qf ?_ | ((refine Qe ?_);first | refine Qq rfl ?_ | refine Qy rfl rfl ?_ | refine QB rfl rfl rfl ?_) | ((refine Qc ?_);first | refine Qm rfl ?_ | refine X6 rfl rfl ?_))
  refine QP (I18 l ls h0) l.length (R18 l h0) ⟨0,_,Nat.zero_le _,rfl,⟨⟨_,rfl⟩,[],rfl,Own.lit0 h0,fun i t r a=>by simp at a⟩,rfl⟩ (Qhm l ls h0 hl em ok) ?_
  rintro ex E' h2 ⟨rfl,s2,_,_,_,sm,rfl⟩
  repeat' (first | refine Qg ?_ | refine Qb ?_ | refine QC ?_ | refine Qv ?_ | refine Qf ?_ | ((refine Qe ?_);refine Qq rfl ?_) | ((refine Qc ?_);refine Qm rfl ?_))
  exact ⟨.inr rfl,sm.x,s2,rfl,sm⟩
end Go.Proofs.YtofknpknogfijaaGreatDoor
