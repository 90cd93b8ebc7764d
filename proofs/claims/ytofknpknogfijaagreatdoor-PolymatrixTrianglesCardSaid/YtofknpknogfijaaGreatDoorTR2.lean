/- The law's matrices: of laurent's polynomials,and of the reference's. -/
import Derived.Test.YtofknpknogfijaaGreatDoorAR
import Derived.Test.YtofknpknogfijaaGreatDoorMN2
import Derived.Test.YtofknpknogfijaaGreatDoorAb50
import Derived.Test.YtofknpknogfijaaGreatDoorPD1
namespace Go.Proofs.YtofknpknogfijaaGreatDoor
open Go.Ab
set_option linter.unusedVariables false
set_option linter.unusedSimpArgs false
set_option maxRecDepth 20000
set_option maxHeartbeats 4000000
attribute [local irreducible] Qi wA Xk Xj Qz Qo QS QV
set_option linter.unusedSectionVars false
variable [HB]
def PE (e:Ent):Pol:=ofP e.1 e.2
theorem Vr (h0:Qa) (low:Int) (hlow : -9223372036854775808≤low∧low≤9223372036854775807) (c:SV) (xs:List Int) (hn:xs.length≤1000000) (hc:IsInts h0 c xs) (hw:∀ x∈xs,-9223372036854775808≤x∧x≤9223372036854775807) :
    ∃ r h',Cal FT HKt 20 [.sc (.int .i64 low),.sc c] h0 r h'∧Ext h0 h'∧∃ s,r=.agg [.bool (ofP low xs).big,s]∧OwnD h0 h' s (tms (ofP low xs).ts):=by
  refine Cal.of (F:=a20) rfl rfl rfl ?_
  have lc:=IsSl.len hc
  repeat' (first | refine Qh ?_ | refine Qb ?_ | refine Qt ?_ | refine Qf ?_ | ((refine Qe ?_);first | refine Qy rfl rfl rfl ?_ | refine QQ rfl rfl rfl rfl ?_ | refine QM rfl rfl rfl rfl rfl rfl ?_) | ((refine Qc ?_);first | (have z:=e1;refine Xm ?_;intro h2 e2 c2;have d1:=c1.ext e2) | (refine Xm ?_;intro h1 e1 c1) | refine QA rfl lc ?_ | refine Qp rfl ?_))
  have n1:=e1.len
  have n2:=c1.lt
  refine Z9 (I20 h0 h0.length h1.length low c xs) (cK [0,4,5,8,9,10] xs.length 10) (R20 h0 h0.length h1.length low xs) ⟨0,[],.nilS,Nat.zero_le _,rfl,⟨e1.trans e2,d1,c2,.inl ⟨rfl,rfl⟩,Nat.le_refl _,n1,by omega⟩,rfl⟩ (QbB h0 _ _ low hlow c xs hn hc hw) ?_
  rintro ex E' h3 (⟨rfl,r,s,a,b,c,d,e,hr,st,rfl⟩ | ⟨rfl,r,s,hr,st,rfl⟩)
  · have c5:=st.c5
    have c4:=st.c4
    repeat' (first | refine Qh ?_ | refine Qb ?_ | refine QE ?_ | refine Qs ?_ | refine Qf ?_ | ((refine Qe ?_);refine Qr rfl ?_) | ((refine Qc ?_);first | refine QN rfl c5 ?_ | (refine Xu rfl rfl c4 ?_;intro h4 w4)))
    refine ⟨.inr rfl,X1 rfl w4.cel.read ⟨w4.ext st.e st.l4,s,?_,?_⟩⟩
    · unfold ofP;rw [hr]
    · unfold ofP;rw [hr]
      exact st.o.wrC w4
  · repeat' (first | refine QF ?_ | refine Xg ?_)
    refine ⟨.inr rfl,X1 rfl st.c4.read ⟨st.e,.nilS,?_,?_⟩⟩
    · unfold ofP;rw [hr]
    · unfold ofP;rw [hr]
      exact .inl ⟨rfl,rfl⟩
theorem Qht (h0:Qa):OwnD h0 (h0++[.cells [] true 2]) (.slc h0.length 0 0 (some 0)) [] :=
  .inr ⟨h0.length,some 0,[],rfl,Nat.le_refl _,by simp,rfl,by simp [RoomD]⟩
def RowF (f:Pol→SV→P2) (h:Qa) (s:SV) (ps:List Pol):Prop:=∃ ss:List SV,ss.length=ps.length∧IsD h s (List.zipWith f ps ss)∧∀ (i:Nat) (p:Pol) (t:SV),ps[i]?=some p→ss[i]?=some t→IsD h t (tms p.ts)
def MxF (f:Pol→SV→P2) (h:Qa) (s:SV) (m:List (List Pol)):Prop:=∃ ss:List SV,ss.length=m.length∧IsSl h s 1 ss.length ss∧∀ (i:Nat) (t:SV) (r:List Pol),ss[i]?=some t→m[i]?=some r→RowF f h t r
def fL:Pol→SV→P2:=fun p t=>(SV.bool p.big,t)
def fR:Pol→SV→P2:=fun p t=>(t,SV.bool p.big)
theorem MxF.pol {h:Qa} {s:SV} {m:List (List Pol)} (e:MxF fL h s m):PolMx h s m:=e
theorem RowF.ext {f:Pol→SV→P2} {h h':Qa} {s:SV} {r:List Pol} (e:RowF f h s r) (x:Ext h h'):RowF f h' s r:=by
  obtain ⟨ss,h1,h2,h3⟩:=e
  exact ⟨ss,h1,h2.ext x,fun i t l a b=>(h3 i t l a b).ext x⟩
structure SRow (f:Pol→SV→P2) (hr h:Qa) (s:SV) (ps:List Pol):Prop where
  x:Ext hr h
  o:∃ ss:List SV,ss.length=ps.length∧OwnD hr h s (List.zipWith f ps ss)∧∀ (i:Nat) (p:Pol) (t:SV),ps[i]?=some p→ss[i]?=some t→IsD h t (tms p.ts)∧Apart s t
theorem OwnD.apart {h0 h h2:Qa} {s t:SV} {ps qs:List P2} (o:OwnD h0 h s ps) (q:OwnD h h2 t qs):Apart s t:=by
  intro j
  rcases Nat.lt_or_ge j h.length with hj | hj
  · exact .inr (q.not hj)
  · left
    rcases o with ⟨rfl,-⟩ | ⟨id,cap,bl,rfl,h1,h2',h3⟩
    · intro o n c e;cases e
    · intro o n c e;cases e
      have:=(List.getElem?_eq_some_iff.1 h2').1
      omega
theorem SRow.nil {f:Pol→SV→P2} {hr h:Qa} (x:Ext hr h) {s:SV} (o:OwnD hr h s []):SRow f hr h s []:=⟨x,[],rfl,o,fun i p t a b=>by simp at a⟩
structure SMx (f:Pol→SV→P2) (hb h:Qa) (s:SV) (m:List (List Pol)):Prop where
  x:Ext hb h
  o:∃ vs:List SV,vs.length=m.length∧Own hb h s vs∧∀ (i:Nat) (t:SV) (r:List Pol),vs[i]?=some t→m[i]?=some r→RowF f h t r
theorem SMx.mx {f:Pol→SV→P2} {hb h:Qa} {s:SV} {m:List (List Pol)} (a:SMx f hb h s m):MxF f h s m:=by
  obtain ⟨vs,h1,h2,h3⟩:=a.o
  exact ⟨vs,h1,h2.sl,h3⟩
theorem RowF.away {f:Pol→SV→P2} {hb h h':Qa} {s s' t:SV} {vs:List SV} {r:List Pol} (a:RowF f h t r) (o:Own hb h s vs) (fr:Fram h h' s s'):RowF f h' t r:=by
  obtain ⟨ss,h1,h2,h3⟩:=a
  exact ⟨ss,h1,IsSl.away h2 fr (Own.apD o h2),fun i p u x y=>IsSl.away (h3 i p u x y) fr (Own.apD o (h3 i p u x y))⟩
theorem SMx.push {f:Pol→SV→P2} {hb h h':Qa} {s s' t:SV} {m:List (List Pol)} {r:List Pol} {vs:List SV} (l:vs.length=m.length) (o:Own hb h s vs) (a:∀ (i:Nat) (t:SV) (r:List Pol),vs[i]?=some t→m[i]?=some r→RowF f h t r)
    (q:RowF f h t r) (o4:Own hb h' s' (vs++[t])) (x4:Ext hb h') (fr:Fram h h' s s'):SMx f hb h' s' (m++[r]):=by
  refine ⟨x4,vs++[t],by simp [l],o4,fun i u p hu hp=>?_⟩
  rcases Nat.lt_or_ge i m.length with h1 | h1
  · rw [List.getElem?_append_left (by omega)] at hu
    rw [List.getElem?_append_left h1] at hp
    exact (a i u p hu hp).away o fr
  · obtain rfl:i=m.length:=by have:=(List.getElem?_eq_some_iff.1 hp).1;simp at this;omega
    rw [List.getElem?_append_right (Nat.le_refl _),Nat.sub_self] at hp
    rw [List.getElem?_append_right (by omega),l,Nat.sub_self] at hu
    simp at hu hp;subst hu;subst hp
    exact q.away o fr
def I12e (r:List Ent) (ls a3:AV) (i:Nat) (hr:Qa) (k:Nat) (E:Env) (h:Qa):Prop:=∃ j s,j≤r.length∧k=r.length-j∧SRow fL hr h s ((r.take j).map PE) ∧
  E.keep [0,3,4,5,6]=[(0,some ls),(3,some a3),(4,some (.sc (.int .i64 (i:Nat)))),(5,some (.sc s)),(6,some (.sc (.int .i64 (j:Nat))))]
def R12e (r:List Ent) (ls a3:AV) (i:Nat) (hr:Qa) (ex:Ex) (E:Env) (h:Qa):Prop:=ex=.ex 2∧∃ s a b,SRow fL hr h s (r.map PE)∧E=[(0,some ls),(3,some a3),(4,some (.sc (.int .i64 (i:Nat)))),(5,some (.sc s)),(6,a),(21,b)]
def I12 (l:List (List Ent)) (ls:SV) (hb:Qa) (k:Nat) (E:Env) (h:Qa):Prop:=∃ i s,i≤l.length∧k=l.length-i∧SMx fL hb h s ((l.take i).map fun r=>r.map PE) ∧
  E.keep [0,3,4]=[(0,some (.sc ls)),(3,some (.sc s)),(4,some (.sc (.int .i64 (i:Nat))))]
def R12 (l:List (List Ent)) (hb:Qa) (ex:Ex) (E:Env) (h:Qa):Prop:=ex=.ex 0∧∃ s a b c,SMx fL hb h s (l.map fun r=>r.map PE)∧E=[(0,a),(3,some (.sc s)),(4,b),(11,c)]
def I18e (r:List Ent) (ls a3:AV) (i:Nat) (hr:Qa) (k:Nat) (E:Env) (h:Qa):Prop:=∃ j s,j≤r.length∧k=r.length-j∧SRow fR hr h s ((r.take j).map PE) ∧
  E.keep [0,3,4,5,6]=[(0,some ls),(3,some a3),(4,some (.sc (.int .i64 (i:Nat)))),(5,some (.sc s)),(6,some (.sc (.int .i64 (j:Nat))))]
def R18e (r:List Ent) (ls a3:AV) (i:Nat) (hr:Qa) (ex:Ex) (E:Env) (h:Qa):Prop:=ex=.ex 2∧∃ s a b,SRow fR hr h s (r.map PE)∧E=[(0,some ls),(3,some a3),(4,some (.sc (.int .i64 (i:Nat)))),(5,some (.sc s)),(6,a),(21,b)]
def I18 (l:List (List Ent)) (ls:SV) (hb:Qa) (k:Nat) (E:Env) (h:Qa):Prop:=∃ i s,i≤l.length∧k=l.length-i∧SMx fR hb h s ((l.take i).map fun r=>r.map PE) ∧
  E.keep [0,3,4]=[(0,some (.sc ls)),(3,some (.sc s)),(4,some (.sc (.int .i64 (i:Nat))))]
def R18 (l:List (List Ent)) (hb:Qa) (ex:Ex) (E:Env) (h:Qa):Prop:=ex=.ex 0∧∃ s a b c,SMx fR hb h s (l.map fun r=>r.map PE)∧E=[(0,a),(3,some (.sc s)),(4,b),(11,c)]
end Go.Proofs.YtofknpknogfijaaGreatDoor


namespace Go.Proofs.YtofknpknogfijaaGreatDoor
open Go.Ab
set_option linter.unusedVariables false
set_option linter.unusedSimpArgs false
set_option maxRecDepth 20000
set_option maxHeartbeats 4000000
attribute [local irreducible] Qi wA Xk Xj Qz Qo QS QV
set_option linter.unusedSectionVars false
variable [HB]
theorem OwnD.apartO {h0 h:Qa} {s t:SV} {ps qs:List P2} (o:OwnD h0 h s ps) (q:IsD h0 t qs):Apart s t:=by
  intro j
  rcases Nat.lt_or_ge j h0.length with hj | hj
  · exact .inl (o.not hj)
  · right
    rcases q with ⟨rfl,-⟩ | ⟨id,off,cap,b,rfl,h1,-⟩
    · intro o n c e;cases e
    · intro o n c e;cases e
      have:=(List.getElem?_eq_some_iff.1 h1).1
      omega
theorem RowF.at {f:Pol→SV→P2} {h:Qa} {s:SV} {r:List Pol} (e:RowF f h s r) {i:Nat} {p:Pol} (hi:r[i]?=some p):∃ id off cap t,s=.slc id off r.length cap∧QX h id (off+i*2) 2=some [(f p t).1,(f p t).2]∧IsD h t (tms p.ts):=by
  obtain ⟨ss,h1,h2,h3⟩:=e
  have hl:=(List.getElem?_eq_some_iff.1 hi).1
  obtain ⟨t,ht⟩:∃ t,ss[i]?=some t:=⟨_,List.getElem?_eq_getElem (by omega)⟩
  obtain ⟨id,off,cap,e1,rd⟩:=h2.at (i:=i) (p:=f p t) (by rw [List.getElem?_zipWith,hi,ht])
  rw [List.length_zipWith,h1,Nat.min_self] at e1
  exact ⟨id,off,cap,t,e1,rd,h3 i p t hi ht⟩
theorem MxF.at {f:Pol→SV→P2} {h:Qa} {s:SV} {m:List (List Pol)} (e:MxF f h s m) {i:Nat} {r:List Pol} (hi:m[i]?=some r):∃ id off cap t,s=.slc id off m.length cap∧QX h id (off+i*1) 1=some [t]∧RowF f h t r:=by
  obtain ⟨ss,h1,h2,h3⟩:=e
  have hl:=(List.getElem?_eq_some_iff.1 hi).1
  obtain ⟨t,ht⟩:∃ t,ss[i]?=some t:=⟨_,List.getElem?_eq_getElem (by omega)⟩
  obtain ⟨id,off,cap,e1,rd⟩:=h2.at ht
  rw [h1] at e1
  exact ⟨id,off,cap,t,e1,rd,h3 i t r ht hi⟩
def I47e (m:List (List Pol)) (r:List Pol) (ms:SV) (c i:Nat) (a7:AV) (hr:Qa) (k:Nat) (E:Env) (h:Qa):Prop:=∃ j s,j≤r.length∧k=r.length-j∧SRow fR hr h s ((r.take j).eraseIdx c) ∧
  E.keep [0,1,2,7,8,9,10]=[(0,some (.sc ms)),(1,some (.sc (.int .i64 0))),(2,some (.sc (.int .i64 (c:Nat)))),(7,some a7),(8,some (.sc (.int .i64 (i:Nat)))),(9,some (.sc s)),(10,some (.sc (.int .i64 (j:Nat))))]
def R47e (r:List Pol) (ms:SV) (c i:Nat) (a7:AV) (hr:Qa) (ex:Ex) (E:Env) (h:Qa):Prop:=ex=.ex 2∧∃ s a b,SRow fR hr h s (r.eraseIdx c)∧E=[(0,some (.sc ms)),(1,some (.sc (.int .i64 0))),(2,some (.sc (.int .i64 (c:Nat)))),(7,some a7),(8,some (.sc (.int .i64 (i:Nat)))),(9,some (.sc s)),(10,a),(27,b)]
def I47 (m:List (List Pol)) (ms:SV) (c:Nat) (hb:Qa) (k:Nat) (E:Env) (h:Qa):Prop:=∃ i s,i≤m.length∧k=m.length-i∧SMx fR hb h s (((m.take i).drop 1).map fun r=>r.eraseIdx c) ∧
  E.keep [0,1,2,7,8]=[(0,some (.sc ms)),(1,some (.sc (.int .i64 0))),(2,some (.sc (.int .i64 (c:Nat)))),(7,some (.sc s)),(8,some (.sc (.int .i64 (i:Nat))))]
def R47 (m:List (List Pol)) (c:Nat) (hb:Qa) (ex:Ex) (E:Env) (h:Qa):Prop:=ex=.ex 0∧∃ s a b b2 c2 d,SMx fR hb h s ((m.drop 1).map fun r=>r.eraseIdx c)∧E=[(0,a),(1,b),(2,b2),(7,some (.sc s)),(8,c2),(15,d)]
end Go.Proofs.YtofknpknogfijaaGreatDoor


namespace Go.Proofs.YtofknpknogfijaaGreatDoor
open Go.Ab
set_option linter.unusedVariables false
set_option linter.unusedSimpArgs false
set_option linter.unusedSectionVars false
variable [HB]
def KZ (h h':Qa):Prop:=h.length≤h'.length∧∀ (j:Nat) (b:Blk),h[j]?=some b→b.esz≠0→h'[j]?=some b
theorem KZ.trans {a b c:Qa} (x:KZ a b) (y:KZ b c):KZ a c:=⟨Nat.le_trans x.1 y.1,fun j u h h0=>y.2 j u (x.2 j u h h0) h0⟩
theorem KZ.ext {a b:Qa} (x:Ext a b):KZ a b:=⟨x.len,fun j u h _=>x.get _ _ h⟩
theorem KZ.wr {h h':Qa} {q:Nat} {a b:SV} (w:Wr h h' q a b):KZ h h':=by
  obtain ⟨c,d,hc⟩:=w.old
  refine ⟨Nat.le_of_eq w.len.symm,fun j u hj h0=>?_⟩
  rw [w.eq]
  by_cases e:j=q
  · subst e
    rw [hc] at hj
    obtain rfl:=Option.some.inj hj
    exact absurd rfl h0
  · rw [List.getElem?_set_ne (Ne.symm e)];exact hj
theorem IsSl.kz {h h':Qa} {t:SV} {e:ESz} {n:Nat} {ws:List SV} (ht:IsSl h t e n ws) (he:e≠0) (k:KZ h h'):IsSl h' t e n ws:=by
  rcases ht with hs | ⟨id,off,cap,b,rfl,h1,h2,h3⟩
  · exact .inl hs
  · exact .inr ⟨id,off,cap,b,rfl,k.2 id b h1 (by rw [h2];exact he),h2,h3⟩
theorem IsD.kz {h h':Qa} {t:SV} {ps:List P2} (ht:IsD h t ps) (k:KZ h h'):IsD h' t ps:=IsSl.kz ht (by decide) k
theorem OwnD.kz {h0 h h':Qa} {s:SV} {ps:List P2} (o:OwnD h0 h s ps) (k:KZ h h'):OwnD h0 h' s ps:=by
  rcases o with o | ⟨id,cap,bl,e,h1,h2,h3⟩
  · exact .inl o
  · exact .inr ⟨id,cap,bl,e,h1,k.2 id _ h2 (show (2:ESz)≠0 by decide),h3⟩
theorem Own.kz {h0 h h':Qa} {s:SV} {vs:List SV} (o:Own h0 h s vs) (k:KZ h h'):Own h0 h' s vs:=by
  rcases o with o | ⟨id,cap,cs,e,h1,h2,h3⟩
  · exact .inl o
  · exact .inr ⟨id,cap,cs,e,h1,k.2 id _ h2 (show (1:ESz)≠0 by decide),h3⟩
theorem RowF.kz {f:Pol→SV→P2} {h h':Qa} {s:SV} {r:List Pol} (e:RowF f h s r) (k:KZ h h'):RowF f h' s r:=by
  obtain ⟨ss,h1,h2,h3⟩:=e
  exact ⟨ss,h1,IsD.kz h2 k,fun i t l a b=>IsD.kz (h3 i t l a b) k⟩
theorem SMx.kz {f:Pol→SV→P2} {hb h h':Qa} {s:SV} {m:List (List Pol)} (a:SMx f hb h s m) (k:KZ h h') (x:Ext hb h'):SMx f hb h' s m:=by
  obtain ⟨vs,h1,h2,h3⟩:=a.o
  exact ⟨x,vs,h1,Own.kz h2 k,fun i t r x y=>(h3 i t r x y).kz k⟩
structure SRowZ (f:Pol→SV→P2) (h0 hr h:Qa) (s:SV) (ps:List Pol):Prop where
  x:Ext h0 h
  z:KZ hr h
  nt:∀ j,j < hr.length→XT s j
  o:∃ ss:List SV,ss.length=ps.length∧OwnD h0 h s (List.zipWith f ps ss)∧∀ (i:Nat) (p:Pol) (t:SV),ps[i]?=some p→ss[i]?=some t→IsD h t (tms p.ts)∧Apart s t
theorem SRowZ.row {f:Pol→SV→P2} {h0 hr h:Qa} {s:SV} {ps:List Pol} (a:SRowZ f h0 hr h s ps):RowF f h s ps:=by
  obtain ⟨ss,h1,h2,h3⟩:=a.o
  exact ⟨ss,h1,h2.is,fun i p t x y=>(h3 i p t x y).1⟩
theorem SRowZ.new {f:Pol→SV→P2} {h0 hr h:Qa} {s:SV} (x:Ext h0 h) (z:KZ hr h) (nt:∀ j,j < hr.length→XT s j) (o:OwnD h0 h s []):SRowZ f h0 hr h s []:=⟨x,z,nt,[],rfl,o,fun i p t a b=>by simp at a⟩
theorem SRowZ.push {f:Pol→SV→P2} {h0 hr h h4:Qa} {s s' t:SV} {ps:List Pol} {p:Pol} {ss:List SV} (z:KZ hr h) (nt:∀ j,j < hr.length→XT s j) (l:ss.length=ps.length) (a:∀ (i:Nat) (p:Pol) (t:SV),ps[i]?=some p→ss[i]?=some t→IsD h t (tms p.ts)∧Apart s t)
    (d:IsD h t (tms p.ts)) (ap:Apart s t) (o4:OwnD h0 h4 s' (List.zipWith f ps ss++[f p t])) (x4:Ext h0 h4) (fr:Fram h h4 s s') (l4:h.length≤h4.length):SRowZ f h0 hr h4 s' (ps++[p]):=by
  have old:∀ j,j < hr.length→∃ b,h[j]?=some b:=fun j hj=>⟨_,List.getElem?_eq_getElem (Nat.lt_of_lt_of_le hj z.1)⟩
  refine ⟨x4,⟨Nat.le_trans z.1 l4,fun j b hj h0=>?_⟩,fun j hj=>?_,ss++[t],by simp [l],?_,fun i r u hi hu=>?_⟩
  · exact (fr j b (z.2 j b hj h0) (nt j (List.getElem?_eq_some_iff.1 hj).1)).1
  · obtain ⟨b,hb⟩:=old j hj
    exact (fr j b hb (nt j hj)).2
  · rw [List.zipWith_append l.symm];exact o4
  · rcases Nat.lt_or_ge i ps.length with h1 | h1
    · rw [List.getElem?_append_left h1] at hi
      rw [List.getElem?_append_left (by omega)] at hu
      obtain ⟨d,ap⟩:=a i r u hi hu
      exact ⟨IsSl.away d fr ap,fr.apart d ap⟩
    · obtain rfl:i=ps.length:=by have:=(List.getElem?_eq_some_iff.1 hi).1;simp at this;omega
      rw [List.getElem?_append_right (Nat.le_refl _),Nat.sub_self] at hi
      rw [List.getElem?_append_right (by omega),l,Nat.sub_self] at hu
      simp at hi hu;subst hi;subst hu
      exact ⟨IsSl.away d fr ap,fr.apart d ap⟩
end Go.Proofs.YtofknpknogfijaaGreatDoor




namespace Go.Proofs.YtofknpknogfijaaGreatDoor
open Go.Ab
set_option linter.unusedVariables false
set_option linter.unusedSimpArgs false
set_option linter.unusedSectionVars false
variable [HB]
def altN (f:Nat→List Nat→Int) (cs:List Nat):Nat→Int
  | 0=>0
  | k+1=>altN f cs k+if k%2=1 then-f (cs.getD k 0) (cs.eraseIdx k) else f (cs.getD k 0) (cs.eraseIdx k)
structure GP (f:Int→Int) (p:Pol):Prop where
  nb:p.big=false
  can:Can p.ts
  cf:∀ e,cf p.ts e=f e
def FB (K B:Nat) (f:Int→Int):Prop:=∀ e,f e≠0→e.natAbs≤K∧(f e).natAbs≤B
theorem GP.bd {f:Int→Int} {p:Pol} {K B:Nat} (g:GP f p) (h:FB K B f):∀ t∈p.ts,t.1.natAbs≤K∧t.2.natAbs≤B:=fun t ht=>by
  have e:=JP g.can ht
  have nz:=g.can.nz t ht
  rw [g.cf] at e
  rw [← e] at nz ⊢
  exact h _ nz
theorem GP.len {f:Int→Int} {p:Pol} {K B:Nat} (g:GP f p) (h:FB K B f):p.ts.length≤2*K+1 :=
  JZ g.can (lo := -(K:Int)) fun t ht=>by have:=(g.bd h t ht).1;omega
theorem GP.eq {f:Int→Int} {p q:Pol} (a:GP f p) (b:GP f q):p=q:=by
  obtain ⟨pb,pt⟩:=p
  obtain ⟨qb,qt⟩:=q
  have h1:=a.nb
  have h2:=b.nb
  simp only at h1 h2
  subst h1;subst h2
  congr 1
  exact Can.ext a.can b.can fun e=>(a.cf e).trans (b.cf e).symm
theorem GP.cong {f g:Int→Int} {p:Pol} (a:GP f p) (h:∀ e,f e=g e):GP g p:=⟨a.nb,a.can,fun e=>(a.cf e).trans (h e)⟩
theorem QbS {q:List Tm} {f:Int→Int} (h:∀ e,cf q e=f e) (e:Int):∀ l:List Tm,mc l q e=X7 l f e
  | []=>rfl
  | t::l=>by rw [QbW,QbS h e l,h];rfl
theorem gp_zero:GP (fun _=>0) ⟨false,[]⟩:=⟨rfl,.nil,fun _=>rfl⟩
theorem FB.mono {K K' B B':Nat} {f:Int→Int} (h:FB K B f) (h1:K≤K') (h2:B≤B'):FB K' B' f:=fun e he=>⟨Nat.le_trans (h e he).1 h1,Nat.le_trans (h e he).2 h2⟩
structure EOk (p:Pol):Prop where
  nb:p.big=false
  can:Can p.ts
  len:p.ts.length≤3
  bd:∀ t∈p.ts,t.1.natAbs≤12∧t.2.natAbs≤4
theorem VD {B:Nat}:∀ {l:List Tm},(∀ t∈l,t.2.natAbs≤B)→YA l≤l.length*B
  | [],_=>by simp [YA]
  | t::l,h=>by
    have:=VD (l:=l) fun u hu=>h u (.tail _ hu)
    have:=h t (.head _)
    simp only [YA,List.length_cons,Nat.add_mul];omega
theorem EOk.sum {p:Pol} (k:EOk p):YA p.ts≤12:=by
  have:=VD (B:=4) fun t ht=>(k.bd t ht).2
  have:=k.len
  omega
theorem Qdl {r:List Pol} (h:∀ p∈r,EOk p):XU (rT r)≤r.length*12:=by
  unfold rT
  induction r with
  | nil=>simp [XU]
  | cons p r ih =>
    have:=ih fun q hq=>h q (.tail _ hq)
    have:=(h p (.head _)).sum
    simp only [List.map_cons,XU,List.length_cons,Nat.add_mul];omega
structure ROk (n:Nat) (rows:List (List Pol)):Prop where
  n4:n≤4
  len:∀ r∈rows,r.length=n
  ok:∀ r∈rows,∀ p∈r,EOk p
theorem ROk.tail {n:Nat} {r:List Pol} {rs:List (List Pol)} (k:ROk n (r::rs)):ROk n rs:=⟨k.n4,fun q hq=>k.len q (.tail _ hq),fun q hq=>k.ok q (.tail _ hq)⟩
abbrev xp (r:List Pol) (rs:List (List Pol)) (e:Int) (c:Nat) (ds:List Nat):Int:=X7 ((rT r).getD c []) (dL (rs.map rT) ds) e
end Go.Proofs.YtofknpknogfijaaGreatDoor


namespace Go.Proofs.YtofknpknogfijaaGreatDoor
open Go.Ab
set_option linter.unusedVariables false
set_option linter.unusedSimpArgs false
set_option linter.unusedSectionVars false
variable [HB]
theorem eok {e:Ent} (h:smE e):EOk (PE e):=by
  obtain ⟨h1,h2,h3,h4⟩:=h
  obtain ⟨r,e1,can,hr,-⟩:=Ut (low:=e.1) (xs:=e.2) (fun x hx=>by have:=h4 x hx;simp only [cM];omega) (by simp only [eM];omega) (fun i hi=>by simp only [eM];omega)
  have hv:∀ t∈r,t.2.natAbs≤4:=fun t ht=>by
    have hc:=zN (low:=e.1) (xs:=e.2) (i:=e.2.length) (r:=r) (by
      unfold ofP at e1
      cases h:ofN e.1 e.2 e.2.length with
      | none=>rw [h] at e1;cases e1
      | some q=>rw [h] at e1;simp at e1;rw [e1])
    have h5:=JP hc.1 ht
    have h6:=hr t ht
    rw [hc.2.2,if_pos ⟨h6.1,h6.2.1⟩] at h5
    have hm:e.2.getD (t.1-e.1).toNat 0∈e.2:=by
      rw [List.getD_eq_getElem?_getD,List.getElem?_eq_getElem (by omega)];exact List.getElem_mem _
    have:=h4 _ hm
    omega
  unfold PE
  rw [e1]
  refine ⟨rfl,can,?_,fun t ht=>⟨?_,hv t ht⟩⟩
  · have:=JZ can (lo:=e.1) (n:=e.2.length) fun t ht=>⟨(hr t ht).1,(hr t ht).2.1⟩
    simp only;omega
  · have:=hr t ht
    simp only at *;omega
theorem esp {e:Ent} (h:smE e):∃ lo:Int,∀ t∈(PE e).ts,lo≤t.1∧t.1≤lo+2:=by
  refine ⟨e.1,fun t ht=>?_⟩
  unfold PE ofP at ht
  cases hn:ofN e.1 e.2 e.2.length with
  | none=>rw [hn] at ht;simp [Jw] at ht
  | some r =>
    rw [hn] at ht
    have:=(zN hn).2.1 t ht
    have:=h.1
    omega
end Go.Proofs.YtofknpknogfijaaGreatDoor



namespace Go.Proofs.YtofknpknogfijaaGreatDoor
open Go.Ab
set_option linter.unusedVariables false
set_option linter.unusedSimpArgs false
set_option linter.unusedSectionVars false
variable [HB]
def PRF:List (List Tm)→Int→Int
  | []=>fun e=>if e=0 then 1 else 0
  | p::ps=>X7 p (PRF ps)
theorem U5 (f:Int→Int) (e:Int):∀ l:List Tm,X7 l f e=S (fun x=>f (e-x)) l
  | []=>rfl
  | t::l=>by simp only [X7,S];rw [U5 f e l]
theorem QcZ (a b:List Tm) (f:Int→Int) (e:Int):X7 a (X7 b f) e=X7 b (X7 a f) e:=by
  rw [U5,U5]
  simp only [U5]
  rw [Qbi]
  refine Yz fun t _=>Yz fun u _=>?_
  rw [show e-u.1-t.1=e-t.1-u.1 by omega]
theorem QbT {f g:Int→Int} (h:∀ e,f e=g e) (l:List Tm) (e:Int):X7 l f e=X7 l g e:=V1 fun t _=>h _
theorem QaB (p:List Tm):∀ (ps:List (List Tm)) (e:Int),PRF (ps++[p]) e=X7 p (PRF ps) e
  | [],e=>rfl
  | a::ps,e=>by
    show X7 a (PRF (ps++[p])) e=X7 p (X7 a (PRF ps)) e
    rw [QbT (QaB p ps),QcZ]
theorem Qb8 {c:Nat}:∀ {rs:List (List (List Tm))} {cs:List Nat} {e:Int},(∀ r∈rs,r.getD c []=[])→c∈cs→rs.length=cs.length→dL rs cs e=0
  | [],cs,e,_,hc,hl=>by
    have:cs=[]:=List.eq_nil_of_length_eq_zero hl.symm
    subst this;cases hc
  | r::rs,cs,e,h,hc,hl=>by
    simp only [dL]
    have hz:alt (fun c ds=>X7 (r.getD c []) (dL rs ds) e) cs=alt (fun _ _=>0) cs:=by
      refine alt_mem fun d ds hd hp hl2=>?_
      by_cases hdc:d=c
      · subst hdc;rw [h r (.head _)];rfl
      · refine Z3 fun t _=>Qb8 (fun q hq=>h q (.tail _ hq)) ?_ ?_
        · rcases List.mem_cons.1 (hp.mem_iff.1 hc) with e | e
          · exact absurd e.symm hdc
          · exact e
        · simp only [List.length_cons] at hl;omega
    rw [hz,ZE]
where
  alt_mem:∀ {cs:List Nat} {f g:Nat→List Nat→Int},(∀ c ds,c∈cs→cs.Perm (c::ds)→ds.length+1=cs.length→f c ds=g c ds)→alt f cs=alt g cs
  | [],_,_,_=>rfl
  | c::cs,f,g,h=>by
    unfold alt
    rw [h c cs (.head _) (.refl _) rfl,alt_mem fun d ds hd hp hl=>h d (c::ds) (.tail _ hd) ((hp.cons c).trans (.swap _ _ _)) (by simp [← hl])]
theorem QeK (f:Nat→Nat→List Tm) (n:Nat) (h0:∀ a c,c < a→f a c=[]):∀ (k i:Nat) (e:Int),i+k=n→dL ((List.range' i k).map fun a=>(List.range n).map (f a)) (List.range' i k) e=PRF ((List.range' i k).map fun a=>f a a) e
  | 0,i,e,_=>rfl
  | k+1,i,e,hn=>by
    rw [List.range'_succ,List.map_cons,List.map_cons]
    have hget:∀ a c,c < n→((List.range n).map (f a)).getD c []=f a c:=fun a c hc=>by
      rw [List.getD_eq_getElem?_getD,List.getElem?_map,List.getElem?_range hc];rfl
    simp only [dL,alt]
    have hz:alt (fun d ds=>X7 (((List.range n).map (f i)).getD d []) (dL ((List.range' (i+1) k).map fun a=>(List.range n).map (f a)) (i::ds)) e) (List.range' (i+1) k)=0:=by
      rw [Z6 (g:=fun _ _=>0) fun c ds hc hl _=>?_,ZE]
      refine Z3 fun t _=>Qb8 (c:=i) (fun r hr=>?_) (.head _) (by simp at hl ⊢;omega)
      obtain ⟨a,ha,rfl⟩:=List.mem_map.1 hr
      have:=List.mem_range'_1.1 ha
      rw [hget a i (by omega)]
      exact h0 a i (by omega)
    rw [hz,Int.sub_zero,hget i i (by omega)]
    exact QbT (fun e=>QeK f n h0 k (i+1) e (by omega)) _ _
structure PF (n:Nat) (f:Int→Int):Prop where
  fb:FB (12*n) (12 ^ n) f
  sp:∃ lo:Int,∀ e,f e≠0→lo≤e∧e≤lo+2*(n:Int)
theorem PF.zero:PF 0 (PRF []):=⟨fun e he=>by
  unfold PRF at he ⊢
  split at he
  · rename_i h;subst h;simp
  · exact absurd rfl he,0,fun e he=>by
  unfold PRF at he
  split at he
  · rename_i h;subst h;simp
  · exact absurd rfl he⟩
theorem QbR {l:List Tm} {f:Int→Int} {e:Int} (h:X7 l f e≠0):∃ t∈l,f (e-t.1)≠0:=by
  refine Decidable.byContradiction fun hn=>h (Z3 fun t ht=>?_)
  refine Decidable.byContradiction fun h2=>hn ⟨t,ht,h2⟩
theorem PF.mul {n:Nat} {f:Int→Int} {p:Pol} (a:PF n f) (k:EOk p) (sp:∃ lo:Int,∀ t∈p.ts,lo≤t.1∧t.1≤lo+2):PF (n+1) (X7 p.ts f):=by
  obtain ⟨l1,h1⟩:=a.sp
  obtain ⟨l2,h2⟩:=sp
  refine ⟨fun e he=>?_,l1+l2,fun e he=>?_⟩
  · obtain ⟨t,ht,hf⟩:=QbR he
    have b1:=(a.fb _ hf).1
    have b2:=(k.bd t ht).1
    refine ⟨by omega,?_⟩
    have:=U4 (B:=12 ^ n) (f:=f) (fun e=>by
      by_cases h:f e=0
      · rw [h];exact Nat.zero_le _
      · exact (a.fb _ h).2) (l:=p.ts) (e:=e)
    refine Nat.le_trans this ?_
    rw [Nat.pow_succ,Nat.mul_comm]
    exact Nat.mul_le_mul_left _ k.sum
  · obtain ⟨t,ht,hf⟩:=QbR he
    have:=h1 _ hf
    have:=h2 t ht
    omega
theorem GP.pok {f:Int→Int} {p:Pol} (g:GP f p) (h:FB eM cM f):Pok p:=⟨fun hb=>(by rw [g.nb] at hb;cases hb),g.can,fun t ht=>(g.bd h t ht).2,fun t ht=>(g.bd h t ht).1⟩
theorem EOk.pok {p:Pol} (k:EOk p):Pok p:=⟨fun hb=>(by rw [k.nb] at hb;cases hb),k.can,fun t ht=>by have:=k.bd t ht;simp only [cM];omega,fun t ht=>by have:=k.bd t ht;simp only [eM];omega⟩
theorem QgI {f:Int→Int} {p q:Pol} (g:GP f p) (hf:FB 524288 cM f) (kq:Pok q) (bq:q.big=false) (hq:Bd 524288 q.ts) (hb:∀ e,(X7 q.ts f e).natAbs≤cM):GP (X7 q.ts f) (JE p q):=by
  have kp:=g.pok (hf.mono (by decide) (Nat.le_refl _))
  obtain ⟨L,hc,hs,he⟩:=Qi0 kp kq g.nb bq (fun t ht=>(g.bd hf t ht).1) hq
  have hcf:∀ e,cf L e=X7 q.ts f e:=fun e=>by
    show S (dl e) L=_
    rw [hs]
    show mc p.ts q.ts e=_
    rw [QbX,QbS g.cf]
  have:∀ t∈L,t.2.natAbs≤cM:=fun t ht=>by
    rw [← JP hc ht,hcf];exact hb _
  rw [he,if_pos this]
  exact ⟨rfl,hc,hcf⟩
theorem gp_sp {f:Int→Int} {p:Pol} {n:Nat} (g:GP f p) (sp:∃ lo:Int,∀ e,f e≠0→lo≤e∧e≤lo+2*(n:Int)):∃ lo:Int,∀ t∈p.ts,lo≤t.1∧t.1≤lo+2*(n:Int):=by
  obtain ⟨lo,h⟩:=sp
  refine ⟨lo,fun t ht=>h _ ?_⟩
  rw [← g.cf,JP g.can ht]
  exact g.can.nz t ht
theorem QhA {p:List Tm} {lo m:Int} (h:∀ t∈p,lo≤t.1∧t.1≤lo+m) (hne:p≠[]):hi0 p-lo0 p≤m:=by
  obtain ⟨t,ht,e1⟩:=JW hne
  obtain ⟨u,hu,e2⟩:=JX hne
  have:=h t ht
  have:=h u hu
  omega
end Go.Proofs.YtofknpknogfijaaGreatDoor


