/- The law's matrices: of laurent's polynomials,and of the reference's. -/
import Derived.Test.YtofknpknogfijaaGreatDoorLW1
import Derived.Test.YtofknpknogfijaaGreatDoorMN2
import Derived.Test.YtofknpknogfijaaGreatDoorAb50
import Derived.Test.YtofknpknogfijaaGreatDoorDE7
import Derived.Test.YtofknpknogfijaaGreatDoorRS1
namespace Go.Proofs.YtofknpknogfijaaGreatDoor
open Go.Ab
set_option linter.all false
set_option maxHeartbeats 16000000
set_option maxRecDepth 20000
attribute [local irreducible] Ql wA Xr Xp QA Qp QW QY
variable [HB]
def PE (e:Ent):Pol:=ofP e.1 e.2
theorem QdO (h0:Qa) (low:Int) (hlow : -9223372036854775808≤low∧low≤9223372036854775807) (c:SV) (xs:List Int) (hn:xs.length≤1000000) (hc:IsInts h0 c xs) (hw:∀ x∈xs,-9223372036854775808≤x∧x≤9223372036854775807) :
  ∃ r h',Cal FT HKt 20 [.sc (.int .i64 low),.sc c] h0 r h'∧Ext h0 h'∧∃ s,r=.agg [.bool (ofP low xs).big,s]∧OwnD h0 h' s (tms (ofP low xs).ts):=by
 refine Cal.of (F:=a20) rfl rfl rfl ?_
 have lc:=IsSl.len hc
 repeat' (first | refine Qg ?_ | refine Qb ?_ | refine Qv ?_ | refine Qf ?_ | ((refine Qe ?_);first | refine Qu rfl rfl rfl ?_ | refine QG rfl rfl rfl rfl ?_ | refine QT rfl rfl rfl rfl rfl rfl ?_) | ((refine Qc ?_);first | (have z:=e1;refine Xb ?_;intro h2 e2 c2;have d1:=c1.ext e2) | (refine Xb ?_;intro h1 e1 c1) | refine Qs rfl lc ?_ | refine Qo rfl ?_))
 have n1:=e1.len
 have n2:=c1.lt
 refine YU (I20 h0 h0.length h1.length low c xs) (cK [0,4,5,8,9,10] xs.length 10) (R20 h0 h0.length h1.length low xs) ⟨0,[],.nilS,Gs _,rfl,⟨e1.trans e2,d1,c2,.inl ⟨rfl,rfl⟩,Gf _,n1,by omega⟩,rfl⟩ (Qc5 h0 _ _ low hlow c xs hn hc hw) ?_
 rintro ex E' h3 (⟨rfl,r,s,a,b,c,d,e,hr,st,rfl⟩ | ⟨rfl,r,s,hr,st,rfl⟩)
 ·have c5:=st.c5
  have c4:=st.c4
  repeat' (first | refine Qg ?_ | refine Qb ?_ | refine QP ?_ | refine Qt ?_ | refine Qf ?_ | ((refine Qe ?_);refine Qq rfl ?_) | ((refine Qc ?_);first | refine QI rfl c5 ?_ | (refine Xm rfl rfl c4 ?_;intro h4 w4)))
  refine ⟨.inr rfl,Xg rfl w4.cel.read ⟨w4.ext st.e st.l4,s,?_,?_⟩⟩
  ·unfold ofP;rw [hr]
  ·unfold ofP;rw [hr]
   exact st.o.wrC w4
 ·repeat' (first | refine QD ?_ | refine Xs ?_)
  refine ⟨.inr rfl,Xg rfl st.c4.read ⟨st.e,.nilS,?_,?_⟩⟩
  ·unfold ofP;rw [hr]
  ·unfold ofP;rw [hr]
   exact .inl ⟨rfl,rfl⟩
def RowF (f:Pol→SV→P2) (h:Qa) (s:SV) (ps:List Pol):Prop:=∃ ss:List SV,ss.length=ps.length∧IsD h s (List.zipWith f ps ss)∧∀ (i:Nat) (p:Pol) (t:SV),ps[i]?=some p→ss[i]?=some t→IsD h t (tms p.ts)
def MxF (f:Pol→SV→P2) (h:Qa) (s:SV) (m:List (List Pol)):Prop:=∃ ss:List SV,ss.length=m.length∧IsSl h s 1 ss.length ss∧∀ (i:Nat) (t:SV) (r:List Pol),ss[i]?=some t→m[i]?=some r→RowF f h t r
def fL:Pol→SV→P2:=fun p t=>(SV.bool p.big,t)
def fR:Pol→SV→P2:=fun p t=>(t,SV.bool p.big)
structure SRow (f:Pol→SV→P2) (hr h:Qa) (s:SV) (ps:List Pol):Prop where
 x:Ext hr h
 o:∃ ss:List SV,ss.length=ps.length∧OwnD hr h s (List.zipWith f ps ss)∧∀ (i:Nat) (p:Pol) (t:SV),ps[i]?=some p→ss[i]?=some t→IsD h t (tms p.ts)∧Apart s t
theorem SRow.nil {f:Pol→SV→P2} {hr h:Qa} (x:Ext hr h) {s:SV} (o:OwnD hr h s []):SRow f hr h s []:=⟨x,[],rfl,o,fun i p t a b=>by simp at a⟩
structure SMx (f:Pol→SV→P2) (hb h:Qa) (s:SV) (m:List (List Pol)):Prop where
 x:Ext hb h
 o:∃ vs:List SV,vs.length=m.length∧Own hb h s vs∧∀ (i:Nat) (t:SV) (r:List Pol),vs[i]?=some t→m[i]?=some r→RowF f h t r
def I12e (r:List Ent) (ls a3:AV) (i:Nat) (hr:Qa) (k:Nat) (E:Env) (h:Qa):Prop:=∃ j s,j≤r.length∧k=r.length-j∧SRow fL hr h s ((r.take j).map PE) ∧
 E.keep [0,3,4,5,6]=[(0,some ls),(3,some a3),(4,some (.sc (.int .i64 (i:Nat)))),(5,some (.sc s)),(6,some (.sc (.int .i64 (j:Nat))))]
def R12e (r:List Ent) (ls a3:AV) (i:Nat) (hr:Qa) (ex:Ex) (E:Env) (h:Qa):Prop:=ex=.ex 2∧∃ s a b,SRow fL hr h s (r.map PE)∧E=[(0,some ls),(3,some a3),(4,some (.sc (.int .i64 (i:Nat)))),(5,some (.sc s)),(6,a),(21,b)]
def I12 (l:List (List Ent)) (ls:SV) (hb:Qa) (k:Nat) (E:Env) (h:Qa):Prop:=∃ i s,i≤l.length∧k=l.length-i∧SMx fL hb h s ((l.take i).map fun r=>r.map PE) ∧
 E.keep [0,3,4]=[(0,some (.sc ls)),(3,some (.sc s)),(4,some (.sc (.int .i64 (i:Nat))))]
def R12 (l:List (List Ent)) (hb:Qa) (ex:Ex) (E:Env) (h:Qa):Prop:=ex=.ex 0∧∃ s a b c,SMx fL hb h s (l.map fun r=>r.map PE)∧E=[(0,a),(3,some (.sc s)),(4,b),(11,c)]
def I18e (r:List Ent) (ls a3:AV) (i:Nat) (hr:Qa) (k:Nat) (E:Env) (h:Qa):Prop:=∃ j s,j≤r.length∧k=r.length-j∧SRow fR hr h s ((r.take j).map PE) ∧
 E.keep [0,3,4,5,6]=[(0,some ls),(3,some a3),(4,some (.sc (.int .i64 (i:Nat)))),(5,some (.sc s)),(6,some (.sc (.int .i64 (j:Nat))))]
def R18e (r:List Ent) (ls a3:AV) (i:Nat) (hr:Qa) (ex:Ex) (E:Env) (h:Qa):Prop:=ex=.ex 2∧∃ s a b,SRow fR hr h s (r.map PE)∧E=[(0,some ls),(3,some a3),(4,some (.sc (.int .i64 (i:Nat)))),(5,some (.sc s)),(6,a),(21,b)]
def I18 (l:List (List Ent)) (ls:SV) (hb:Qa) (k:Nat) (E:Env) (h:Qa):Prop:=∃ i s,i≤l.length∧k=l.length-i∧SMx fR hb h s ((l.take i).map fun r=>r.map PE) ∧
 E.keep [0,3,4]=[(0,some (.sc ls)),(3,some (.sc s)),(4,some (.sc (.int .i64 (i:Nat))))]
def R18 (l:List (List Ent)) (hb:Qa) (ex:Ex) (E:Env) (h:Qa):Prop:=ex=.ex 0∧∃ s a b c,SMx fR hb h s (l.map fun r=>r.map PE)∧E=[(0,a),(3,some (.sc s)),(4,b),(11,c)]
theorem RowF.at {f:Pol→SV→P2} {h:Qa} {s:SV} {r:List Pol} (e:RowF f h s r) {i:Nat} {p:Pol} (hi:r[i]?=some p):∃ id off cap t,s=.slc id off r.length cap∧QZ h id (off+i*2) 2=some [(f p t).1,(f p t).2]∧IsD h t (tms p.ts):=by
 obtain ⟨ss,h1,h2,h3⟩:=e
 have hl:=(Gb.1 hi).1
 obtain ⟨t,ht⟩:∃ t,ss[i]?=some t:=⟨_,Ga (by omega)⟩
 obtain ⟨id,off,cap,e1,rd⟩:=h2.at (i:=i) (p:=f p t) (by rw [List.getElem?_zipWith,hi,ht])
 rw [Hv,h1,Nat.min_self] at e1
 exact ⟨id,off,cap,t,e1,rd,h3 i p t hi ht⟩
theorem MxF.at {f:Pol→SV→P2} {h:Qa} {s:SV} {m:List (List Pol)} (e:MxF f h s m) {i:Nat} {r:List Pol} (hi:m[i]?=some r):∃ id off cap t,s=.slc id off m.length cap∧QZ h id (off+i*1) 1=some [t]∧RowF f h t r:=by
 obtain ⟨ss,h1,h2,h3⟩:=e
 have hl:=(Gb.1 hi).1
 obtain ⟨t,ht⟩:∃ t,ss[i]?=some t:=⟨_,Ga (by omega)⟩
 obtain ⟨id,off,cap,e1,rd⟩:=h2.at ht
 rw [h1] at e1
 exact ⟨id,off,cap,t,e1,rd,h3 i t r ht hi⟩
def I47e (m:List (List Pol)) (r:List Pol) (ms:SV) (c i:Nat) (a7:AV) (hr:Qa) (k:Nat) (E:Env) (h:Qa):Prop:=∃ j s,j≤r.length∧k=r.length-j∧SRow fR hr h s ((r.take j).eraseIdx c) ∧
 E.keep [0,1,2,7,8,9,10]=[(0,some (.sc ms)),(1,some (.sc (.int .i64 0))),(2,some (.sc (.int .i64 (c:Nat)))),(7,some a7),(8,some (.sc (.int .i64 (i:Nat)))),(9,some (.sc s)),(10,some (.sc (.int .i64 (j:Nat))))]
def R47e (r:List Pol) (ms:SV) (c i:Nat) (a7:AV) (hr:Qa) (ex:Ex) (E:Env) (h:Qa):Prop:=ex=.ex 2∧∃ s a b,SRow fR hr h s (r.eraseIdx c)∧E=[(0,some (.sc ms)),(1,some (.sc (.int .i64 0))),(2,some (.sc (.int .i64 (c:Nat)))),(7,some a7),(8,some (.sc (.int .i64 (i:Nat)))),(9,some (.sc s)),(10,a),(27,b)]
def I47 (m:List (List Pol)) (ms:SV) (c:Nat) (hb:Qa) (k:Nat) (E:Env) (h:Qa):Prop:=∃ i s,i≤m.length∧k=m.length-i∧SMx fR hb h s (((m.take i).drop 1).map fun r=>r.eraseIdx c) ∧
 E.keep [0,1,2,7,8]=[(0,some (.sc ms)),(1,some (.sc (.int .i64 0))),(2,some (.sc (.int .i64 (c:Nat)))),(7,some (.sc s)),(8,some (.sc (.int .i64 (i:Nat))))]
def R47 (m:List (List Pol)) (c:Nat) (hb:Qa) (ex:Ex) (E:Env) (h:Qa):Prop:=ex=.ex 0∧∃ s a b b2 c2 d,SMx fR hb h s ((m.drop 1).map fun r=>r.eraseIdx c)∧E=[(0,a),(1,b),(2,b2),(7,some (.sc s)),(8,c2),(15,d)]
end Go.Proofs.YtofknpknogfijaaGreatDoor
namespace Go.Proofs.YtofknpknogfijaaGreatDoor
open Go.Ab
set_option linter.all false
variable [HB]
def KZ (h h':Qa):Prop:=h.length≤h'.length∧∀ (j:Nat) (b:Blk),h[j]?=some b→b.esz≠0→h'[j]?=some b
theorem KZ.trans {a b c:Qa} (x:KZ a b) (y:KZ b c):KZ a c:=⟨Gn x.1 y.1,fun j u h h0=>y.2 j u (x.2 j u h h0) h0⟩
structure SRowZ (f:Pol→SV→P2) (h0 hr h:Qa) (s:SV) (ps:List Pol):Prop where
 x:Ext h0 h
 z:KZ hr h
 nt:∀ j,j < hr.length→X1 s j
 o:∃ ss:List SV,ss.length=ps.length∧OwnD h0 h s (List.zipWith f ps ss)∧∀ (i:Nat) (p:Pol) (t:SV),ps[i]?=some p→ss[i]?=some t→IsD h t (tms p.ts)∧Apart s t
def NoI (bl:List SV):Prop:=∀ v∈bl,∀ (k:IntKind) (n:Int),v≠.int k n
theorem NoI.app {a b:List SV} (x:NoI a) (y:NoI b):NoI (a++b):=fun v hv=>(Gv.1 hv).elim (x v) (y v)
def KI (h h':Qa):Prop:=h.length≤h'.length∧∀ (j:Nat) (b:Blk),h[j]?=some b→h'[j]?=some b∨∃ b',h'[j]?=some b'∧b'.esz=b.esz∧(b.esz≠2∨∃ bl,b=.cells bl true 2∧NoI bl)
theorem KI.trans {a b c:Qa} (x:KI a b) (y:KI b c):KI a c:=by
 refine ⟨Gn x.1 y.1,fun j u hu=>?_⟩
 rcases x.2 j u hu with h1 | ⟨b',h1,h2,h3⟩
 ·exact y.2 j u h1
 ·rcases y.2 j b' h1 with h4 | ⟨b2,h4,h5,h6⟩
  ·exact .inr ⟨b',h4,h2,h3⟩
  ·exact .inr ⟨b2,h4,h5.trans h2,h3⟩
theorem KI.ext {a b:Qa} (x:Ext a b):KI a b:=⟨x.len,fun j u h=>.inl (x.get _ _ h)⟩
theorem KI.set {h:Qa} {q:Nat} {b b':Blk} (hb:h[q]?=some b) (he:b'.esz=b.esz) (hn:b.esz≠2∨∃ bl,b=.cells bl true 2∧NoI bl):KI h (h.set q b'):=by
 refine ⟨by simp,fun j u hj=>?_⟩
 by_cases e:j=q
 ·subst e
  rw [hb] at hj
  obtain rfl:=Option.some.inj hj
  exact .inr ⟨b',GC (Gb.1 hb).1,he,hn⟩
 ·left;rw [Gj (Ne.symm e)];exact hj
theorem KI.wr {h h':Qa} {q:Nat} {a b:SV} (w:Wr h h' q a b):KI h h':=by
 obtain ⟨c,d,hc⟩:=w.old
 rw [w.eq]
 exact KI.set (b:=.cells [c,d] true 0) hc rfl (.inl (by show (0:ESz)≠2;decide))
theorem Qiz {ts:List Tm} {v:SV} (h:v∈prs (tms ts)):∃ n,v=.int .i64 n:=by
 induction ts with
 | nil=>cases h
 | cons t ts ih =>
  rcases GN.1 h with h | h
  ·exact ⟨_,h⟩
  ·rcases GN.1 h with h | h
   ·exact ⟨_,h⟩
   ·exact ih h
theorem IsD.ki {h h':Qa} {t:SV} {ts:List Tm} (d:IsD h t (tms ts)) (k:KI h h'):IsD h' t (tms ts):=by
 rcases d with d | ⟨id,off,cap,b,rfl,h1,h2,h3,h4⟩
 ·exact .inl d
 ·rcases k.2 id b h1 with h5 | ⟨b',h5,h6,h7⟩
  ·exact .inr ⟨id,off,cap,b,rfl,h5,h2,h3,h4⟩
  ·refine .inr ⟨id,off,cap,b',rfl,h5,h6.trans h2,h3,fun hp=>?_⟩
   exfalso
   obtain ⟨cs,rw',e1,e2⟩:=h4 hp
   rcases h7 with h7 | ⟨bl,h7,h8⟩
   ·exact h7 h2
   ·rw [e1] at h7
    obtain rfl:cs=bl:=(Blk.cells.inj h7).1
    unfold cut at e2
    split at e2
    ·have e3:=Option.some.inj e2
     have hne:tms ts≠[]:=fun e=>by rw [e] at hp;simp at hp
     obtain ⟨v,hv⟩:∃ v,v∈prs (tms ts):=by
      cases ts with
      | nil=>exact absurd rfl hne
      | cons t ts=>exact ⟨_,.head _⟩
     obtain ⟨n,e⟩:=Qiz hv
     rw [← e3] at hv
     exact h8 v (List.mem_of_mem_drop (List.mem_of_mem_take hv)) .i64 n e
    ·cases e2
theorem IsD.noint {h:Qa} {t:SV} {ps:List P2} (d:IsD h t ps) (k:IntKind) (n:Int):t≠.int k n:=by
 rcases d with ⟨rfl,-⟩ | ⟨id,off,cap,b,rfl,-⟩
 ·intro e;cases e
 ·intro e;cases e
def OwnX (lo:Nat) (h:Qa) (s:SV) (ps:List P2):Prop:=∃ id cap,s=.slc id 0 ps.length cap∧lo≤id∧h[id]?=some (.cells (prs ps) true 2)∧(cap=none∨cap=some ps.length)∧NoI (prs ps)
theorem OwnX.ext {lo:Nat} {h h':Qa} {s:SV} {ps:List P2} (o:OwnX lo h s ps) (e:Ext h h'):OwnX lo h' s ps:=by
 obtain ⟨id,cap,a,b,c,d⟩:=o
 exact ⟨id,cap,a,b,e.get _ _ c,d⟩
theorem OwnX.is {lo:Nat} {h:Qa} {s:SV} {ps:List P2} (o:OwnX lo h s ps):IsD h s ps:=by
 obtain ⟨id,cap,rfl,b,c,d,e⟩:=o
 have hl:=Zq ps
 refine .inr ⟨id,0,cap,_,rfl,c,rfl,fun h0=>?_,fun _=>⟨_,_,rfl,?_⟩⟩
 ·have:ps=[]:=Gz h0
  rw [this];rfl
 ·unfold cut
  rw [show ESz.n 2=2 from rfl,if_pos (by omega),Ho,GQ (by omega)]
theorem litX (h:Qa) (lo:Nat) (hl:lo≤h.length):OwnX lo (h++[.cells [] true 2]) (.slc h.length 0 0 (some 0)) []:=⟨h.length,some 0,rfl,hl,by simp [prs],.inr rfl,fun v hv=>by cases hv⟩
theorem appX {h0 h:Qa} {s:SV} {ps:List P2} {bytes:Nat} (he:Ext h0 h) (ho:OwnX h0.length h s ps) (hb:(ps.length+1)*(bytes+1)≤Yu) (a b:SV) (hn:NoI [a,b]) :
  ∃ s' h',Z4 h 2 bytes s 1 [a,b]=some (s',h')∧OwnX h0.length h' s' (ps++[(a,b)])∧Ext h0 h'∧KI h h':=by
 obtain ⟨id,cap,rfl,h1,h2,h3,h4⟩:=ho
 have hp:prs (ps++[(a,b)])=prs ps++[a,b]:=ya _ _
 have hpl:(ps++[(a,b)]).length=ps.length+1:=by simp
 have hpr:=Zq ps
 have hcut:cut (prs ps) 0 (ps.length*2)=some (prs ps):=by
  unfold cut
  rw [if_pos (by omega),Ho,GQ (by omega)]
 have hl:=he.len
 have hni:NoI (prs (ps++[(a,b)])):=by rw [hp];exact h4.app hn
 rcases h3 with rfl | rfl
 ·refine ⟨.slc h.length 0 (ps.length+1) none,h.set id (.dead 2)++[.cells (prs ps++[a,b]) true 2],?_,⟨h.length,none,by rw [hpl],hl,?_,.inl rfl,hni⟩,(he.set h1 _).app _,(KI.set (b':=.dead 2) h2 rfl (.inr ⟨_,rfl,h4⟩)).trans (.ext ⟨_,rfl⟩)⟩
  ·simp only [Z4]
   rw [if_neg (by omega),if_pos hb,h2]
   simp only [if_true,ez2,hcut]
   rw [if_pos ⟨trivial,.inl rfl⟩]
  ·rw [Gg (by simp),hp];simp
 ·refine ⟨.slc h.length 0 (ps.length+1) none,h++[.cells (prs ps++[a,b]) true 2],?_,⟨h.length,none,by rw [hpl],hl,?_,.inl rfl,hni⟩,he.app _,.ext ⟨_,rfl⟩⟩
  ·simp only [Z4]
   rw [if_neg (by omega),if_pos hb,h2]
   simp only [if_true,ez2,hcut]
   rw [if_pos (by omega)]
  ·rw [Gg (Gf _),hp];simp
section
variable {FT:FuncId→Option AFun} {HK:FuncId→Option Xj} {E:Env} {h h0:Qa} {K:Env→Qa→Prop} {d:Option Nat} {r:List AOp} {x y xo so:AO} {m n:Int}
theorem Qjk {bytes:Nat} {s t a b:SV} {ps:List P2} {z2:List SV} (he:Ext h0 h) (ho:OwnX h0.length h s ps) (hs:evS E so=some s) (hx:evS E x=some t) (ht:X7 h 2 t=some (1,[a,b])) (hb:(ps.length+1)*(bytes+1)≤Yu) (hn:NoI [a,b])
  (hw:∀ s' h',OwnX h0.length h' s' (ps++[(a,b)])→Ext h0 h'→KI h h'→Ql FT HK r (Qr d (some (.sc s')) E) h' K) :
  Ql FT HK (⟨d,.app 2 bytes z2 so x,none⟩::r) E h K:=by
 obtain ⟨s',h',h1,h2,h3,h4⟩:=appX (bytes:=bytes) he ho hb a b hn
 refine Xe (v:=some (.sc s')) (h':=h') rfl rfl ?_ (hw s' h' h2 h3 h4)
 simp only [Qm,hs,hx,Gm,ez2,ht,h1,Gl]
theorem Qbx {id i:Nat} {a b:SV} {ps:List P2} {p:AO} (ha:evS E p=some (.ptr id (0+i*2))) (hx:ev E x=some (.agg [a,b])) (hc:h[id]?=some (.cells (prs ps) true 2)) (hi:i < ps.length)
  (hw:∀ h1,h1=h.set id (.cells (prs (ps.set i (a,b))) true 2)→Ql FT HK r (Qr d none E) h1 K):Ql FT HK (⟨d,.st 2 p x,none⟩::r) E h K:=by
 refine Xe (v:=none) (h':=h.set id (.cells (prs (ps.set i (a,b))) true 2)) rfl rfl ?_ (hw _ rfl)
 have hl:=Zq ps
 have h2:i*2+(1+1)≤(prs ps).length:=by omega
 rw [Qde hi]
 simp only [Qm,ha,hx,Gm,AV.cells,Xx,hc,Xh,G0,Gl,GA,GV]
 rw [if_pos trivial,if_pos h2];rfl
end
def altN (f:Nat→List Nat→Int) (cs:List Nat):Nat→Int
 | 0=>0
 | k+1=>altN f cs k+if k%2=1 then-f (cs.getD k 0) (cs.eraseIdx k) else f (cs.getD k 0) (cs.eraseIdx k)
structure GP (f:Int→Int) (p:Pol):Prop where
 nb:p.big=false
 can:Can p.ts
 cf:∀ e,cf p.ts e=f e
def FB (K B:Nat) (f:Int→Int):Prop:=∀ e,f e≠0→e.natAbs≤K∧(f e).natAbs≤B
theorem GP.bd {f:Int→Int} {p:Pol} {K B:Nat} (g:GP f p) (h:FB K B f):∀ t∈p.ts,t.1.natAbs≤K∧t.2.natAbs≤B:=fun t ht=>by
 have e:=Z2 g.can ht
 have nz:=g.can.nz t ht
 rw [g.cf] at e
 rw [← e] at nz ⊢
 exact h _ nz
theorem GP.len {f:Int→Int} {p:Pol} {K B:Nat} (g:GP f p) (h:FB K B f):p.ts.length≤2*K+1 :=
 Jz g.can (lo := -(K:Int)) fun t ht=>by have:=(g.bd h t ht).1;omega
theorem GP.eq {f:Int→Int} {p q:Pol} (a:GP f p) (b:GP f q):p=q:=by
 obtain ⟨pb,pt⟩:=p
 obtain ⟨qb,qt⟩:=q
 have h1:=a.nb
 have h2:=b.nb
 simp only at h1 h2
 subst h1;subst h2
 congr 1
 exact Can.ext a.can b.can fun e=>(a.cf e).trans (b.cf e).symm
theorem Qdq {q:List Tm} {f:Int→Int} (h:∀ e,cf q e=f e) (e:Int):∀ l:List Tm,mc l q e=YJ l f e
 | []=>rfl
 | t::l=>by rw [Qdu,Qdq h e l,h];rfl
theorem Qkm {f:Int→Int} {p:Pol} (g:GP f p):GP (fun e => - f e) (ngP p) :=
 ⟨g.nb,Qg9 g.can,fun e=>by
  show S (dl e) (p.ts.map ngT)=_
  rw [S_ng]
  show-Go.Proofs.YtofknpknogfijaaGreatDoor.cf p.ts e=_
  rw [g.cf]⟩
theorem Qjl:GP (fun _=>0) ⟨false,[]⟩:=⟨rfl,.nil,fun _=>rfl⟩
theorem FB.mono {K K' B B':Nat} {f:Int→Int} (h:FB K B f) (h1:K≤K') (h2:B≤B'):FB K' B' f:=fun e he=>⟨Gn (h e he).1 h1,Gn (h e he).2 h2⟩
theorem QcA {K:Nat}:∀ {rows:List (List (List Tm))} {cs:List Nat} {e:Int},(∀ r∈rows,∀ l∈r,∀ t∈l,t.1.natAbs≤K)→K*rows.length < e.natAbs→dL rows cs e=0
 | [],cs,e,_,h=>by
  simp only [dL]
  rw [if_neg (by simp at h;omega)]
 | r::rs,cs,e,hb,h=>by
  simp only [dL]
  simp only [GA,Nat.mul_add] at h
  refine U0 fun c ds _ _=>Z7 fun t ht=>?_
  have hm:r.getD c []∈r∨r.getD c []=[]:=by
   rw [Ge]
   rcases h:r[c]? with _ | x
   ·exact .inr rfl
   ·exact .inl (Gh h)
  rcases hm with hm | hm
  ·have:=hb r (.head _) _ hm t ht
   exact QcA (fun q hq=>hb q (.tail _ hq)) (by omega)
  ·rw [hm] at ht;cases ht
structure EOk (p:Pol):Prop where
 nb:p.big=false
 can:Can p.ts
 len:p.ts.length≤3
 bd:∀ t∈p.ts,t.1.natAbs≤12∧t.2.natAbs≤4
theorem Ue {B:Nat}:∀ {l:List Tm},(∀ t∈l,t.2.natAbs≤B)→Yr l≤l.length*B
 | [],_=>by simp [Yr]
 | t::l,h=>by
  have:=Ue (l:=l) fun u hu=>h u (.tail _ hu)
  have:=h t (.head _)
  simp only [Yr,GA,GT];omega
theorem EOk.sum {p:Pol} (k:EOk p):Yr p.ts≤12:=by
 have:=Ue (B:=4) fun t ht=>(k.bd t ht).2
 have:=k.len
 omega
theorem Qff {r:List Pol} (h:∀ p∈r,EOk p):XP (rT r)≤r.length*12:=by
 unfold rT
 induction r with
 | nil=>simp [XP]
 | cons p r ih =>
  have:=ih fun q hq=>h q (.tail _ hq)
  have:=(h p (.head _)).sum
  simp only [Gy,XP,GA,GT];omega
theorem Qdf {B:Nat}:∀ {l:List Nat},(∀ x∈l,x≤B)→l.foldr (·*·) 1≤B ^ l.length
 | [],_=>by simp
 | x::l,h=>by
  rw [List.foldr_cons,GA,Nat.pow_succ,Hw (B ^ _)]
  exact Nat.mul_le_mul (h x (.head _)) (Qdf fun y hy=>h y (.tail _ hy))
structure ROk (n:Nat) (rows:List (List Pol)):Prop where
 n4:n≤4
 len:∀ r∈rows,r.length=n
 ok:∀ r∈rows,∀ p∈r,EOk p
theorem ROk.tail {n:Nat} {r:List Pol} {rs:List (List Pol)} (k:ROk n (r::rs)):ROk n rs:=⟨k.n4,fun q hq=>k.len q (.tail _ hq),fun q hq=>k.ok q (.tail _ hq)⟩
theorem ROk.fb {n:Nat} {rows:List (List Pol)} (k:ROk n rows) {cs:List Nat} (hs:cs.Sublist (List.range' 0 n)):FB (12*rows.length) (48 ^ rows.length) (dL (rows.map rT) cs):=by
 intro e he
 constructor
 ·refine Decidable.byContradiction fun hn=>he (QcA (K:=12) (fun r hr l hl t ht=>?_) ?_)
  ·obtain ⟨q,hq,rfl⟩:=Gu.1 hr
   obtain ⟨p,hp,rfl⟩:=Gu.1 hl
   exact ((k.ok q hq p hp).bd t ht).1
  ·rw [Gt];omega
 ·refine Gn (QdL (n:=n) hs fun r hr=>?_) ?_
  ·obtain ⟨q,hq,rfl⟩:=Gu.1 hr
   unfold rT;rw [Gt];exact k.len q hq
  ·have:=Qdf (B:=48) (l:=(rows.map rT).map XP) fun x hx=>by
    obtain ⟨y,hy,rfl⟩:=Gu.1 hx
    obtain ⟨q,hq,rfl⟩:=Gu.1 hy
    have:=Qff (k.ok q hq)
    rw [k.len q hq] at this
    have:=k.n4
    omega
   simpa using this
abbrev xp (r:List Pol) (rs:List (List Pol)) (e:Int) (c:Nat) (ds:List Nat):Int:=YJ ((rT r).getD c []) (dL (rs.map rT) ds) e
theorem eok {e:Ent} (h:smE e):EOk (PE e):=by
 obtain ⟨h1,h2,h3,h4⟩:=h
 obtain ⟨r,e1,can,hr,-⟩:=Vv (low:=e.1) (xs:=e.2) (fun x hx=>by have:=h4 x hx;simp only [cM];omega) (by simp only [eM];omega) (fun i hi=>by simp only [eM];omega)
 have hv:∀ t∈r,t.2.natAbs≤4:=fun t ht=>by
  have hc:=Qag (low:=e.1) (xs:=e.2) (i:=e.2.length) (r:=r) (by
   unfold ofP at e1
   cases h:ofN e.1 e.2 e.2.length with
   | none=>rw [h] at e1;cases e1
   | some q=>rw [h] at e1;simp at e1;rw [e1])
  have h5:=Z2 hc.1 ht
  have h6:=hr t ht
  rw [hc.2.2,if_pos ⟨h6.1,h6.2.1⟩] at h5
  have hm:e.2.getD (t.1-e.1).toNat 0∈e.2:=by
   rw [Ge,Ga (by omega)];exact GD _
  have:=h4 _ hm
  omega
 unfold PE
 rw [e1]
 refine ⟨rfl,can,?_,fun t ht=>⟨?_,hv t ht⟩⟩
 ·have:=Jz can (lo:=e.1) (n:=e.2.length) fun t ht=>⟨(hr t ht).1,(hr t ht).2.1⟩
  simp only;omega
 ·have:=hr t ht
  simp only at *;omega
def PRF:List (List Tm)→Int→Int
 | []=>fun e=>if e=0 then 1 else 0
 | p::ps=>YJ p (PRF ps)
structure PF (n:Nat) (f:Int→Int):Prop where
 fb:FB (12*n) (12 ^ n) f
 sp:∃ lo:Int,∀ e,f e≠0→lo≤e∧e≤lo+2*(n:Int)
theorem Qdp {l:List Tm} {f:Int→Int} {e:Int} (h:YJ l f e≠0):∃ t∈l,f (e-t.1)≠0:=by
 refine Decidable.byContradiction fun hn=>h (Z7 fun t ht=>?_)
 refine Decidable.byContradiction fun h2=>hn ⟨t,ht,h2⟩
theorem GP.pok {f:Int→Int} {p:Pol} (g:GP f p) (h:FB eM cM f):Pok p:=⟨fun hb=>(by rw [g.nb] at hb;cases hb),g.can,fun t ht=>(g.bd h t ht).2,fun t ht=>(g.bd h t ht).1⟩
theorem EOk.pok {p:Pol} (k:EOk p):Pok p:=⟨fun hb=>(by rw [k.nb] at hb;cases hb),k.can,fun t ht=>by have:=k.bd t ht;simp only [cM];omega,fun t ht=>by have:=k.bd t ht;simp only [eM];omega⟩
theorem QdE {f:Int→Int} {p q:Pol} (g:GP f p) (hf:FB 524288 cM f) (kq:Pok q) (bq:q.big=false) (hq:Bd 524288 q.ts) (hb:∀ e,(YJ q.ts f e).natAbs≤cM):GP (YJ q.ts f) (Yl p q):=by
 have kp:=g.pok (hf.mono (by decide) (Gf _))
 obtain ⟨L,hc,hs,he⟩:=Qf8 kp kq g.nb bq (fun t ht=>(g.bd hf t ht).1) hq
 have hcf:∀ e,cf L e=YJ q.ts f e:=fun e=>by
  show S (dl e) L=_
  rw [hs]
  show mc p.ts q.ts e=_
  rw [Qdv,Qdq g.cf]
 have:∀ t∈L,t.2.natAbs≤cM:=fun t ht=>by
  rw [← Z2 hc ht,hcf];exact hb _
 rw [he,if_pos this]
 exact ⟨rfl,hc,hcf⟩
def evS (k:Nat) (x:Int):List Tm→Int
 | []=>0
 | t::l=>t.2*x ^ (t.1+k).toNat+evS k x l
def evF (k:Nat) (f:Int→Int) (x:Int):Int:=sm (2*k+1) fun j=>f ((j:Int)-k)*x ^ j
def SpF (k:Nat) (f:Int→Int):Prop:=∀ e:Int,k < e.natAbs→f e=0
theorem SpF.mono {j k:Nat} {f:Int→Int} (h:SpF j f) (hk:j≤k):SpF k f:=fun e he=>h e (by omega)
theorem QdI (k:Nat) (x:Int):∀ {l:List Tm},(∀ t∈l,t.1.natAbs≤k)→evS k x l=evT x (shL (-(k:Int)) l)
 | [],_=>rfl
 | t::l,h=>by
  have ih:=QdI k x (l:=l) fun u hu=>h u (.tail _ hu)
  unfold shL at ih ⊢
  simp only [Gy,evS,evT]
  rw [ih,show t.1 - -(k:Int)=t.1+k by omega]
theorem Qbn {k M:Nat} {x:Int} {f:Int→Int} (hf:SpF M f) {l:List Tm} (hl:∀ t∈l,t.1.natAbs≤k):evF (k+M) (YJ l f) x=evS k x l*evF M f x:=by
 have h1:=Qak (x:=x) (f:=fun e=>f (e-M)) (M:=2*M) (N:=2*(k+M)) (fun e he=>hf _ (by omega)) (l:=shL (-(k:Int)) l) fun t ht=>by
  unfold shL at ht
  obtain ⟨u,hu,rfl⟩:=Gu.1 ht
  have:=hl u hu
  simp only;omega
 have h2:∀ e:Int,YJ (shL (-(k:Int)) l) (fun e=>f (e-M)) e=YJ l f (e-((k+M:Nat):Int)):=fun e=>by
  rw [UC (low := -(k:Int)) (s := -(M:Int)) (f:=fun e=>f (e-M)) (g:=f) (fun e=>by rw [Int.sub_eq_add_neg])]
  congr 1;omega
 unfold evF
 rw [QdI k x hl,← h1]
 exact XK fun j _=>by rw [h2]
theorem Qfy:∀ {n:Nat} {c:Nat→Int},(∀ x:Int,1≤x→sm n (fun j=>c j*x ^ j)=0)→∀ j,j < n→c j=0
 | 0,c,h,j,hj=>by omega
 | n+1,c,h,j,hj=>by
  have split:∀ x:Int,sm (n+1) (fun j=>c j*x ^ j)=c 0+x*sm n (fun j=>c (j+1)*x ^ j):=fun x=>by
   rw [Nat.add_comm,qT]
   simp only [sm]
   rw [← Zh]
   have:∀ i,c (1+i)*x ^ (1+i)=x*(c (i+1)*x ^ i):=fun i=>by
    rw [Nat.add_comm 1 i,Int.pow_succ,Int.mul_comm (x ^ i) x,Int.mul_left_comm]
   rw [XK (g:=fun i=>x*(c (i+1)*x ^ i)) fun i _=>this i]
   simp
  have c0:c 0=0:=by
   have h1:=h ((c 0).natAbs+1) (by omega)
   rw [split] at h1
   generalize sm n (fun j=>c (j+1)*(((c 0).natAbs:Int)+1) ^ j)=s at h1
   refine Decidable.byContradiction fun hn=>?_
   have hd:((c 0).natAbs+1:Int) ∣ c 0:=⟨-s,by rw [Int.mul_neg];omega⟩
   have:=Int.le_of_dvd (a:=((c 0).natAbs+1:Int)) (b:=(c 0).natAbs) (by omega) (Int.dvd_natAbs.2 hd)
   omega
  rcases j with _ | j
  ·exact c0
  ·refine Qfy (n:=n) (c:=fun j=>c (j+1)) (fun x hx=>?_) j (by omega)
   have h1:=h x hx
   rw [split,c0,Int.zero_add] at h1
   rcases Int.mul_eq_zero.1 h1 with h2 | h2
   ·omega
   ·exact h2
theorem Qcz {k:Nat} {f g:Int→Int} (hf:SpF k f) (hg:SpF k g) (h:∀ x:Int,1≤x→evF k f x=evF k g x) (e:Int):f e=g e:=by
 by_cases he:k < e.natAbs
 ·rw [hf e he,hg e he]
 ·have:=Qfy (n:=2*k+1) (c:=fun j=>f ((j:Int)-k)-g ((j:Int)-k)) (fun x hx=>by
   have h1:=h x hx
   unfold evF at h1
   rw [XK (g:=fun j=>f ((j:Int)-k)*x ^ j+(-1)*(g ((j:Int)-k)*x ^ j)) fun j _=>by rw [Int.sub_mul];omega,V2,Zh,h1]
   omega) (e+k).toNat (by omega)
  rw [show (((e+k).toNat:Nat):Int)-k=e by omega] at this
  omega
theorem Qme {k m:Nat} {f:Int→Int} (hf:SpF k f) (x:Int):evF (k+m) f x=x ^ m*evF k f x:=by
 unfold evF
 rw [show 2*(k+m)+1=m+(2*k+1+m) by omega,qT,XK (n:=m) (g:=fun _=>0) fun i hi=>by rw [hf _ (by omega),Hr],sm_zero,Int.zero_add,Qb9 (n:=2*k+1) _ (by omega) fun j hj=>by rw [hf _ (by omega),Hr],← Zh]
 refine XK fun i _=>?_
 rw [show ((m+i:Nat):Int)-((k+m:Nat):Int)=(i:Int)-k by omega,Int.pow_add,Int.mul_left_comm]
theorem Qjs {k:Nat} {f:Int→Int} (x:Int):evF k (fun e => - f e) x = - evF k f x:=by
 unfold evF
 rw [XK (g:=fun j=>(-1)*(f ((j:Int)-k)*x ^ j)) fun j _=>by rw [Int.neg_mul];omega,Zh];omega
theorem QgN {k:Nat} (x:Int):evF k (fun _=>0) x=0:=by
 unfold evF
 rw [XK (g:=fun _=>0) fun j _=>by rw [Hr],sm_zero]
theorem VL {k:Nat} {f g:Int→Int} (h:∀ e,f e=g e) (x:Int):evF k f x=evF k g x:=by
 have:f=g:=funext h
 rw [this]
def evW (k:Nat) (x:Int) (r:List (List Tm)):Row:=fun c=>evS k x (r.getD c [])
theorem Qko {k:Nat} {rows:List (List (List Tm))} {cs:List Nat} (h:∀ r∈rows,∀ l∈r,∀ t∈l,t.1.natAbs≤k):SpF (k*rows.length) (dL rows cs):=fun e he=>QcA h he
theorem QjW {k:Nat} {x:Int} {cs:List Nat} {F:Nat→List Nat→Int→Int}:evF k (fun e=>alt (fun c ds=>F c ds e) cs) x=alt (fun c ds=>evF k (F c ds) x) cs:=by
 unfold evF
 rw [QhQ]
 exact XK fun j _=>by rw [← Qb3]
theorem Qjn {k:Nat} {r:List (List Tm)} (h:∀ l∈r,∀ t∈l,t.1.natAbs≤k) (c:Nat):∀ t∈r.getD c [],t.1.natAbs≤k:=by
 intro t ht
 rw [Ge] at ht
 rcases hc:r[c]? with _ | y
 ·rw [hc] at ht;cases ht
 ·rw [hc] at ht;exact h y (Gh hc) t ht
theorem Qg1 {k:Nat} {x:Int}:∀ {rows:List (List (List Tm))} {cs:List Nat},(∀ r∈rows,∀ l∈r,∀ t∈l,t.1.natAbs≤k)→D (rows.map (evW k x)) cs=evF (k*rows.length) (dL rows cs) x
 | [],cs,_=>by
  show 1=evF 0 (dL [] cs) x
  simp [evF,sm,dL]
 | r::rs,cs,h=>by
  have hs:∀ ds,SpF (k*rs.length) (dL rs ds):=fun ds=>Qko fun q hq=>h q (.tail _ hq)
  rw [Gy,XB]
  have e:evF (k*(r::rs).length) (dL (r::rs) cs) x=evF (k+k*rs.length) (fun e=>alt (fun c ds=>YJ (r.getD c []) (dL rs ds) e) cs) x:=by
   rw [GA,Nat.mul_succ,Nat.add_comm];rfl
  rw [e,QjW]
  refine Ya fun c ds=>?_
  rw [Qg1 fun q hq=>h q (.tail _ hq),Qbn (hs ds) (Qjn (h r (.head _)) c)]
  rfl
