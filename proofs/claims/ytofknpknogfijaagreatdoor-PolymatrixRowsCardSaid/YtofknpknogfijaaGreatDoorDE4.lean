/- The determinant: the exponents of all rows. -/
import Derived.Test.YtofknpknogfijaaGreatDoorDE1
import Derived.Test.YtofknpknogfijaaGreatDoorAb50
namespace Go.Proofs.YtofknpknogfijaaGreatDoor
open Go.Ab
set_option linter.all false
set_option maxHeartbeats 16000000
set_option maxRecDepth 20000
attribute [local irreducible] Ql wA Xr Xp QA Qp QW QY
variable [HB]
def bF (r:List Pol):Int:=QjU (YT r)
def bS (r:List Pol):Int:=QjT (YT r)
theorem Vi {B:Nat}:∀ {k:Nat} {f:Nat→Int},(∀ j,j < k→(f j).natAbs≤B)→(sm k f).natAbs≤k*B
 | 0,_,_=>by simp [sm]
 | k+1,f,h=>by
  have h1:=Vi (k:=k) (f:=f) fun j hj=>h j (by omega)
  have h2:=h k (by omega)
  simp only [sm,GT,Nat.one_mul]
  omega
def ZE (m:List (List Pol)) (k:Nat):Int:=sm k fun j=>bF (m.getD j [])
def Jx (m:List (List Pol)) (k:Nat):Int:=sm k fun j=>bS (m.getD j [])-bF (m.getD j [])
def I40a (m:List (List Pol)) (ms:SV) (q2 lid:Nat) (hb:Qa) (mm:Nat) (E:Env) (h:Qa):Prop:=∃ i,i≤m.length∧mm=m.length-i∧Ext hb h∧Bi h lid (yz (fun j=>bF (m.getD j [])) m.length i)∧(∀ j,j < i→YT (m.getD j [])≠none∨m.getD j []=[]) ∧
 E.keep [0,2,4,5,6,24,25,26]=[(0,some (.sc ms)),(2,some (.sc (.ptr q2 0))),(4,some (.sc (.slc lid 0 m.length (some m.length)))),(5,some (.sc (.int .i64 (ZE m i)))),(6,some (.sc (.int .i64 (Jx m i)))),(24,some (.sc ms)),(25,some (.sc (.int .i64 (m.length:Nat)))),(26,some (.sc (.int .i64 (i:Nat))))]
def R40a (m:List (List Pol)) (ms:SV) (q2 lid:Nat) (h0 hb:Qa) (ex:Ex) (E:Env) (h:Qa):Prop :=
 (ex=.ex 0∧Ext hb h∧Bi h lid ((List.range m.length).map fun j=>bF (m.getD j []))∧(∀ j,j < m.length→YT (m.getD j [])≠none∨m.getD j []=[]) ∧
  ∃ a b c d,E=[(0,some (.sc ms)),(2,some (.sc (.ptr q2 0))),(4,some (.sc (.slc lid 0 m.length (some m.length)))),(5,some (.sc (.int .i64 (ZE m m.length)))),(6,some (.sc (.int .i64 (Jx m m.length)))),(24,a),(25,b),(26,c),(27,d)]) ∨
 (ex=.rt∧Ext h0 h∧Cel h q2 (.bool false) .nilS∧(∃ j,j < m.length∧YT (m.getD j [])=none∧m.getD j []≠[])∧E=[(2,some (.sc (.ptr q2 0))),(3,some (.sc (.bool true)))])
theorem QfL (m:List (List Pol)) (ms:SV) (q2 lid:Nat) (h0 hb:Qa) (hx:Ext h0 hb) (hn:m.length≤1000) (pm:PolMx hb ms m) (c2:Cel hb q2 (.bool false) .nilS) (hq:h0.length≤q2) (hl:hb.length≤lid) (ok:∀ r∈m,r.length≤1000000∧(∀ p∈r,p.big=false∧p.ts.length≤100000)∧(bF r).natAbs≤10000000∧(bS r).natAbs≤10000000) (mm:Nat) (E:Env) (h:Qa) (hI:I40a m ms q2 lid hb mm E h) :
  wA FT HKt QkD (E.keep [0,2,4,5,6,24,25,26]) h (Qp (I40a m ms q2 lid hb) mm (R40a m ms q2 lid h0 hb)):=by
 obtain ⟨i,hi,rfl,x,bl,hall,hE⟩:=hI
 rw [hE]
 by_cases hlt:i < m.length
 ·obtain ⟨r,hr⟩:∃ r,m[i]?=some r:=⟨_,Ga hlt⟩
  have er:m.getD i []=r:=by rw [Ge,hr];rfl
  obtain ⟨id,off,cap,rs,es,rd,pr⟩:=pm.at hr
  subst es
  obtain ⟨ok1,ok2,ok3,ok4⟩:=ok r (Gh hr)
  have rd0:=QH x rd
  have lr:=pr.len
  have all:∀ j,j < i→(bF (m.getD j [])).natAbs≤10000000∧(bS (m.getD j [])).natAbs≤10000000:=fun j hj=>by
   have hm:m.getD j []∈m:=by rw [Ge,Ga (by omega)];exact GD _
   exact (ok _ hm).2.2
  have b1:(ZE m i).natAbs≤i*10000000:=Vi fun j hj=>(all j hj).1
  have b2:(Jx m i).natAbs≤i*20000000:=Vi fun j hj=>by have:=all j hj;omega
  have l1:ZE m (i+1)=ZE m i+bF r:=by show sm (i+1) _=_;simp only [sm,er];rfl
  have l2:Jx m (i+1)=Jx m i+(bS r-bF r):=by show sm (i+1) _=_;simp only [sm,er];rfl
  have fs:=QbO (f:=fun j=>bF (m.getD j [])) hlt
  simp only [er] at fs
  have wv:=fun h' (y:Ext h h')=>(bl.ext y).wr (i:=i) (y:=bF r) (by rw [QbP];exact hlt)
  rw [fs] at wv
  repeat' (first | refine Qg ?_ | refine Qb ?_ | refine Qv ?_ | refine Qn ?_ | refine Qf ?_ | ((refine Qh ?_);refine Qj rfl ?_) | ((refine Qe ?_);first | refine Q5 rfl rfl rfl rfl rfl rfl rfl rfl rfl ?_ | refine Xy rfl rfl rfl rfl rfl rfl rfl rfl rfl rfl ?_ | refine Yy rfl rfl rfl rfl rfl rfl rfl rfl rfl rfl rfl rfl rfl ?_ | refine ZH rfl rfl rfl rfl rfl rfl rfl rfl rfl rfl rfl rfl rfl rfl rfl rfl ?_) | ((refine Qc ?_);first | refine Qw (esz:=1) rfl rfl (by omega) ?_ | refine Q4 rfl rd0 ?_ | refine Qs rfl lr ?_ | refine Qo rfl ?_ | refine Qy rfl rfl (by omega) ?_))
  refine Q9 (I40b r rs (.sc (.slc id off m.length cap)) (.sc (.ptr q2 0)) (.sc (.slc lid 0 m.length (some m.length))) (.sc (.int .i64 (ZE m i))) (.sc (.int .i64 (Jx m i))) (.sc (.int .i64 (i:Nat))) (.sc (.slc id off m.length cap)) (.sc (.int .i64 (m.length:Nat))) (.sc (.int .i64 (i:Nat))) h) r.length (R40b r rs (.sc (.slc id off m.length cap)) (.sc (.ptr q2 0)) (.sc (.slc lid 0 m.length (some m.length))) (.sc (.int .i64 (ZE m i))) (.sc (.int .i64 (Jx m i))) (.sc (.int .i64 (i:Nat))) (.sc (.slc id off m.length cap)) (.sc (.int .i64 (m.length:Nat))) (.sc (.int .i64 (i:Nat))) h)
   ⟨0,Gs _,rfl,Ext.refl _,rfl⟩ (QfK r rs _ _ _ _ _ _ _ _ _ h (pr.ext x) ok1 ok2) ?_
  rintro ex E' h2 ⟨rfl,x2,_,_,_,_,rfl⟩
  have eF:QjU (YT r)=bF r:=rfl
  have eS:QjT (YT r)=bS r:=rfl
  rw [eF,eS]
  have c2':=(c2.ext x).ext x2
  cases hB:YT r with
  | none =>
   by_cases hr0:r=[]
   ·have hr1:r.length=0:=by rw [hr0];rfl
    generalize bF r=F at *
    generalize bS r=S at *
    repeat' (first | refine Qg ?_ | refine Qb ?_ | refine QJ ?_ | refine QP ?_ | refine Qn ?_ | refine Qf ?_ | ((refine Qh ?_);refine Qk rfl ?_) | ((refine Qe ?_);first | refine Xa rfl rfl rfl rfl rfl rfl rfl rfl ?_ | refine Xy rfl rfl rfl rfl rfl rfl rfl rfl rfl rfl ?_ | refine XC rfl rfl rfl rfl rfl rfl rfl rfl rfl rfl rfl rfl ?_) | ((refine Qc ?_);first | refine Qs rfl lr ?_ | refine Qw (esz:=1) rfl rfl (by omega) ?_ | refine ZX rfl rfl (wv _ x2) ?_ | refine QL rfl ?_ | refine Qo rfl ?_ | refine QS rfl rfl ?_ | refine Yw rfl ?_ | refine QK rfl rfl (by omega) ?_ | refine Z8 rfl rfl (by omega) ?_ | refine XT rfl rfl (by omega) ?_))
    rw [← l1,← l2]
    refine QB (j:=m.length-(i+1)) (by omega) ⟨i+1,by omega,rfl,Ext.setF (x.trans x2) hl _,(bl.ext x2).set,fun j hj=>?_,rfl⟩
    by_cases e:j=i
    ·subst e;rw [er];exact .inr hr0
    ·exact hall j (by omega)
   ·have hr1:0 < r.length:=G5.2 hr0
    repeat' (first | refine Qg ?_ | refine Qb ?_ | refine QD ?_ | refine QP ?_ | refine Xs ?_ | refine Qt ?_ | refine Qf ?_ | ((refine Qh ?_);refine Qj rfl ?_) | ((refine Qe ?_);first | refine QE rfl rfl ?_ | refine XC rfl rfl rfl rfl rfl rfl rfl rfl rfl rfl rfl rfl ?_) | ((refine Qc ?_);first | refine Qs rfl lr ?_ | refine XE rfl rfl ?_ | (refine Xm rfl rfl c2' ?_;intro h3 w3) | refine QL rfl ?_ | refine Qo rfl ?_ | refine QS rfl rfl ?_ | refine Yw rfl ?_ | refine XV rfl rfl (by omega) ?_))
    exact XI (.inr ⟨rfl,w3.ext ((hx.trans x).trans x2) hq,w3.cel,⟨i,hlt,by rw [er];exact hB,by rw [er];exact hr0⟩,rfl⟩)
  | some B =>
   generalize bF r=F at *
   generalize bS r=S at *
   repeat' (first | refine Qg ?_ | refine Qb ?_ | refine QJ ?_ | refine QP ?_ | refine Qn ?_ | refine Qf ?_ | ((refine Qh ?_);refine Qk rfl ?_) | ((refine Qe ?_);first | refine Xa rfl rfl rfl rfl rfl rfl rfl rfl ?_ | refine Xy rfl rfl rfl rfl rfl rfl rfl rfl rfl rfl ?_ | refine XC rfl rfl rfl rfl rfl rfl rfl rfl rfl rfl rfl rfl ?_) | ((refine Qc ?_);first | refine Qw (esz:=1) rfl rfl (by omega) ?_ | refine ZX rfl rfl (wv _ x2) ?_ | refine Xd rfl ?_ | refine Qo rfl ?_ | refine QC rfl rfl ?_ | refine XR rfl ?_ | refine QK rfl rfl (by omega) ?_ | refine Z8 rfl rfl (by omega) ?_))
   rw [← l1,← l2]
   refine QB (j:=m.length-(i+1)) (by omega) ⟨i+1,by omega,rfl,Ext.setF (x.trans x2) hl _,(bl.ext x2).set,fun j hj=>?_,rfl⟩
   by_cases e:j=i
   ·subst e;rw [er];exact .inl (by rw [hB];simp)
   ·exact hall j (by omega)
 ·have:i=m.length:=by omega
  subst this
  rw [VJ] at bl
  repeat' (first | refine Qg ?_ | refine Qb ?_ | refine Q0 ?_ | refine QX ?_ | refine Qf ?_ | ((refine Qh ?_);refine Qk rfl ?_) | ((refine Qe ?_);refine Q5 rfl rfl rfl rfl rfl rfl rfl rfl rfl ?_) | ((refine Qc ?_);refine QM rfl rfl (by omega) ?_))
  exact QN (.inl ⟨rfl,x,bl,hall,_,_,_,_,rfl⟩)
section
variable {FT:FuncId→Option AFun} {HK:FuncId→Option Xj} {E:Env} {h:Qa} {K:Env→Qa→Prop} {d:Option Nat} {r:List AOp} {x:AO}
theorem Qgw {a z0:SV} (hx:ev E x=some (.sc a)) (hw:∀ h1,Ext h h1→X7 h1 1 (.slc h.length 0 1 (some 1))=some (1,[a])→Ql FT HK r (Qr d (some (.sc (.slc h.length 0 1 (some 1)))) E) h1 K):Ql FT HK (⟨d,.bsl 1 [z0] 1 [(0,x)],none⟩::r) E h K:=by
 refine Xe (v:=some (.sc (.slc h.length 0 1 (some 1)))) (h':=h++[.cells [a] true 1]) rfl rfl ?_ (hw _ ⟨_,rfl⟩ (by simp [X7,QZ,cut]))
 simp [Qm,Yp,hx,AV.cells,ZB,rep,Xh]
end
theorem rdC {h:Qa} {q i:Nat} {cs:List SV} {rw':Bool} {z:ESz} {v:SV} (hb:h[q]?=some (.cells cs rw' z)) (hi:cs[i]?=some v):QZ h q (0+i*1) 1=some [v]:=by
 obtain ⟨hl,hv⟩:=Gb.1 hi
 simp only [QZ,hb,cut]
 rw [if_pos (by omega),G0,G3]
 congr 1
 rw [GS hl,hv];rfl
theorem IsD.not1 {h:Qa} {s:SV} {ps:List P2} (ho:IsD h s ps) {j:Nat} {cs:List SV} {rw':Bool} (hj:h[j]?=some (.cells cs rw' 1)):X1 s j:=by
 rcases ho with ⟨rfl,-⟩ | ⟨id,off,cap,b,rfl,h1,h2,-⟩
 ·intro o n c e;cases e
 ·intro o n c e;cases e
  rw [hj] at h1;simp at h1;subst h1
  exact absurd (show (1:ESz)=2 from h2) (by decide)
theorem Own.apD {h0 h:Qa} {s t:SV} {vs:List SV} {ps:List P2} (o:Own h0 h s vs) (d:IsD h t ps):Apart s t:=by
 intro j
 rcases o with ⟨rfl,-⟩ | ⟨id,cap,cs,rfl,h1,h2,h3⟩
 ·exact .inl fun o n c e=>by cases e
 ·by_cases e:id=j
  ·subst e;exact .inr (IsD.not1 d h2)
  ·exact .inl fun o n c e2=>by cases e2;exact e rfl
theorem Own.setB {h0 h:Qa} {s:SV} {vs:List SV} (o:Own h0 h s vs) {j:Nat} (hn:X1 s j) (b:Blk):Own h0 (h.set j b) s vs:=by
 rcases o with o | ⟨id,cap,bl,rfl,h1,h2,h3⟩
 ·exact .inl o
 ·exact .inr ⟨id,cap,bl,rfl,h1,by rw [Gj (fun e=>by subst e;exact hn _ _ _ rfl)];exact h2,h3⟩
structure S40 (eid i:Nat) (top:List SV) (ls:List (List Tm)) (s:SV) (hb H h:Qa):Prop where
 x:Ext hb h
 c:Chg (·=eid) H h
 t:h[eid]?=some (.cells (top.set i s) true 1)
 o:∃ vs,vs.length=ls.length∧Own hb h s vs∧∀ (k:Nat) (t:SV) (l:List Tm),vs[k]?=some t→ls[k]?=some l→IsD h t (tms l)
 lo:∀ j,j < H.length→X1 s j
theorem S40.ext {eid i:Nat} {top:List SV} {ls:List (List Tm)} {s:SV} {hb H h h':Qa} (a:S40 eid i top ls s hb H h) (e:Ext h h'):S40 eid i top ls s hb H h':=by
 obtain ⟨vs,o1,o2,o3⟩:=a.o
 exact ⟨a.x.trans e,a.c.ext e,e.get _ _ a.t,⟨vs,o1,o2.ext e,fun k t l p q=>(o3 k t l p q).ext e⟩,a.lo⟩
theorem S40.push {eid i:Nat} {top:List SV} {ls:List (List Tm)} {s s' t:SV} {l:List Tm} {vs:List SV} {hb H h h':Qa} (a:S40 eid i top ls s hb H h) (hbe:hb.length≤eid) (he:eid < H.length)
  (o1:vs.length=ls.length) (o2:Own hb h s vs) (o3:∀ (k:Nat) (t:SV) (l:List Tm),vs[k]?=some t→ls[k]?=some l→IsD h t (tms l)) (d:IsD h t (tms l))
  (on:Own hb h' s' (vs++[t])) (xn:Ext hb h') (f:Fram h h' s s') (hl:h.length≤h'.length) :
  h'[eid]?=some (.cells (top.set i s) true 1)∧S40 eid i top (ls++[l]) s' hb H (h'.set eid (.cells ((top.set i s).set i s') true 1)):=by
 have ns:=a.lo eid he
 have fe:=f _ _ a.t ns
 refine ⟨fe.1,Ext.setF xn hbe _,?_,?_,⟨vs++[t],by simp [o1],Own.setB on fe.2 _,?_⟩,?_⟩
 ·have c1:Chg (·=eid) H h':=⟨Gn a.c.len hl,fun j hj hs=>by
   obtain ⟨b,hbj⟩:∃ b,h[j]?=some b:=⟨_,Ga (GG hj a.c.len)⟩
   rw [(f _ _ hbj (a.lo j hj)).1,← hbj];exact a.c.same j hj hs⟩
  exact c1.set rfl _
 ·rw [GC (Gb.1 fe.1).1,List.set_set]
 ·intro k u m hk hm
  have mv:∀ {u:SV} {m:List Tm},IsD h u (tms m)→IsD (h'.set eid (.cells ((top.set i s).set i s') true 1)) u (tms m):=fun hd=>by
   have h2:=IsSl.away hd f (Own.apD o2 hd)
   exact IsSl.setB h2 (IsD.not1 h2 fe.1) _
  rcases Gw k vs.length with h1 | h1
  ·rw [Gk h1] at hk
   rw [Gk (by omega)] at hm
   exact mv (o3 k u m hk hm)
  ·rw [Gg h1] at hk
   rw [Gg (by omega)] at hm
   rw [o1] at hk
   cases hk0:k-ls.length with
   | zero=>rw [hk0] at hk hm;simp at hk hm;subst hk;subst hm;exact mv d
   | succ n=>rw [hk0] at hk;simp at hk
 ·intro j hj
  obtain ⟨b,hbj⟩:∃ b,h[j]?=some b:=⟨_,Ga (GG hj a.c.len)⟩
  exact (f _ _ hbj (a.lo j hj)).2
def I40c (low:Int) (r:List Pol) (rs:SV) (q2 lid eid n i:Nat) (top:List SV) (a5 a6 a86 a87 a88:AV) (hb H:Qa) (m:Nat) (E:Env) (h:Qa):Prop:=∃ k s,k≤r.length∧m=r.length-k∧S40 eid i top ((r.take k).map fun p=>shL low p.ts) s hb H h ∧
 E.keep [2,4,5,6,14,15,86,87,88,93,94,95]=[(2,some (.sc (.ptr q2 0))),(4,some (.sc (.slc lid 0 n (some n)))),(5,some a5),(6,some a6),(14,some (.sc (.slc eid 0 n (some n)))),(15,some (.sc (.int .i64 (i:Nat)))),(86,some a86),(87,some a87),(88,some a88),(93,some (.sc rs)),(94,some (.sc (.int .i64 (r.length:Nat)))),(95,some (.sc (.int .i64 (k:Nat))))]
def R40c (low:Int) (r:List Pol) (q2 lid eid n i:Nat) (top:List SV) (a5 a6 a86 a87 a88:AV) (hb H:Qa) (ex:Ex) (E:Env) (h:Qa):Prop:=ex=.ex 7∧(∃ s,S40 eid i top (r.map fun p=>shL low p.ts) s hb H h) ∧
 ∃ a b c d e,E=[(2,some (.sc (.ptr q2 0))),(4,some (.sc (.slc lid 0 n (some n)))),(5,some a5),(6,some a6),(14,some (.sc (.slc eid 0 n (some n)))),(15,e),(86,some a86),(87,some a87),(88,some a88),(93,a),(94,b),(95,c),(96,d)]
theorem QfJ (low:Int) (r:List Pol) (rs:SV) (q2 lid eid n i:Nat) (top:List SV) (lows:List Int) (a5 a6 a86 a87 a88:AV) (hb H:Qa) (pr:PolRow hb rs r) (hr:r.length≤100000) (ok:∀ p∈r,Can p.ts∧p.big=false∧p.ts.length≤100000∧∀ t∈p.ts,t.1.natAbs≤10000000) (hlow:low.natAbs≤10000000) (bl:Bi hb lid lows) (ll:lows[i]?=some low) (hi:i < n) (ht:top.length=n) (hbe:hb.length≤eid) (heH:eid < H.length) (m:Nat) (E:Env) (h:Qa) (hI:I40c low r rs q2 lid eid n i top a5 a6 a86 a87 a88 hb H m E h) :
  wA FT HKt QkA (E.keep [2,4,5,6,14,15,86,87,88,93,94,95]) h (Qp (I40c low r rs q2 lid eid n i top a5 a6 a86 a87 a88 hb H) m (R40c low r q2 lid eid n i top a5 a6 a86 a87 a88 hb H)):=by
 obtain ⟨k,s,hk,rfl,sv,hE⟩:=hI
 rw [hE]
 by_cases hlt:k < r.length
 ·obtain ⟨p,hp⟩:∃ p,r[k]?=some p:=⟨_,Ga hlt⟩
  obtain ⟨id,off,cap,t,es,rd,dt⟩:=pr.at hp
  subst es
  obtain ⟨ca,hbig,hlen,hex⟩:=ok p (Gh hp)
  have rd0:=QH sv.x rd
  have nx:((r.take (k+1)).map fun p=>shL low p.ts)=((r.take k).map fun p=>shL low p.ts)++[shL low p.ts]:=by
   rw [GF,hp,Hb];rfl
  have k65:=fun h' (y:Ext hb h')=>Qmq h' p.big t p.ts low hlow (dt.ext y) ca hlen hex
  have rl:=fun h' (y:Ext hb h')=>(bl.ext y).rd ll
  have re:=fun (h':Qa) (s':SV) (y:h'[eid]?=some (Blk.cells (top.set i s') true 1))=>rdC (i:=i) (v:=s') y (by rw [GC (by omega)])
  have a0:=sv
  repeat' (first | refine Qg ?_ | refine Qb ?_ | refine Qv ?_ | refine QJ ?_ | refine Qn ?_ | refine Qf ?_ | refine Q2 ?_ | refine Xk ?_ | refine Xl ?_ | ((refine Qh ?_);refine Qj rfl ?_) | ((refine Qe ?_);first | refine Q1 ?_ | refine Xw ?_ | refine XZ (by assumption) ?_ | refine XC rfl rfl rfl rfl rfl rfl rfl rfl rfl rfl rfl rfl ?_ | refine Yy rfl rfl rfl rfl rfl rfl rfl rfl rfl rfl rfl rfl rfl ?_) | ((refine Qc ?_);first | refine Qw (esz:=2) rfl rfl (by omega) ?_ | refine Qw (esz:=1) rfl rfl (by omega) ?_ | refine XX rfl rd0 ?_ | (refine qq rfl ?_;intro h1 e1 c18;replace a0:=a0.ext e1) | refine QI rfl c18 ?_ | (refine Q4 rfl (re _ _ a0.t) ?_;have used:=True.intro) | (refine Q4 rfl (rl _ a0.x) ?_;have z:=used) | (refine Qi rfl (k65 _ a0.x) ?_;rintro v h2 ⟨e2,st,rfl,od⟩;replace a0:=a0.ext e2;obtain ⟨vs,o1,o2,o3⟩:=a0.o) | (refine Qgw rfl ?_;intro h3 e3 s3;replace a0:=a0.ext e3) | (refine Qkl (ws:=[st]) a0.x (o2.ext e3) rfl rfl s3 (by rw [o1];simp only [Gt,Hn,GA,GV];unfold Yu;omega) ?_;intro s5 h5 o5 x5 l5 fr5;obtain ⟨te,a6'⟩:=a0.push (l:=shL low p.ts) hbe heH o1 (o2.ext e3) (fun k t l p q=>(o3 k t l p q).ext e3) (od.is.ext e3) o5 x5 fr5 l5) | refine ZX rfl rfl (wr1 te (by rw [G1];omega)) ?_ | refine Qo rfl ?_ | refine QK rfl rfl (by omega) ?_ | refine Qy rfl rfl (by omega) ?_))
  exact QB (j:=r.length-(k+1)) (by omega) ⟨k+1,s5,by omega,rfl,by rw [nx];exact a6',rfl⟩
 ·have:k=r.length:=by omega
  subst this
  rw [Gx] at sv
  repeat' (first | refine Qg ?_ | refine Qb ?_ | refine Q0 ?_ | refine QX ?_ | refine Qf ?_ | ((refine Qh ?_);refine Qk rfl ?_) | ((refine Qe ?_);refine Yy rfl rfl rfl rfl rfl rfl rfl rfl rfl rfl rfl rfl rfl ?_) | ((refine Qc ?_);refine QM rfl rfl (by omega) ?_))
  exact QN ⟨rfl,⟨s,sv⟩,_,_,_,_,_,rfl⟩
def Qfc (r:List Pol):Option (Int × Int)→Prop
 | none=>∀ p∈r,p.ts=[]
 | some x=>x.1≤x.2∧(∀ p∈r,∀ t∈p.ts,x.1≤t.1∧t.1≤x.2)∧(∃ p∈r,∃ t∈p.ts,t.1=x.1)∧∃ p∈r,∃ t∈p.ts,t.1=x.2
theorem Qhh {pre:List Pol} {st:Option (Int × Int)} {p:Pol} (h:Qfc pre st) (ca:Can p.ts):Qfc (pre++[p]) (yK st p):=by
 unfold yK
 by_cases hz:p.ts=[]
 ·rw [if_pos hz]
  cases st with
  | none=>intro q hq;rcases Gv.1 hq with h1 | h1;exact h q h1;rw [He.1 h1];exact hz
  | some x =>
   obtain ⟨h1,h2,⟨a,ha,t,ht,e⟩,b,hb,u,hu,f⟩:=h
   refine ⟨h1,fun q hq=>?_,⟨a,List.mem_append_left _ ha,t,ht,e⟩,b,List.mem_append_left _ hb,u,hu,f⟩
   rcases Gv.1 hq with h3 | h3
   ·exact h2 q h3
   ·rw [He.1 h3,hz];intro t ht;cases ht
 ·rw [if_neg hz]
  obtain ⟨t,ht,e⟩:=yk hz
  obtain ⟨u,hu,f⟩:=yp hz
  have key:∀ v∈p.ts,lo0 p.ts≤v.1∧v.1≤hi0 p.ts:=fun v hv=>⟨UF ca v hv,yZ ca v hv⟩
  have mp:p∈pre++[p]:=List.mem_append_right _ (.head _)
  have k0:=key t ht
  cases st with
  | none =>
   refine ⟨by simp only;omega,fun q hq=>?_,⟨p,mp,t,ht,e⟩,p,mp,u,hu,f⟩
   rcases Gv.1 hq with h3 | h3
   ·rw [h q h3];intro t ht;cases ht
   ·rw [He.1 h3];exact key
  | some x =>
   obtain ⟨a,b⟩:=x
   obtain ⟨h1,h2,⟨qa,ha,ta,hta,ea⟩,qb,hb,tb,htb,eb⟩:=h
   simp only at h1 h2 ea eb
   show Qfc _ (some (min a (lo0 p.ts),max b (hi0 p.ts)))
   refine ⟨by simp only;omega,fun q hq=>?_,?_,?_⟩
   ·simp only
    rcases Gv.1 hq with h3 | h3
    ·intro v hv;have:=h2 q h3 v hv;omega
    ·rw [He.1 h3];intro v hv;have:=key v hv;omega
   ·simp only
    by_cases hm:a≤lo0 p.ts
    ·exact ⟨qa,List.mem_append_left _ ha,ta,hta,by omega⟩
    ·exact ⟨p,mp,t,ht,by omega⟩
   ·simp only
    by_cases hm:hi0 p.ts≤b
    ·exact ⟨qb,List.mem_append_left _ hb,tb,htb,by omega⟩
    ·exact ⟨p,mp,u,hu,by omega⟩
theorem QaI {r:List Pol} (ca:∀ p∈r,Can p.ts):Qfc r (YT r):=by
 have key:∀ (r pre:List Pol) st,(∀ p∈r,Can p.ts)→Qfc pre st→Qfc (pre++r) (r.foldl yK st):=by
  intro r
  induction r with
  | nil=>intro pre st _ h;simpa using h
  | cons p r ih =>
   intro pre st hc h
   have:=ih (pre++[p]) (yK st p) (fun q hq=>hc q (.tail _ hq)) (Qhh h (hc p (.head _)))
   simpa using this
 exact key r [] none ca (by intro p hp;cases hp)
def esR (r:List Pol):List (List Tm):=r.map fun p=>shL (bF r) p.ts
theorem bFS {r:List Pol} (ca:∀ p∈r,Can p.ts) {B:Nat} (hB:∀ p∈r,∀ t∈p.ts,t.1.natAbs≤B):bF r≤bS r∧(bF r).natAbs≤B∧(bS r).natAbs≤B∧∀ p∈r,∀ t∈p.ts,bF r≤t.1∧t.1≤bS r:=by
 have:=QaI ca
 unfold bF bS
 cases h:YT r with
 | none =>
  rw [h] at this
  refine ⟨Int.le_refl _,Gs _,Gs _,fun p hp t ht=>?_⟩
  rw [this p hp] at ht;cases ht
 | some x =>
  rw [h] at this
  obtain ⟨h1,h2,⟨a,ha,t,ht,e⟩,b,hb,u,hu,f⟩:=this
  have e1:=hB a ha t ht
  have e2:=hB b hb u hu
  refine ⟨h1,?_,?_,h2⟩
  ·show x.1.natAbs≤B;omega
  ·show x.2.natAbs≤B;omega
theorem QgP {r:List Pol} (ca:∀ p∈r,Can p.ts) {B:Nat} (hB:∀ p∈r,∀ t∈p.ts,t.1.natAbs≤B) (hc:∀ p∈r,∀ t∈p.ts,t.2.natAbs≤cM):∀ l∈esR r,∀ m∈l,0≤m.1∧m.1≤bS r-bF r∧m.2.natAbs≤cM:=by
 intro l hl m hm
 obtain ⟨p,hp,rfl⟩:=Gu.1 hl
 obtain ⟨t,ht,rfl⟩:=Gu.1 hm
 have:=(bFS ca hB).2.2.2 p hp t ht
 exact ⟨by simp only;omega,by simp only;omega,hc p hp t ht⟩
def EntN (eid:Nat) (h:Qa) (s:SV) (r:List (List Tm)):Prop:=X1 s eid∧Ent1 h s r
theorem EntN.chg {eid:Nat} {h h':Qa} {s:SV} {r:List (List Tm)} {cs:List SV} (e:EntN eid h s r) (c:Chg (·=eid) h h') (he:h[eid]?=some (.cells cs true 1)):EntN eid h' s r:=by
 obtain ⟨hn,ss,h1,h2,h3⟩:=e
 have mv:∀ {t:SV} {z:ESz} {n:Nat} {ws:List SV},IsSl h t z n ws→X1 t eid→IsSl h' t z n ws:=fun ht hnt=>ht.keep fun j b hj hx=>by
  refine c.get hj fun e=>hx ?_
  rw [e];exact hnt
 exact ⟨hn,ss,h1,mv h2 hn,fun i t l a b=>mv (h3 i t l a b) (IsD.not1 (h3 i t l a b) he)⟩
structure J40 (eid n i:Nat) (es:List (List (List Tm))) (hb h:Qa):Prop where
 x:Ext hb h
 r:∃ ss:List SV,ss.length=i∧h[eid]?=some (.cells (ss++List.replicate (n-i) .nilS) true 1)∧∀ (j:Nat) (s:SV) (r:List (List Tm)),ss[j]?=some s→es[j]?=some r→EntN eid h s r
theorem J40.done {eid n:Nat} {es:List (List (List Tm))} {hb h:Qa} (a:J40 eid n n es hb h) (he:es.length=n):Ents h (.slc eid 0 n (some n)) es:=by
 obtain ⟨ss,h1,h2,h3⟩:=a.r
 rw [Hg,List.replicate_zero,Hc] at h2
 refine ⟨ss,by omega,.inr ⟨eid,0,some n,_,by rw [h1],h2,rfl,fun h=>Gz h,fun _=>⟨ss,true,rfl,?_⟩⟩,fun i t r p q=>(h3 i t r p q).2⟩
 unfold cut
 simp only [ESz.one_n]
 rw [if_pos (by omega)]
 simp
def I40d (es:List (List (List Tm))) (ms:SV) (q2 lid eid n:Nat) (a5 a6:AV) (hb:Qa) (m:Nat) (E:Env) (h:Qa):Prop:=∃ i,i≤n∧m=n-i∧J40 eid n i es hb h ∧
 E.keep [2,4,5,6,14,86,87,88]=[(2,some (.sc (.ptr q2 0))),(4,some (.sc (.slc lid 0 n (some n)))),(5,some a5),(6,some a6),(14,some (.sc (.slc eid 0 n (some n)))),(86,some (.sc ms)),(87,some (.sc (.int .i64 (n:Nat)))),(88,some (.sc (.int .i64 (i:Nat))))]
def R40d (es:List (List (List Tm))) (q2 lid eid n:Nat) (a5 a6:AV) (hb:Qa) (ex:Ex) (E:Env) (h:Qa):Prop:=ex=.ex 5∧J40 eid n n es hb h ∧
 ∃ a b c d,E=[(2,some (.sc (.ptr q2 0))),(4,some (.sc (.slc lid 0 n (some n)))),(5,some a5),(6,some a6),(14,some (.sc (.slc eid 0 n (some n)))),(86,a),(87,b),(88,c),(89,d)]
theorem QfI (m:List (List Pol)) (ms:SV) (q2 lid eid n:Nat) (a5 a6:AV) (hb:Qa) (pm:PolMx hb ms m) (hn:m.length=n) (hn2:n≤1000) (bl:Bi hb lid ((List.range n).map fun j=>bF (m.getD j []))) (hbe:hb.length≤eid)
  (ok:∀ r∈m,r.length≤100000∧(bF r).natAbs≤10000000∧∀ p∈r,Can p.ts∧p.big=false∧p.ts.length≤100000∧∀ t∈p.ts,t.1.natAbs≤10000000) (k:Nat) (E:Env) (h:Qa) (hI:I40d (m.map esR) ms q2 lid eid n a5 a6 hb k E h) :
  wA FT HKt QkB (E.keep [2,4,5,6,14,86,87,88]) h (Qp (I40d (m.map esR) ms q2 lid eid n a5 a6 hb) k (R40d (m.map esR) q2 lid eid n a5 a6 hb)):=by
 obtain ⟨i,hi,rfl,j,hE⟩:=hI
 rw [hE]
 by_cases hlt:i < n
 ·obtain ⟨r,hr⟩:∃ r,m[i]?=some r:=⟨_,Ga (by omega)⟩
  have er:m.getD i []=r:=by rw [Ge,hr];rfl
  obtain ⟨id,off,cap,rs,es,rd,pr⟩:=pm.at hr
  rw [hn] at es
  subst es
  obtain ⟨ok1,ok2,ok3⟩:=ok r (Gh hr)
  have rd0:=QH j.x rd
  have lr:=pr.len
  have ll:((List.range n).map fun j=>bF (m.getD j []))[i]?=some (bF r):=by rw [Gi,Gq hlt,Gl,er]
  obtain ⟨ss,l1,l2,l3⟩:=j.r
  have heh:eid < h.length:=(Gb.1 l2).1
  have etop:(ss++List.replicate (n-i) SV.nilS).set i .nilS=ss++List.replicate (n-i) SV.nilS:=by
   apply Gr
   intro k
   rw [GH]
   by_cases e:i=k
   ·subst e
    rw [if_pos rfl,if_pos (by simp;omega),Gg (by omega),Hu,if_pos (by omega)]
   ·rw [if_neg e]
  have st:S40 eid i (ss++List.replicate (n-i) .nilS) ((r.take 0).map fun p=>shL (bF r) p.ts) .nilS hb h h:=⟨j.x,Chg.refl _,by rw [etop];exact l2,⟨[],rfl,.inl ⟨rfl,rfl⟩,fun k t l a b=>by simp at a⟩,fun j hj o n c e=>by cases e⟩
  repeat' (first | refine Qg ?_ | refine Qb ?_ | refine Qv ?_ | refine Qn ?_ | refine Qf ?_ | ((refine Qh ?_);refine Qj rfl ?_) | ((refine Qe ?_);first | refine Q5 rfl rfl rfl rfl rfl rfl rfl rfl rfl ?_ | refine Xy rfl rfl rfl rfl rfl rfl rfl rfl rfl rfl ?_ | refine XC rfl rfl rfl rfl rfl rfl rfl rfl rfl rfl rfl rfl ?_) | ((refine Qc ?_);first | refine Qw (esz:=1) rfl rfl (by omega) ?_ | refine Q4 rfl rd0 ?_ | refine Qs rfl lr ?_ | refine Qo rfl ?_ | refine Qy rfl rfl (by omega) ?_))
  refine Q9 (I40c (bF r) r rs q2 lid eid n i (ss++List.replicate (n-i) .nilS) a5 a6 (.sc (.slc id off n cap)) (.sc (.int .i64 (n:Nat))) (.sc (.int .i64 (i:Nat))) hb h) r.length (R40c (bF r) r q2 lid eid n i (ss++List.replicate (n-i) .nilS) a5 a6 (.sc (.slc id off n cap)) (.sc (.int .i64 (n:Nat))) (.sc (.int .i64 (i:Nat))) hb h)
   ⟨0,.nilS,Gs _,rfl,st,rfl⟩ (QfJ (bF r) r rs q2 lid eid n i (ss++List.replicate (n-i) .nilS) _ a5 a6 _ _ _ hb h pr ok1 ok3 ok2 bl ll hlt (by simp;omega) hbe heh) ?_
  rintro ex E' h2 ⟨rfl,⟨s,sv⟩,_,_,_,_,_,rfl⟩
  repeat' (first | refine Qb ?_ | refine QJ ?_ | refine QP ?_ | refine Qf ?_ | ((refine Qe ?_);refine Xa rfl rfl rfl rfl rfl rfl rfl rfl ?_) | ((refine Qc ?_);first | refine Qo rfl ?_ | refine QK rfl rfl (by omega) ?_))
  refine QB (j:=n-(i+1)) (by omega) ⟨i+1,by omega,rfl,⟨sv.x,ss++[s],by simp [l1],?_,?_⟩,rfl⟩
  ·rw [sv.t]
   congr 2
   apply Gr
   intro k
   rw [GH]
   by_cases e:i=k
   ·subst e
    rw [if_pos rfl,if_pos (by simp;omega),Gk (by simp;omega),Gg (by omega)]
    simp [l1]
   ·rw [if_neg e]
    rcases Gw k i with h1 | h1
    ·rw [Gk (by omega),Gk (by simp;omega),Gk (by omega)]
    ·rw [Gg (by omega),Gg (by simp;omega),Hu,Hu]
     simp only [GK,GA,GV]
     by_cases h2:k < n
     ·rw [if_pos (by omega),if_pos (by omega)]
     ·rw [if_neg (by omega),if_neg (by omega)]
  ·intro k t l hk hl
   rcases Gw k i with h1 | h1
   ·rw [Gk (by omega)] at hk
    exact (l3 k t l hk hl).chg sv.c l2
   ·obtain rfl:k=i:=by
     have:=(Gb.1 hk).1
     simp at this;omega
    rw [Gg (by omega),l1,Hg] at hk
    simp at hk;subst hk
    rw [Gi,hr] at hl
    simp at hl;subst hl
    obtain ⟨vs,o1,o2,o3⟩:=sv.o
    refine ⟨sv.lo eid heh,vs,by rw [o1];rfl,o2.sl,o3⟩
 ·have:i=n:=by omega
  subst this
  repeat' (first | refine Qg ?_ | refine Qb ?_ | refine Q0 ?_ | refine QX ?_ | refine Qf ?_ | ((refine Qh ?_);refine Qk rfl ?_) | ((refine Qe ?_);refine Q5 rfl rfl rfl rfl rfl rfl rfl rfl rfl ?_) | ((refine Qc ?_);refine QM rfl rfl (by omega) ?_))
  exact QN ⟨rfl,j,_,_,_,_,rfl⟩
