/- The residues of a determinant: a row of the matrix at a power of the root,and the matrix. -/
import Derived.Test.YtofknpknogfijaaGreatDoorRS1
import Derived.Test.YtofknpknogfijaaGreatDoorAb32
import Derived.Test.YtofknpknogfijaaGreatDoorAb50
namespace Go.Proofs.YtofknpknogfijaaGreatDoor
open Go.Ab
set_option linter.all false
set_option maxHeartbeats 16000000
set_option maxRecDepth 20000
attribute [local irreducible] Ql wA Xr Xp QA Qp QW QY
variable [HB]
def Ent1 (h:Qa) (s:SV) (r:List (List Tm)):Prop:=∃ ss:List SV,ss.length=r.length∧IsSl h s 1 ss.length ss∧∀ (i:Nat) (t:SV) (l:List Tm),ss[i]?=some t→r[i]?=some l→IsD h t (tms l)
def Ents (h:Qa) (s:SV) (es:List (List (List Tm))):Prop:=∃ ss:List SV,ss.length=es.length∧IsSl h s 1 ss.length ss∧∀ (i:Nat) (t:SV) (r:List (List Tm)),ss[i]?=some t→es[i]?=some r→Ent1 h t r
theorem Ent1.ext {h h':Qa} {s:SV} {r:List (List Tm)} (e:Ent1 h s r) (x:Ext h h'):Ent1 h' s r:=by
 obtain ⟨ss,h1,h2,h3⟩:=e
 exact ⟨ss,h1,h2.ext x,fun i t l a b=>(h3 i t l a b).ext x⟩
theorem Ents.ext {h h':Qa} {s:SV} {r:List (List (List Tm))} (e:Ents h s r) (x:Ext h h'):Ents h' s r:=by
 obtain ⟨ss,h1,h2,h3⟩:=e
 exact ⟨ss,h1,h2.ext x,fun i t l a b=>(h3 i t l a b).ext x⟩
def qY (p N t:Nat) (pws:List Nat) (r:List (List Tm)):List Nat:=r.map (acc p N t pws)
def Qid (p g q3 N t pid q rid n i:Nat) (pws:List Nat) (top:List SV) (r:List (List Tm)) (rs:SV) (a1 a2 a8 a12 a64 a65 a71 a72 a73:AV) (hb H:Qa) (m:Nat) (E:Env) (h:Qa):Prop:=∃ k,k≤n∧m=n-k∧S108 q rid top (fill (fun k=>acc p N t pws (r.getD k [])) n k) hb H h ∧
 E.keep [1,2,3,7,8,10,12,13,14,15,64,65,71,72,73,84,85,86]=[(1,some a1),(2,some a2),(3,some (.sc (.ptr q3 0))),(7,some (.sc (.int .i64 (N:Nat)))),(8,some a8),(10,some (.sc (.slc pid 0 N (some N)))),(12,some a12),(13,some (.sc (.int .i64 (t:Nat)))),(14,some (.sc (.slc q 0 n (some n)))),(15,some (.sc (.int .i64 (i:Nat)))),(64,some a64),(65,some a65),(71,some a71),(72,some a72),(73,some a73),(84,some (.sc rs)),(85,some (.sc (.int .i64 (n:Nat)))),(86,some (.sc (.int .i64 (k:Nat))))]
def Qk0 (p g q3 N t pid q rid n i:Nat) (pws:List Nat) (top:List SV) (r:List (List Tm)) (a1 a2 a8 a12 a64 a65 a71 a72 a73:AV) (hb H:Qa) (ex:Ex) (E:Env) (h:Qa):Prop:=ex=.ex 10∧S108 q rid top (qY p N t pws r) hb H h ∧
 ∃ a b c d e,E=[(1,some a1),(2,some a2),(3,some (.sc (.ptr q3 0))),(7,some (.sc (.int .i64 (N:Nat)))),(8,some a8),(10,some (.sc (.slc pid 0 N (some N)))),(12,some a12),(13,some (.sc (.int .i64 (t:Nat)))),(14,some (.sc (.slc q 0 n (some n)))),(15,a),(64,some a64),(65,some a65),(71,some a71),(72,some a72),(73,some a73),(84,b),(85,c),(86,d),(87,e)]
theorem Qes (p g q3 N t pid q rid n i:Nat) (pws:List Nat) (top:List SV) (r:List (List Tm)) (rs:SV) (a1 a2 a8 a12 a64 a65 a71 a72 a73:AV) (hb H:Qa) (hp:0 < p∧p < 9223372036854775808) (hN:0 < N∧N≤131072) (ht:t < N) (hi:i < n) (hn:n≤1000000)
  (c3:Cel hb q3 (.int .u64 (p:Nat)) (.int .u64 (g:Nat))) (bp:Bu hb pid pws) (lp:pws.length=N) (pp:∀ x∈pws,x < p) (er:Ent1 hb rs r) (hr:r.length=n) (tok:∀ l∈r,l.length≤1000000∧∀ m∈l,U8 p m) (htop:top[i]?=some (.slc rid 0 n (some n))) (m:Nat) (E:Env) (h:Qa) (hI:Qid p g q3 N t pid q rid n i pws top r rs a1 a2 a8 a12 a64 a65 a71 a72 a73 hb H m E h) :
  wA FT HKt QhA (E.keep [1,2,3,7,8,10,12,13,14,15,64,65,71,72,73,84,85,86]) h (Qp (Qid p g q3 N t pid q rid n i pws top r rs a1 a2 a8 a12 a64 a65 a71 a72 a73 hb H) m (Qk0 p g q3 N t pid q rid n i pws top r a1 a2 a8 a12 a64 a65 a71 a72 a73 hb H)):=by
 obtain ⟨k,hk,rfl,s,hE⟩:=hI
 rw [hE]
 by_cases hlt:k < n
 ·obtain ⟨ss,l1,l2,l3⟩:=er
  obtain ⟨ts,hts⟩:∃ x,ss[k]?=some x:=⟨_,Ga (by omega)⟩
  obtain ⟨l,hl⟩:∃ x,r[k]?=some x:=⟨_,Ga (by omega)⟩
  have dt:=l3 k ts l hts hl
  obtain ⟨ll,lt⟩:=tok l (Gh hl)
  obtain ⟨id,off,cap,es,rd⟩:=l2.at hts
  subst es
  have ld:=dt.len
  rw [Q6] at ld
  have rd0:=QH s.x rd
  have el:r.getD k []=l:=by rw [Ge,hl];rfl
  have fs:=Ze (f:=fun k=>acc p N t pws (r.getD k [])) hlt
  rw [el] at fs
  repeat' (first | refine Qg ?_ | refine Qb ?_ | refine Qv ?_ | refine Qn ?_ | refine Qf ?_ | ((refine Qh ?_);refine Qj rfl ?_) | ((refine Qe ?_);first | refine qQ rfl rfl rfl rfl rfl rfl rfl rfl rfl rfl rfl rfl rfl rfl rfl rfl rfl rfl rfl ?_ | refine zL rfl rfl rfl rfl rfl rfl rfl rfl rfl rfl rfl rfl rfl rfl rfl rfl rfl rfl rfl rfl ?_ | refine qP rfl rfl rfl rfl rfl rfl rfl rfl rfl rfl rfl rfl rfl rfl rfl rfl rfl rfl rfl rfl rfl rfl ?_) | ((refine Qc ?_);first | refine Qw (esz:=1) rfl rfl (by omega) ?_ | refine Q4 rfl rd0 ?_ | refine Qs rfl ld ?_ | refine Qo rfl ?_ | refine Qy rfl rfl (by omega) ?_))
  refine Q9 (Qh8 p g q3 N t pid q rid n i k pws (fill (fun k=>acc p N t pws (r.getD k [])) n k) top l ts a1 a2 a8 a12 a64 a65 a71 a72 a73 (.sc (.slc id off ss.length cap)) (.sc (.int .i64 (n:Nat))) (.sc (.int .i64 (k:Nat))) hb H) l.length (QkV p g q3 N t pid q rid n i k pws (fill (fun k=>acc p N t pws (r.getD k [])) n k) top l a1 a2 a8 a12 a64 a65 a71 a72 a73 (.sc (.slc id off ss.length cap)) (.sc (.int .i64 (n:Nat))) (.sc (.int .i64 (k:Nat))) hb H) ⟨0,Gs _,rfl,?_,rfl⟩
   (Qen p g q3 N t pid q rid n i k pws (fill (fun k=>acc p N t pws (r.getD k [])) n k) top l ts a1 a2 a8 a12 a64 a65 a71 a72 a73 (.sc (.slc id off ss.length cap)) (.sc (.int .i64 (n:Nat))) (.sc (.int .i64 (k:Nat))) hb H hp hN ht ll hi hlt YG c3 bp lp pp dt lt htop) ?_
  ·have e0:(fill (fun k=>acc p N t pws (r.getD k [])) n k).set k (acc p N t pws (l.take 0))=fill (fun k=>acc p N t pws (r.getD k [])) n k:=by
    have:acc p N t pws (l.take 0)=0:=rfl
    rw [this]
    apply Gr
    intro j
    rw [GH]
    by_cases e:k=j
    ·subst e
     rw [if_pos rfl,if_pos (by rw [YG];exact hlt)]
     unfold fill
     rw [Gi,Gq hlt]
     simp
    ·rw [if_neg e]
   rw [e0];exact s
  ·rintro ex E' h2 ⟨rfl,s2,_,_,_,_,rfl⟩
   rw [fs] at s2
   repeat' (first | refine Qb ?_ | refine QJ ?_ | refine QP ?_ | refine Qf ?_ | ((refine Qe ?_);refine ZG rfl rfl rfl rfl rfl rfl rfl rfl rfl rfl rfl rfl rfl rfl rfl rfl rfl rfl ?_) | ((refine Qc ?_);first | refine Qo rfl ?_ | refine QK rfl rfl (by omega) ?_))
   exact QB (j:=n-(k+1)) (by omega) ⟨k+1,by omega,rfl,s2,rfl⟩
 ·have:k=n:=by omega
  subst this
  rw [Y4] at s
  have e:(List.range k).map (fun j=>acc p N t pws (r.getD j []))=qY p N t pws r:=by
   unfold qY
   apply Gr
   intro j
   rw [Gi,Gi]
   rcases Gw j k with h | h
   ·rw [Gq h,Gl,Ge,Ga (by omega)];rfl
   ·rw [Gp (by simpa using h),Gp (by omega)];rfl
  rw [e] at s
  repeat' (first | refine Qg ?_ | refine Qb ?_ | refine Q0 ?_ | refine QX ?_ | refine Qf ?_ | ((refine Qh ?_);refine Qk rfl ?_) | ((refine Qe ?_);refine qQ rfl rfl rfl rfl rfl rfl rfl rfl rfl rfl rfl rfl rfl rfl rfl rfl rfl rfl rfl ?_) | ((refine Qc ?_);refine QM rfl rfl (by omega) ?_))
  exact QN ⟨rfl,s,_,_,_,_,_,rfl⟩
theorem Ent1.len {h:Qa} {s:SV} {r:List (List Tm)} (e:Ent1 h s r):Yi false s=some (r.length:Int):=by
 obtain ⟨ss,l1,l2,-⟩:=e
 rw [← l1];exact IsSl.len l2
structure P108 (p N t q n:Nat) (pws:List Nat) (es:List (List (List Tm))) (i:Nat) (ms:List X2) (hb h:Qa):Prop where
 x:Ext hb h
 tp:h[q]?=some (.cells (ms.map (Yf n)++List.replicate (n-i) .nilS) true 1)
 l:ms.length=i
 nd:(ms.map (·.1)).Nodup
 ql:hb.length≤q
 lo:∀ m∈ms,hb.length≤m.1∧m.1≠q
 row:∀ m∈ms,Bu h m.1 m.2
 v:ms.map (·.2)=(es.take i).map (qY p N t pws)
def Qia (p g q3 N t pid q n:Nat) (pws:List Nat) (es:List (List (List Tm))) (esl:SV) (a1 a2 a8 a12 a64 a65:AV) (hb:Qa) (m:Nat) (E:Env) (h:Qa):Prop:=∃ i ms,i≤n∧m=n-i∧P108 p N t q n pws es i ms hb h ∧
 E.keep [1,2,3,7,8,10,12,13,14,64,65,71,72,73]=[(1,some a1),(2,some a2),(3,some (.sc (.ptr q3 0))),(7,some (.sc (.int .i64 (N:Nat)))),(8,some a8),(10,some (.sc (.slc pid 0 N (some N)))),(12,some a12),(13,some (.sc (.int .i64 (t:Nat)))),(14,some (.sc (.slc q 0 n (some n)))),(64,some a64),(65,some a65),(71,some (.sc esl)),(72,some (.sc (.int .i64 (n:Nat)))),(73,some (.sc (.int .i64 (i:Nat))))]
def QkX (p g q3 N t pid q n:Nat) (pws:List Nat) (es:List (List (List Tm))) (a1 a2 a8 a12 a64 a65:AV) (hb:Qa) (ex:Ex) (E:Env) (h:Qa):Prop:=ex=.ex 8∧∃ ms,P108 p N t q n pws es n ms hb h ∧
 ∃ b c d e,E=[(1,some a1),(2,some a2),(3,some (.sc (.ptr q3 0))),(7,some (.sc (.int .i64 (N:Nat)))),(8,some a8),(10,some (.sc (.slc pid 0 N (some N)))),(12,some a12),(13,some (.sc (.int .i64 (t:Nat)))),(14,some (.sc (.slc q 0 n (some n)))),(64,some a64),(65,some a65),(71,b),(72,c),(73,d),(74,e)]
theorem Qep (p g q3 N t pid q n:Nat) (pws:List Nat) (es:List (List (List Tm))) (esl:SV) (a1 a2 a8 a12 a64 a65:AV) (hb:Qa) (hp:0 < p∧p < 9223372036854775808) (hN:0 < N∧N≤131072) (ht:t < N) (hn:n≤1000000)
  (c3:Cel hb q3 (.int .u64 (p:Nat)) (.int .u64 (g:Nat))) (bp:Bu hb pid pws) (lp:pws.length=N) (pp:∀ x∈pws,x < p) (ee:Ents hb esl es) (he:es.length=n) (tok:∀ r∈es,r.length=n∧∀ l∈r,l.length≤1000000∧∀ m∈l,U8 p m) (m:Nat) (E:Env) (h:Qa) (hI:Qia p g q3 N t pid q n pws es esl a1 a2 a8 a12 a64 a65 hb m E h) :
  wA FT HKt QhB (E.keep [1,2,3,7,8,10,12,13,14,64,65,71,72,73]) h (Qp (Qia p g q3 N t pid q n pws es esl a1 a2 a8 a12 a64 a65 hb) m (QkX p g q3 N t pid q n pws es a1 a2 a8 a12 a64 a65 hb)):=by
 obtain ⟨i,ms,hi,rfl,s,hE⟩:=hI
 rw [hE]
 by_cases hlt:i < n
 ·obtain ⟨ss,l1,l2,l3⟩:=ee
  obtain ⟨rs,hrs⟩:∃ x,ss[i]?=some x:=⟨_,Ga (by omega)⟩
  obtain ⟨r,hr⟩:∃ x,es[i]?=some x:=⟨_,Ga (by omega)⟩
  have er:=l3 i rs r hrs hr
  obtain ⟨lr,lt⟩:=tok r (Gh hr)
  obtain ⟨id,off,cap,e1,rd⟩:=l2.at hrs
  subst e1
  have ld:=er.len
  rw [lr] at ld
  have rd0:=QH s.x rd
  have hqh:q < h.length:=(Gb.1 s.tp).1
  have tset:(ms.map (Yf n)++List.replicate (n-i) SV.nilS).set i (.slc h.length 0 n (some n))=ms.map (Yf n)++.slc h.length 0 n (some n)::List.replicate (n-(i+1)) .nilS:=by
   rw [G7 _ _ (by simp [s.l]),Gt,s.l,Hg,show n-i=(n-(i+1))+1 by omega,List.replicate_succ,List.set_cons_zero]
  have w1:=fun h1 (x1:Ext h h1)=>wr1 (h:=h1) (q:=q) (i:=i) (v:=SV.slc h.length 0 n (some n)) (by obtain ⟨t,rfl⟩:=x1;rw [Gk hqh,s.tp]) (by simp [s.l];omega)
  rw [tset] at w1
  have xb:=s.x.len
  repeat' (first | refine Qg ?_ | refine Qb ?_ | refine Qv ?_ | refine Qn ?_ | refine Qf ?_ | ((refine Qh ?_);refine Qj rfl ?_) | ((refine Qe ?_);first | refine qR rfl rfl rfl rfl rfl rfl rfl rfl rfl rfl rfl rfl rfl rfl rfl ?_ | refine ZH rfl rfl rfl rfl rfl rfl rfl rfl rfl rfl rfl rfl rfl rfl rfl rfl ?_ | refine ZG rfl rfl rfl rfl rfl rfl rfl rfl rfl rfl rfl rfl rfl rfl rfl rfl rfl rfl ?_) | ((refine Qc ?_);first | refine Qw (esz:=1) rfl rfl (by omega) ?_ | refine Q4 rfl rd0 ?_ | refine Qs rfl ld ?_ | (refine VD rfl rfl (by omega) ?_;intro h1 x1 b1) | refine ZX rfl rfl (w1 _ x1) ?_ | refine Qo rfl ?_ | refine Qy rfl rfl (by omega) ?_))
  have hne:q≠h.length:=by omega
  have top2:(h1.set q (.cells (ms.map (Yf n)++.slc h.length 0 n (some n)::List.replicate (n-(i+1)) .nilS) true 1))[q]?=some (.cells (ms.map (Yf n)++.slc h.length 0 n (some n)::List.replicate (n-(i+1)) .nilS) true 1):=by
   rw [GC (by have:=x1.len;omega)]
  have b2:=b1.other hne (.cells (ms.map (Yf n)++.slc h.length 0 n (some n)::List.replicate (n-(i+1)) .nilS) true 1)
  have x2:=Ext.setF (s.x.trans x1) s.ql (.cells (ms.map (Yf n)++.slc h.length 0 n (some n)::List.replicate (n-(i+1)) .nilS) true 1)
  have rows2:∀ m∈ms,Bu (h1.set q (.cells (ms.map (Yf n)++.slc h.length 0 n (some n)::List.replicate (n-(i+1)) .nilS) true 1)) m.1 m.2:=fun m hm=>((s.row m hm).ext x1).other (Ne.symm (s.lo m hm).2) _
  generalize h1.set q (.cells (ms.map (Yf n)++.slc h.length 0 n (some n)::List.replicate (n-(i+1)) .nilS) true 1)=h2 at *
  have hat:(ms.map (Yf n)++SV.slc h.length 0 n (some n)::List.replicate (n-(i+1)) SV.nilS)[i]?=some (.slc h.length 0 n (some n)):=by
   rw [Gg (by simp [s.l]),Gt,s.l,Hg];rfl
  generalize htop:ms.map (Yf n)++SV.slc h.length 0 n (some n)::List.replicate (n-(i+1)) SV.nilS=top at *
  refine Q9 (Qid p g q3 N t pid q h.length n i pws top r rs a1 a2 a8 a12 a64 a65 (.sc (.slc id off ss.length cap)) (.sc (.int .i64 (n:Nat))) (.sc (.int .i64 (i:Nat))) hb h2) n (Qk0 p g q3 N t pid q h.length n i pws top r a1 a2 a8 a12 a64 a65 (.sc (.slc id off ss.length cap)) (.sc (.int .i64 (n:Nat))) (.sc (.int .i64 (i:Nat))) hb h2)
   ⟨0,Gs _,rfl,⟨x2,Chg.refl _,top2,by rw [Y3];exact b2,by omega,hne⟩,rfl⟩
   (Qes p g q3 N t pid q h.length n i pws top r rs a1 a2 a8 a12 a64 a65 (.sc (.slc id off ss.length cap)) (.sc (.int .i64 (n:Nat))) (.sc (.int .i64 (i:Nat))) hb h2 hp hN ht hlt hn c3 bp lp pp er lr lt hat) ?_
  rintro ex E' h3 ⟨rfl,s3,_,_,_,_,_,rfl⟩
  repeat' (first | refine Qb ?_ | refine QJ ?_ | refine QP ?_ | refine Qf ?_ | ((refine Qe ?_);refine zM rfl rfl rfl rfl rfl rfl rfl rfl rfl rfl rfl rfl rfl rfl ?_) | ((refine Qc ?_);first | refine Qo rfl ?_ | refine QK rfl rfl (by omega) ?_))
  refine QB (j:=n-(i+1)) (by omega) ⟨i+1,ms++[(h.length,qY p N t pws r)],by omega,rfl,⟨s3.x,?_,by simp [s.l],?_,s.ql,?_,?_,?_⟩,rfl⟩
  ·rw [s3.t,← htop];simp [Yf]
  ·rw [Hb,List.nodup_append]
   refine ⟨s.nd,by simp,fun a ha b hb'=>?_⟩
   obtain ⟨m,hm,rfl⟩:=Gu.1 ha
   simp at hb'
   subst hb'
   have:=(s.row m hm).lt
   omega
  ·intro m hm
   rcases Gv.1 hm with hm | hm
   ·exact s.lo m hm
   ·simp at hm;subst hm;exact ⟨by show hb.length≤h.length;omega,Ne.symm hne⟩
  ·intro m hm
   rcases Gv.1 hm with hm | hm
   ·exact s3.c.bu (rows2 m hm) (by have:=(s.row m hm).lt;omega)
   ·simp at hm;subst hm;exact s3.b
  ·rw [Hb,s.v,GF,hr];simp
 ·have:i=n:=by omega
  subst this
  repeat' (first | refine Qg ?_ | refine Qb ?_ | refine Q0 ?_ | refine QX ?_ | refine Qf ?_ | ((refine Qh ?_);refine Qk rfl ?_) | ((refine Qe ?_);refine qR rfl rfl rfl rfl rfl rfl rfl rfl rfl rfl rfl rfl rfl rfl rfl ?_) | ((refine Qc ?_);refine QM rfl rfl (by omega) ?_))
  exact QN ⟨rfl,ms,s,_,_,_,_,rfl⟩
section
variable {FT:FuncId→Option AFun} {HK:FuncId→Option Xj} {E:Env} {h:Qa} {K:Env→Qa→Prop} {d:Option Nat} {r:List AOp} {x y:AO}
theorem repN {v:SV}:∀ n:Nat,rep [v] n=List.replicate n v
 | 0=>rfl
 | n+1=>by rw [rep,repN n];rfl
theorem Qkj {n:Nat} (hx:evS E x=some (.int .i64 (n:Nat))) (hy:evS E y=some (.int .i64 (n:Nat))) (hb:n≤10000000) (hw:∀ h1,Ext h h1→h1[h.length]?=some (.cells (List.replicate n .nilS) true 1)→Ql FT HK r (Qr d (some (.sc (.slc h.length 0 n (some n)))) E) h1 K) :
  Ql FT HK (⟨d,.mk 1 24 [.nilS] x y,none⟩::r) E h K:=by
 refine Xe (v:=some (.sc (.slc h.length 0 n (some n)))) (h':=h++[.cells (rep [.nilS] n) true 1]) rfl rfl ?_ (hw _ ⟨_,rfl⟩ ?_)
 ·simp only [Qm,hx,hy]
  rw [if_pos ⟨by omega,by omega,by unfold Yu;omega⟩,Int.toNat_natCast]
 ·rw [Gg (Gf _),Hg,repN];rfl
end
theorem Chg.ext' {S:Nat→Prop} {a b c:Qa} (x:Ext a b) (y:Chg S b c) (hs:∀ j,S j→a.length≤j):Ext a c :=
 Chg.toExt ⟨Gn x.len y.len,fun j hj _=>by
  rw [y.same j (GG hj x.len) fun h=>by have:=hs j h;omega]
  obtain ⟨t,rfl⟩:=x
  rw [Gk hj]⟩
theorem P108.mx {p N t q n:Nat} {pws:List Nat} {es:List (List (List Tm))} {ms:List X2} {hb h:Qa} (s:P108 p N t q n pws es n ms hb h):Mx h q n ms:=by
 refine ⟨by rw [s.tp,Hg];simp,s.nd,fun hm=>?_,s.row⟩
 obtain ⟨m,h1,h2⟩:=Gu.1 hm
 exact (s.lo m h1).2 h2
def JK (p N n:Nat) (pws:List Nat) (es:List (List (List Tm))) (t:Nat):Nat:=qH p (XU p) n 0 (es.map (qY p N t pws)) 1
def Qif (p g q3 N pid vid n:Nat) (pws:List Nat) (es:List (List (List Tm))) (esl:SV) (a2 a8:AV) (hb:Qa) (m:Nat) (E:Env) (h:Qa):Prop:=∃ t,t≤N∧m=N-t∧Ext hb h∧Bu h vid (fill (JK p N n pws es) N t) ∧
 E.keep [1,2,3,7,8,10,12,64,65]=[(1,some (.sc esl)),(2,some a2),(3,some (.sc (.ptr q3 0))),(7,some (.sc (.int .i64 (N:Nat)))),(8,some a8),(10,some (.sc (.slc pid 0 N (some N)))),(12,some (.sc (.slc vid 0 N (some N)))),(64,some (.sc (.int .i64 (N:Nat)))),(65,some (.sc (.int .i64 (t:Nat))))]
def Qk2 (p g q3 N pid vid n:Nat) (pws:List Nat) (es:List (List (List Tm))) (a2 a8:AV) (hb:Qa) (ex:Ex) (E:Env) (h:Qa):Prop:=ex=.ex 6∧Ext hb h∧Bu h vid ((List.range N).map (JK p N n pws es)) ∧
 ∃ b c d e f,E=[(1,b),(2,some a2),(3,some (.sc (.ptr q3 0))),(7,some (.sc (.int .i64 (N:Nat)))),(8,some a8),(10,c),(12,some (.sc (.slc vid 0 N (some N)))),(64,d),(65,e),(66,f)]
theorem Qeu (p g q3 N pid vid n:Nat) (pws:List Nat) (es:List (List (List Tm))) (esl:SV) (a2 a8:AV) (hb:Qa) (hp:2≤p∧p < 9223372036854775808) (hN:0 < N∧N≤131072) (hn:n < 1000000)
  (c3:Cel hb q3 (.int .u64 (p:Nat)) (.int .u64 (g:Nat))) (bp:Bu hb pid pws) (lp:pws.length=N) (pp:∀ x∈pws,x < p) (ee:Ents hb esl es) (he:es.length=n) (tok:∀ r∈es,r.length=n∧∀ l∈r,l.length≤1000000∧∀ m∈l,U8 p m) (hv:hb.length≤vid) (m:Nat) (E:Env) (h:Qa) (hI:Qif p g q3 N pid vid n pws es esl a2 a8 hb m E h) :
  wA FT HKt QhC (E.keep [1,2,3,7,8,10,12,64,65]) h (Qp (Qif p g q3 N pid vid n pws es esl a2 a8 hb) m (Qk2 p g q3 N pid vid n pws es a2 a8 hb)):=by
 obtain ⟨t,ht,rfl,x,bv,hE⟩:=hI
 rw [hE]
 by_cases hlt:t < N
 ·have ls:Yi false esl=some (n:Int):=by
   obtain ⟨ss,l1,l2,-⟩:=ee
   rw [← he,← l1];exact IsSl.len l2
  have c3h:=c3.ext x
  have wv:=fun h' (y:Ext h h')=>(bv.ext y).wr (i:=t) (y:=JK p N n pws es t) (by rw [YG];exact hlt)
  have fs:=Ze (f:=JK p N n pws es) hlt
  rw [fs] at wv
  repeat' (first | refine Qg ?_ | refine Qb ?_ | refine Q0 ?_ | refine QD ?_ | refine Qv ?_ | refine QJ ?_ | refine QP ?_ | refine Xs ?_ | refine Qn ?_ | refine Qt ?_ | refine QX ?_ | refine Qf ?_ | refine Q2 ?_ | refine Xk ?_ | refine Xl ?_ | (refine JJ ?_ ?_;rfl) | ((refine Qh ?_);first | refine Qj rfl ?_ | refine Qk rfl ?_) | ((refine Qe ?_);first | refine Q1 ?_ | refine Xw ?_ | refine XZ ⟨_,rfl⟩ ?_ | refine XZ (extA _ _ _) ?_ | refine XZ (by assumption) ?_ | refine w_end0 ?_ | refine Qq rfl ?_ | refine QE rfl rfl ?_ | refine Qu rfl rfl rfl ?_ | refine QG rfl rfl rfl rfl ?_ | refine QU rfl rfl rfl rfl rfl ?_ | refine QT rfl rfl rfl rfl rfl rfl ?_ | refine Xn rfl rfl rfl rfl rfl rfl rfl ?_ | refine Xa rfl rfl rfl rfl rfl rfl rfl rfl ?_ | refine Q5 rfl rfl rfl rfl rfl rfl rfl rfl rfl ?_ | refine Xy rfl rfl rfl rfl rfl rfl rfl rfl rfl rfl ?_ | refine X6 rfl rfl rfl rfl rfl rfl rfl rfl rfl rfl rfl ?_ | refine XC rfl rfl rfl rfl rfl rfl rfl rfl rfl rfl rfl rfl ?_ | refine Yy rfl rfl rfl rfl rfl rfl rfl rfl rfl rfl rfl rfl rfl ?_ | refine zM rfl rfl rfl rfl rfl rfl rfl rfl rfl rfl rfl rfl rfl rfl ?_ | refine qR rfl rfl rfl rfl rfl rfl rfl rfl rfl rfl rfl rfl rfl rfl rfl ?_ | refine ZH rfl rfl rfl rfl rfl rfl rfl rfl rfl rfl rfl rfl rfl rfl rfl rfl ?_ | refine Jg rfl rfl rfl rfl rfl rfl rfl rfl rfl rfl rfl rfl rfl rfl rfl rfl rfl ?_ | refine ZG rfl rfl rfl rfl rfl rfl rfl rfl rfl rfl rfl rfl rfl rfl rfl rfl rfl rfl ?_ | refine qQ rfl rfl rfl rfl rfl rfl rfl rfl rfl rfl rfl rfl rfl rfl rfl rfl rfl rfl rfl ?_ | refine zL rfl rfl rfl rfl rfl rfl rfl rfl rfl rfl rfl rfl rfl rfl rfl rfl rfl rfl rfl rfl ?_ | refine w_end21 rfl rfl rfl rfl rfl rfl rfl rfl rfl rfl rfl rfl rfl rfl rfl rfl rfl rfl rfl rfl rfl ?_ | refine qP rfl rfl rfl rfl rfl rfl rfl rfl rfl rfl rfl rfl rfl rfl rfl rfl rfl rfl rfl rfl rfl rfl ?_ | refine qO rfl rfl rfl rfl rfl rfl rfl rfl rfl rfl rfl rfl rfl rfl rfl rfl rfl rfl rfl rfl rfl rfl rfl ?_ | refine zJ rfl rfl rfl rfl rfl rfl rfl rfl rfl rfl rfl rfl rfl rfl rfl rfl rfl rfl rfl rfl rfl rfl rfl rfl ?_) | ((refine Qc ?_);first | refine Qs rfl ls ?_ | (refine Qkj rfl rfl (by omega) ?_;intro h1 x1 t1) | refine Xd rfl ?_ | refine yo rfl ?_ | refine QL rfl ?_ | refine Qo rfl ?_ | refine QS rfl rfl ?_ | refine QC rfl rfl ?_ | refine XR rfl ?_ | refine Yw rfl ?_ | refine QK rfl rfl (by omega) ?_ | refine Z8 rfl rfl (by omega) ?_ | refine zx rfl rfl (by omega) ?_ | refine JR rfl (by omega) ?_ | refine VC rfl rfl (by omega) ?_ | refine UG rfl rfl (by omega) ?_ | refine Yx rfl (by omega) ?_ | refine VE rfl rfl ?_ | refine Qbz rfl rfl ?_ | refine Qy rfl rfl (by omega) ?_ | refine QM rfl rfl (by omega) ?_ | refine QbA rfl rfl (fun hc=>?_) (fun hc=>?_) | refine qB rfl rfl (by omega) ?_ | refine JS rfl rfl (by omega) ?_ | refine QbB rfl rfl (fun hc=>?_) (fun hc=>?_) | refine XV rfl rfl (by omega) ?_ | refine XT rfl rfl (by omega) ?_ | refine QbC rfl rfl (fun hc=>?_) (fun hc=>?_) | refine Ym rfl rfl (by omega) ?_ | refine X3 rfl rfl (by omega) ?_ | refine QbD rfl rfl (fun hc=>?_) (fun hc=>?_) | refine XD rfl rfl (by omega) ?_ | refine Xf rfl rfl (by omega) ?_ | refine QbE rfl rfl (fun hc=>?_) (fun hc=>?_) | refine Yg rfl rfl (by omega) ?_ | refine XS rfl rfl (by omega) ?_ | refine Qby rfl rfl (fun hc=>?_) (fun hc=>?_) | refine Qs rfl rfl ?_ | refine Xt rfl rfl ?_))
  refine Q9 (Qia p g q3 N t pid h.length n pws es esl (.sc esl) a2 a8 (.sc (.slc vid 0 N (some N))) (.sc (.int .i64 (N:Nat))) (.sc (.int .i64 (t:Nat))) h) n (QkX p g q3 N t pid h.length n pws es (.sc esl) a2 a8 (.sc (.slc vid 0 N (some N))) (.sc (.int .i64 (N:Nat))) (.sc (.int .i64 (t:Nat))) h)
   ⟨0,[],Gs _,rfl,⟨x1,by simpa using t1,rfl,by simp,Gf _,by simp,by simp,by simp⟩,rfl⟩
   (Qep p g q3 N t pid h.length n pws es esl (.sc esl) a2 a8 (.sc (.slc vid 0 N (some N))) (.sc (.int .i64 (N:Nat))) (.sc (.int .i64 (t:Nat))) h ⟨by omega,hp.2⟩ hN hlt (by omega) c3h (bp.ext x) lp pp (ee.ext x) he tok) ?_
  rintro ex E' h2 ⟨rfl,ms,s2,_,_,_,_,rfl⟩
  have c32:=c3h.ext s2.x
  have ev:ms.map (·.2)=es.map (qY p N t pws):=by
   have:=s2.v
   rwa [GQ (by omega)] at this
  have ro:zh p n ms:=fun m hm=>by
   have:m.2∈es.map (qY p N t pws):=by rw [← ev];exact Gu.2 ⟨m,hm,rfl⟩
   obtain ⟨r,hr,e⟩:=Gu.1 this
   rw [← e]
   refine ⟨by show (r.map _).length=n;rw [Gt];exact (tok r hr).1,fun y hy=>?_⟩
   obtain ⟨l,hl,rfl⟩:=Gu.1 hy
   exact QcL (by omega)
  have k130:=QjJ p g h.length n ms h2 hp hn s2.mx ro s2.l
  rw [ev] at k130
  have eV:qH p (XU p) n 0 (es.map (qY p N t pws)) 1=JK p N n pws es t:=rfl
  rw [eV] at k130
  have lo:=s2.lo
  have x2:=s2.x
  clear s2
  repeat' (first | refine Qg ?_ | refine Qb ?_ | refine Q0 ?_ | refine QD ?_ | refine Qv ?_ | refine QJ ?_ | refine QP ?_ | refine Xs ?_ | refine Qn ?_ | refine Qt ?_ | refine QX ?_ | refine Qf ?_ | refine Q2 ?_ | refine Xk ?_ | refine Xl ?_ | (refine JJ ?_ ?_;rfl) | ((refine Qh ?_);first | refine Qj rfl ?_ | refine Qk rfl ?_) | ((refine Qe ?_);first | refine Q1 ?_ | refine Xw ?_ | refine XZ ⟨_,rfl⟩ ?_ | refine XZ (extA _ _ _) ?_ | refine XZ (by assumption) ?_ | refine w_end0 ?_ | refine Qq rfl ?_ | refine QE rfl rfl ?_ | refine Qu rfl rfl rfl ?_ | refine QG rfl rfl rfl rfl ?_ | refine QU rfl rfl rfl rfl rfl ?_ | refine QT rfl rfl rfl rfl rfl rfl ?_ | refine Xn rfl rfl rfl rfl rfl rfl rfl ?_ | refine Xa rfl rfl rfl rfl rfl rfl rfl rfl ?_ | refine Q5 rfl rfl rfl rfl rfl rfl rfl rfl rfl ?_ | refine Xy rfl rfl rfl rfl rfl rfl rfl rfl rfl rfl ?_ | refine X6 rfl rfl rfl rfl rfl rfl rfl rfl rfl rfl rfl ?_ | refine XC rfl rfl rfl rfl rfl rfl rfl rfl rfl rfl rfl rfl ?_ | refine Yy rfl rfl rfl rfl rfl rfl rfl rfl rfl rfl rfl rfl rfl ?_ | refine zM rfl rfl rfl rfl rfl rfl rfl rfl rfl rfl rfl rfl rfl rfl ?_ | refine qR rfl rfl rfl rfl rfl rfl rfl rfl rfl rfl rfl rfl rfl rfl rfl ?_ | refine ZH rfl rfl rfl rfl rfl rfl rfl rfl rfl rfl rfl rfl rfl rfl rfl rfl ?_ | refine Jg rfl rfl rfl rfl rfl rfl rfl rfl rfl rfl rfl rfl rfl rfl rfl rfl rfl ?_ | refine ZG rfl rfl rfl rfl rfl rfl rfl rfl rfl rfl rfl rfl rfl rfl rfl rfl rfl rfl ?_ | refine qQ rfl rfl rfl rfl rfl rfl rfl rfl rfl rfl rfl rfl rfl rfl rfl rfl rfl rfl rfl ?_ | refine zL rfl rfl rfl rfl rfl rfl rfl rfl rfl rfl rfl rfl rfl rfl rfl rfl rfl rfl rfl rfl ?_ | refine w_end21 rfl rfl rfl rfl rfl rfl rfl rfl rfl rfl rfl rfl rfl rfl rfl rfl rfl rfl rfl rfl rfl ?_ | refine qP rfl rfl rfl rfl rfl rfl rfl rfl rfl rfl rfl rfl rfl rfl rfl rfl rfl rfl rfl rfl rfl rfl ?_ | refine qO rfl rfl rfl rfl rfl rfl rfl rfl rfl rfl rfl rfl rfl rfl rfl rfl rfl rfl rfl rfl rfl rfl rfl ?_ | refine zJ rfl rfl rfl rfl rfl rfl rfl rfl rfl rfl rfl rfl rfl rfl rfl rfl rfl rfl rfl rfl rfl rfl rfl rfl ?_) | ((refine Qc ?_);first | refine QI rfl c32 ?_ | (refine Qi rfl k130 ?_;rintro v3 h3 ⟨ch,rfl⟩;have x3:Ext h h3:=Chg.ext' x2 ch (by rintro j (rfl | ⟨m,hm,rfl⟩);exact Gf _;exact (lo m hm).1)) | refine Qw (esz:=1) rfl rfl (by omega) ?_ | refine ZX rfl rfl (wv _ x3) ?_ | refine Xd rfl ?_ | refine yo rfl ?_ | refine QL rfl ?_ | refine Qo rfl ?_ | refine QS rfl rfl ?_ | refine QC rfl rfl ?_ | refine XR rfl ?_ | refine Yw rfl ?_ | refine QK rfl rfl (by omega) ?_ | refine Z8 rfl rfl (by omega) ?_ | refine zx rfl rfl (by omega) ?_ | refine JR rfl (by omega) ?_ | refine VC rfl rfl (by omega) ?_ | refine UG rfl rfl (by omega) ?_ | refine Yx rfl (by omega) ?_ | refine VE rfl rfl ?_ | refine Qbz rfl rfl ?_ | refine Qy rfl rfl (by omega) ?_ | refine QM rfl rfl (by omega) ?_ | refine QbA rfl rfl (fun hc=>?_) (fun hc=>?_) | refine qB rfl rfl (by omega) ?_ | refine JS rfl rfl (by omega) ?_ | refine QbB rfl rfl (fun hc=>?_) (fun hc=>?_) | refine XV rfl rfl (by omega) ?_ | refine XT rfl rfl (by omega) ?_ | refine QbC rfl rfl (fun hc=>?_) (fun hc=>?_) | refine Ym rfl rfl (by omega) ?_ | refine X3 rfl rfl (by omega) ?_ | refine QbD rfl rfl (fun hc=>?_) (fun hc=>?_) | refine XD rfl rfl (by omega) ?_ | refine Xf rfl rfl (by omega) ?_ | refine QbE rfl rfl (fun hc=>?_) (fun hc=>?_) | refine Yg rfl rfl (by omega) ?_ | refine XS rfl rfl (by omega) ?_ | refine Qby rfl rfl (fun hc=>?_) (fun hc=>?_) | refine Qs rfl rfl ?_ | refine Xt rfl rfl ?_))
  refine QB (j:=N-(t+1)) (by omega) ⟨t+1,by omega,rfl,Ext.setF (x.trans x3) hv _,(bv.ext x3).set,rfl⟩
 ·have:t=N:=by omega
  subst this
  rw [Y4] at bv
  repeat' (first | refine Qg ?_ | refine Qb ?_ | refine Q0 ?_ | refine QD ?_ | refine Qv ?_ | refine QJ ?_ | refine QP ?_ | refine Xs ?_ | refine Qn ?_ | refine Qt ?_ | refine QX ?_ | refine Qf ?_ | refine Q2 ?_ | refine Xk ?_ | refine Xl ?_ | (refine JJ ?_ ?_;rfl) | ((refine Qh ?_);first | refine Qj rfl ?_ | refine Qk rfl ?_) | ((refine Qe ?_);first | refine Q1 ?_ | refine Xw ?_ | refine XZ ⟨_,rfl⟩ ?_ | refine XZ (extA _ _ _) ?_ | refine XZ (by assumption) ?_ | refine w_end0 ?_ | refine Qq rfl ?_ | refine QE rfl rfl ?_ | refine Qu rfl rfl rfl ?_ | refine QG rfl rfl rfl rfl ?_ | refine QU rfl rfl rfl rfl rfl ?_ | refine QT rfl rfl rfl rfl rfl rfl ?_ | refine Xn rfl rfl rfl rfl rfl rfl rfl ?_ | refine Xa rfl rfl rfl rfl rfl rfl rfl rfl ?_ | refine Q5 rfl rfl rfl rfl rfl rfl rfl rfl rfl ?_ | refine Xy rfl rfl rfl rfl rfl rfl rfl rfl rfl rfl ?_ | refine X6 rfl rfl rfl rfl rfl rfl rfl rfl rfl rfl rfl ?_ | refine XC rfl rfl rfl rfl rfl rfl rfl rfl rfl rfl rfl rfl ?_ | refine Yy rfl rfl rfl rfl rfl rfl rfl rfl rfl rfl rfl rfl rfl ?_ | refine zM rfl rfl rfl rfl rfl rfl rfl rfl rfl rfl rfl rfl rfl rfl ?_ | refine qR rfl rfl rfl rfl rfl rfl rfl rfl rfl rfl rfl rfl rfl rfl rfl ?_ | refine ZH rfl rfl rfl rfl rfl rfl rfl rfl rfl rfl rfl rfl rfl rfl rfl rfl ?_ | refine Jg rfl rfl rfl rfl rfl rfl rfl rfl rfl rfl rfl rfl rfl rfl rfl rfl rfl ?_ | refine ZG rfl rfl rfl rfl rfl rfl rfl rfl rfl rfl rfl rfl rfl rfl rfl rfl rfl rfl ?_ | refine qQ rfl rfl rfl rfl rfl rfl rfl rfl rfl rfl rfl rfl rfl rfl rfl rfl rfl rfl rfl ?_ | refine zL rfl rfl rfl rfl rfl rfl rfl rfl rfl rfl rfl rfl rfl rfl rfl rfl rfl rfl rfl rfl ?_ | refine w_end21 rfl rfl rfl rfl rfl rfl rfl rfl rfl rfl rfl rfl rfl rfl rfl rfl rfl rfl rfl rfl rfl ?_ | refine qP rfl rfl rfl rfl rfl rfl rfl rfl rfl rfl rfl rfl rfl rfl rfl rfl rfl rfl rfl rfl rfl rfl ?_ | refine qO rfl rfl rfl rfl rfl rfl rfl rfl rfl rfl rfl rfl rfl rfl rfl rfl rfl rfl rfl rfl rfl rfl rfl ?_ | refine zJ rfl rfl rfl rfl rfl rfl rfl rfl rfl rfl rfl rfl rfl rfl rfl rfl rfl rfl rfl rfl rfl rfl rfl rfl ?_) | ((refine Qc ?_);first | refine Xd rfl ?_ | refine yo rfl ?_ | refine QL rfl ?_ | refine Qo rfl ?_ | refine QS rfl rfl ?_ | refine QC rfl rfl ?_ | refine XR rfl ?_ | refine Yw rfl ?_ | refine QK rfl rfl (by omega) ?_ | refine Z8 rfl rfl (by omega) ?_ | refine zx rfl rfl (by omega) ?_ | refine JR rfl (by omega) ?_ | refine VC rfl rfl (by omega) ?_ | refine UG rfl rfl (by omega) ?_ | refine Yx rfl (by omega) ?_ | refine VE rfl rfl ?_ | refine Qbz rfl rfl ?_ | refine Qy rfl rfl (by omega) ?_ | refine QM rfl rfl (by omega) ?_ | refine QbA rfl rfl (fun hc=>?_) (fun hc=>?_) | refine qB rfl rfl (by omega) ?_ | refine JS rfl rfl (by omega) ?_ | refine QbB rfl rfl (fun hc=>?_) (fun hc=>?_) | refine XV rfl rfl (by omega) ?_ | refine XT rfl rfl (by omega) ?_ | refine QbC rfl rfl (fun hc=>?_) (fun hc=>?_) | refine Ym rfl rfl (by omega) ?_ | refine X3 rfl rfl (by omega) ?_ | refine QbD rfl rfl (fun hc=>?_) (fun hc=>?_) | refine XD rfl rfl (by omega) ?_ | refine Xf rfl rfl (by omega) ?_ | refine QbE rfl rfl (fun hc=>?_) (fun hc=>?_) | refine Yg rfl rfl (by omega) ?_ | refine XS rfl rfl (by omega) ?_ | refine Qby rfl rfl (fun hc=>?_) (fun hc=>?_) | refine Qs rfl rfl ?_ | refine Xt rfl rfl ?_))
  exact QN ⟨rfl,x,bv,_,_,_,_,_,rfl⟩
