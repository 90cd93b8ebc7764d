/- The law's own functions: entries,and whether they are small. -/
import Derived.Test.YtofknpknogfijaaGreatDoorDE7
import Derived.Test.YtofknpknogfijaaGreatDoorAb50
namespace Go.Proofs.YtofknpknogfijaaGreatDoor
open Go.Ab
set_option linter.all false
set_option maxHeartbeats 16000000
set_option maxRecDepth 20000
attribute [local irreducible] Ql wA Xr Xp QA Qp QW QY
variable [HB]
abbrev Ent:=Int × List Int
def ERow (h:Qa) (s:SV) (r:List Ent):Prop:=∃ ss:List SV,ss.length=r.length∧IsD h s (List.zipWith (fun (p:Ent) t=>(SV.int .i64 p.1,t)) r ss)∧∀ (i:Nat) (p:Ent) (t:SV),r[i]?=some p→ss[i]?=some t→IsInts h t p.2
def EMx (h:Qa) (s:SV) (m:List (List Ent)):Prop:=∃ ss:List SV,ss.length=m.length∧IsSl h s 1 ss.length ss∧∀ (i:Nat) (t:SV) (r:List Ent),ss[i]?=some t→m[i]?=some r→ERow h t r
theorem ERow.ext {h h':Qa} {s:SV} {r:List Ent} (e:ERow h s r) (x:Ext h h'):ERow h' s r:=by
 obtain ⟨ss,h1,h2,h3⟩:=e
 exact ⟨ss,h1,h2.ext x,fun i t l a b=>IsSl.ext (h3 i t l a b) x⟩
theorem EMx.ext {h h':Qa} {s:SV} {m:List (List Ent)} (e:EMx h s m) (x:Ext h h'):EMx h' s m:=by
 obtain ⟨ss,h1,h2,h3⟩:=e
 exact ⟨ss,h1,h2.ext x,fun i t l a b=>(h3 i t l a b).ext x⟩
theorem ERow.len {h:Qa} {s:SV} {r:List Ent} (e:ERow h s r):Yi false s=some (r.length:Int):=by
 obtain ⟨ss,h1,h2,-⟩:=e
 have:=h2.len
 rwa [Hv,h1,Nat.min_self] at this
theorem EMx.len {h:Qa} {s:SV} {m:List (List Ent)} (e:EMx h s m):Yi false s=some (m.length:Int):=by
 obtain ⟨ss,h1,h2,-⟩:=e
 rw [← h1];exact IsSl.len h2
theorem ERow.at {h:Qa} {s:SV} {r:List Ent} (e:ERow h s r) {i:Nat} {p:Ent} (hi:r[i]?=some p):∃ id off cap t,s=.slc id off r.length cap∧QZ h id (off+i*2) 2=some [.int .i64 p.1,t]∧IsInts h t p.2:=by
 obtain ⟨ss,h1,h2,h3⟩:=e
 have hl:=(Gb.1 hi).1
 obtain ⟨t,ht⟩:∃ t,ss[i]?=some t:=⟨_,Ga (by omega)⟩
 obtain ⟨id,off,cap,e1,rd⟩:=h2.at (i:=i) (p:=(SV.int .i64 p.1,t)) (by rw [List.getElem?_zipWith,hi,ht])
 rw [Hv,h1,Nat.min_self] at e1
 exact ⟨id,off,cap,t,e1,rd,h3 i p t hi ht⟩
theorem EMx.at {h:Qa} {s:SV} {m:List (List Ent)} (e:EMx h s m) {i:Nat} {r:List Ent} (hi:m[i]?=some r):∃ id off cap t,s=.slc id off m.length cap∧QZ h id (off+i*1) 1=some [t]∧ERow h t r:=by
 obtain ⟨ss,h1,h2,h3⟩:=e
 have hl:=(Gb.1 hi).1
 obtain ⟨t,ht⟩:∃ t,ss[i]?=some t:=⟨_,Ga (by omega)⟩
 obtain ⟨id,off,cap,e1,rd⟩:=h2.at ht
 rw [h1] at e1
 exact ⟨id,off,cap,t,e1,rd,h3 i t r ht hi⟩
def smE (e:Ent):Prop:=e.2.length≤3 ∧ -10≤e.1∧e.1≤10∧∀ c∈e.2,-4≤c∧c≤4
instance (e:Ent):Decidable (smE e):=by unfold smE;infer_instance
def smN (b:Bool):AV:=.sc (.int .i64 (if b then 1 else 0))
def I19 (e:Ent) (q:Nat) (s:SV) (hb:Qa) (k:Nat) (E:Env) (h:Qa):Prop:=∃ i,i≤e.2.length∧k=e.2.length-i∧h=hb∧(∀ c∈e.2.take i,-4≤c∧c≤4) ∧
 E.keep [1,3]=[(1,some (.sc (.ptr q 0))),(3,some (.sc (.int .i64 (i:Nat))))]
def R19 (e:Ent) (hb:Qa) (ex:Ex) (E:Env) (h:Qa):Prop:=h=hb∧((ex=.ex 0∧(∀ c∈e.2,-4≤c∧c≤4)∧∃ a b c,E=[(1,a),(3,b),(22,c)])∨(ex=.rt∧¬ (∀ c∈e.2,-4≤c∧c≤4)∧E=[(2,some (.sc (.int .i64 0)))]))
theorem QiZ (e:Ent) (q:Nat) (s:SV) (hb:Qa) (hl:e.2.length≤3) (c1:Cel hb q (.int .i64 e.1) s) (hs:IsInts hb s e.2) (k:Nat) (E:Env) (h:Qa) (hI:I19 e q s hb k E h) :
  wA FT HKt QkI (E.keep [1,3]) h (Qp (I19 e q s hb) k (R19 e hb)):=by
 obtain ⟨i,hi,rfl,rfl,hall,hE⟩:=hI
 rw [hE]
 have ls:Yi false s=some (e.2.length:Int):=IsSl.len hs
 by_cases hlt:i < e.2.length
 ·obtain ⟨c,hc⟩:∃ c,e.2[i]?=some c:=⟨_,Ga hlt⟩
  obtain ⟨id,off,cap,es,rd⟩:=IsInts.at hs hc
  subst es
  have hm:=Gh hc
  by_cases h1:c < -4
  ·repeat' (first | refine Qg ?_ | refine Qb ?_ | refine QD ?_ | refine Qv ?_ | refine Xs ?_ | refine Qn ?_ | refine Qt ?_ | refine Qf ?_ | ((refine Qh ?_);refine Qj rfl ?_) | ((refine Qe ?_);first | refine Qq rfl ?_ | refine Qu rfl rfl rfl ?_) | ((refine Qc ?_);first | refine Xi rfl ?_ | refine Qz rfl c1 ?_ | refine Qs rfl ls ?_ | refine Qw (esz:=1) rfl rfl (by omega) ?_ | refine Q4 rfl rd ?_ | refine Xd rfl ?_ | refine Qo rfl ?_ | refine QS rfl rfl ?_ | refine Qy rfl rfl (by omega) ?_))
   exact XI ⟨rfl,.inr ⟨rfl,fun hf=>by have:=hf c hm;omega,rfl⟩⟩
  ·by_cases h2:4 < c
   ·repeat' (first | refine Qg ?_ | refine Qb ?_ | refine QD ?_ | refine Qv ?_ | refine Xs ?_ | refine Qn ?_ | refine Qt ?_ | refine Qf ?_ | ((refine Qh ?_);refine Qj rfl ?_) | ((refine Qe ?_);first | refine Qq rfl ?_ | refine Qu rfl rfl rfl ?_) | ((refine Qc ?_);first | refine Xi rfl ?_ | refine Qz rfl c1 ?_ | refine Qs rfl ls ?_ | refine Qw (esz:=1) rfl rfl (by omega) ?_ | refine Q4 rfl rd ?_ | refine QL rfl ?_ | refine Qo rfl ?_ | refine QC rfl rfl ?_ | refine Qy rfl rfl (by omega) ?_ | refine QM rfl rfl (by omega) ?_ | refine XV rfl rfl (by omega) ?_))
    exact XI ⟨rfl,.inr ⟨rfl,fun hf=>by have:=hf c hm;omega,rfl⟩⟩
   ·repeat' (first | refine Qg ?_ | refine Qb ?_ | refine Qv ?_ | refine QJ ?_ | refine Qn ?_ | refine Qf ?_ | ((refine Qh ?_);first | refine Qj rfl ?_ | refine Qk rfl ?_) | ((refine Qe ?_);first | refine QE rfl rfl ?_ | refine Qu rfl rfl rfl ?_) | ((refine Qc ?_);first | refine Xi rfl ?_ | refine Qz rfl c1 ?_ | refine Qs rfl ls ?_ | refine Qw (esz:=1) rfl rfl (by omega) ?_ | refine Q4 rfl rd ?_ | refine QL rfl ?_ | refine Qo rfl ?_ | refine QC rfl rfl ?_ | refine QK rfl rfl (by omega) ?_ | refine Qy rfl rfl (by omega) ?_ | refine QM rfl rfl (by omega) ?_ | refine XT rfl rfl (by omega) ?_))
    refine QB (j:=e.2.length-(i+1)) (by omega) ⟨i+1,by omega,rfl,rfl,fun x hx=>?_,rfl⟩
    rw [GF,hc] at hx
    rcases Gv.1 hx with hx | hx
    ·exact hall x hx
    ·simp at hx;subst hx;omega
 ·have:i=e.2.length:=by omega
  subst this
  rw [Gx] at hall
  repeat' (first | refine Qg ?_ | refine Qb ?_ | refine Q0 ?_ | refine QX ?_ | refine Qf ?_ | ((refine Qh ?_);refine Qk rfl ?_) | ((refine Qe ?_);refine Qu rfl rfl rfl ?_) | ((refine Qc ?_);first | refine Xi rfl ?_ | refine Qz rfl c1 ?_ | refine Qs rfl ls ?_ | refine Qo rfl ?_ | refine QM rfl rfl (by omega) ?_))
  exact QN ⟨rfl,.inl ⟨rfl,hall,_,_,_,rfl⟩⟩
theorem Qhf (h0:Qa) (e:Ent) (s:SV) (hs:IsInts h0 s e.2):∃ r h',Cal FT HKt 19 [.agg [.int .i64 e.1,s]] h0 r h'∧(Ext h0 h'∧r=smN (decide (smE e))):=by
 refine Cal.of (F:=a19) rfl rfl rfl ?_
 have ls:Yi false s=some (e.2.length:Int):=IsSl.len hs
 by_cases h1:3 < e.2.length
 ·rw [show decide (smE e)=false from decide_eq_false fun hf=>by have:=hf.1;omega]
  repeat' (first | refine Qg ?_ | refine Qb ?_ | refine QD ?_ | refine Qt ?_ | refine Qf ?_ | ((refine Qh ?_);refine Qj rfl ?_) | ((refine Qe ?_);first | refine Qq rfl ?_ | refine QE rfl rfl ?_) | ((refine Qc ?_);first | (refine Qx rfl ?_;intro h1 e1 c1) | refine Xi rfl ?_ | refine Qz rfl c1 ?_ | refine Qs rfl ls ?_ | refine Xd rfl ?_ | refine Qo rfl ?_ | refine QS rfl rfl ?_ | refine XV rfl rfl (by omega) ?_))
  exact ⟨.inr rfl,e1,rfl⟩
 by_cases h2:e.1 < -10
 ·rw [show decide (smE e)=false from decide_eq_false fun hf=>by have:=hf.2.1;omega]
  repeat' (first | refine Qg ?_ | refine Qb ?_ | refine QD ?_ | refine Qt ?_ | refine Qf ?_ | ((refine Qh ?_);refine Qj rfl ?_) | ((refine Qe ?_);first | refine Qq rfl ?_ | refine QE rfl rfl ?_) | ((refine Qc ?_);first | (refine Qx rfl ?_;intro h1 e1 c1) | refine Xi rfl ?_ | refine Qz rfl c1 ?_ | refine QQ rfl c1 ?_ | refine Qs rfl ls ?_ | refine Xd rfl ?_ | refine QL rfl ?_ | refine Qo rfl ?_ | refine QS rfl rfl ?_ | refine QC rfl rfl ?_ | refine Qy rfl rfl (by omega) ?_ | refine XT rfl rfl (by omega) ?_))
  exact ⟨.inr rfl,e1,rfl⟩
 by_cases h3:10 < e.1
 ·rw [show decide (smE e)=false from decide_eq_false fun hf=>by have:=hf.2.2.1;omega]
  repeat' (first | refine Qg ?_ | refine Qb ?_ | refine QD ?_ | refine Qt ?_ | refine Qf ?_ | ((refine Qh ?_);refine Qj rfl ?_) | ((refine Qe ?_);first | refine Qq rfl ?_ | refine QE rfl rfl ?_) | ((refine Qc ?_);first | (refine Qx rfl ?_;intro h1 e1 c1) | refine Xi rfl ?_ | refine Qz rfl c1 ?_ | refine QQ rfl c1 ?_ | refine Qs rfl ls ?_ | refine QL rfl ?_ | refine Qo rfl ?_ | refine QC rfl rfl ?_ | refine QM rfl rfl (by omega) ?_ | refine XV rfl rfl (by omega) ?_ | refine XT rfl rfl (by omega) ?_))
  exact ⟨.inr rfl,e1,rfl⟩
 repeat' (first | refine Qg ?_ | refine Qb ?_ | refine Qv ?_ | refine Qn ?_ | refine Qf ?_ | ((refine Qh ?_);refine Qk rfl ?_) | ((refine Qe ?_);first | refine Qq rfl ?_ | refine QE rfl rfl ?_) | ((refine Qc ?_);first | (refine Qx rfl ?_;intro h1 e1 c1) | refine Xi rfl ?_ | refine Qz rfl c1 ?_ | refine QQ rfl c1 ?_ | refine Qs rfl ls ?_ | refine QL rfl ?_ | refine Qo rfl ?_ | refine QC rfl rfl ?_ | refine QM rfl rfl (by omega) ?_ | refine XT rfl rfl (by omega) ?_))
 refine Q9 (I19 e h0.length s h1) e.2.length (R19 e h1) ⟨0,Gs _,rfl,rfl,by simp,rfl⟩ (QiZ e h0.length s h1 (by omega) c1 (IsSl.ext hs e1)) ?_
 rintro ex E' h4 ⟨rfl,⟨rfl,hf,_,_,_,rfl⟩ | ⟨rfl,hf,rfl⟩⟩
 ·rw [show decide (smE e)=true from decide_eq_true ⟨by omega,by omega,by omega,hf⟩]
  repeat' (first | refine Qg ?_ | refine Qb ?_ | refine QP ?_ | refine Qt ?_ | refine Qf ?_ | ((refine Qe ?_);refine Qq rfl ?_) | ((refine Qc ?_);refine Qo rfl ?_))
  exact ⟨.inr rfl,e1,rfl⟩
 ·rw [show decide (smE e)=false from decide_eq_false fun hg=>hf hg.2.2.2]
  repeat' (first | refine QD ?_ | refine Xs ?_)
  exact ⟨.inr rfl,e1,rfl⟩
def smR (n:Nat) (r:List Ent):Prop:=r.length≤n∧∀ e∈r,smE e
instance (n:Nat) (r:List Ent):Decidable (smR n r):=by unfold smR;infer_instance
def smM (n:Nat) (l:List (List Ent)):Prop:=l.length≤n∧∀ r∈l,smR n r
instance (n:Nat) (l:List (List Ent)):Decidable (smM n l):=by unfold smM;infer_instance
def I10e (r:List Ent) (ls:SV) (n i:Nat) (hb:Qa) (k:Nat) (E:Env) (h:Qa):Prop:=∃ j,j≤r.length∧k=r.length-j∧Ext hb h∧(∀ e∈r.take j,smE e) ∧
 E.keep [0,1,5,6]=[(0,some (.sc ls)),(1,some (.sc (.int .i64 (n:Nat)))),(5,some (.sc (.int .i64 (i:Nat)))),(6,some (.sc (.int .i64 (j:Nat))))]
def R10e (r:List Ent) (ls:SV) (n i:Nat) (hb:Qa) (ex:Ex) (E:Env) (h:Qa):Prop:=Ext hb h∧((ex=.ex 2∧(∀ e∈r,smE e)∧∃ a b,E=[(0,some (.sc ls)),(1,some (.sc (.int .i64 (n:Nat)))),(5,some (.sc (.int .i64 (i:Nat)))),(6,a),(30,b)])∨(ex=.rt∧¬ (∀ e∈r,smE e)∧E=[(4,some (.sc (.int .i64 0)))]))
theorem QfT (l:List (List Ent)) (r:List Ent) (id off:Nat) (cap:Option Nat) (rs:SV) (n i:Nat) (hb:Qa) (hl:r.length≤n) (hn:n≤1000) (hi:i < l.length) (hl2:l.length≤1000) (rd:QZ hb id (off+i*1) 1=some [rs]) (er:ERow hb rs r) (k:Nat) (E:Env) (h:Qa) (hI:I10e r (.slc id off l.length cap) n i hb k E h) :
  wA FT HKt QkM (E.keep [0,1,5,6]) h (Qp (I10e r (.slc id off l.length cap) n i hb) k (R10e r (.slc id off l.length cap) n i hb)):=by
 obtain ⟨j,hj,rfl,x,hall,hE⟩:=hI
 rw [hE]
 have lr:=er.len
 have rd0:=QH x rd
 by_cases hlt:j < r.length
 ·obtain ⟨e,he⟩:∃ e,r[j]?=some e:=⟨_,Ga hlt⟩
  obtain ⟨id2,off2,cap2,t,es,rd2,dt⟩:=er.at he
  subst es
  have rd20:=QH x rd2
  have k19:=Qhf h e t (IsSl.ext dt x)
  have hm:=Gh he
  by_cases hs:smE e
  ·simp only [decide_eq_true hs,smN] at k19
   repeat' (first | refine Qg ?_ | refine Qb ?_ | refine Qv ?_ | refine QJ ?_ | refine Qn ?_ | refine Qf ?_ | ((refine Qh ?_);first | refine Qj rfl ?_ | refine Qk rfl ?_) | ((refine Qe ?_);first | refine QG rfl rfl rfl rfl ?_ | refine QU rfl rfl rfl rfl rfl ?_) | ((refine Qc ?_);first | (have z:=used;refine Qw (esz:=2) rfl rfl (by omega) ?_) | (refine Qw (esz:=1) rfl rfl (by omega) ?_) | (refine Q4 rfl rd0 ?_;have used:=True.intro) | refine Qs rfl lr ?_ | refine XX rfl rd20 ?_ | (refine Qi rfl k19 ?_;rintro v h1 ⟨e1,rfl⟩) | refine Xf rfl rfl (by decide) ?_ | refine Qo rfl ?_ | refine QK rfl rfl (by omega) ?_ | refine Qy rfl rfl (by omega) ?_))
   refine QB (j:=r.length-(j+1)) (by omega) ⟨j+1,by omega,rfl,x.trans e1,fun x hx=>?_,rfl⟩
   rw [GF,he] at hx
   rcases Gv.1 hx with hx | hx
   ·exact hall x hx
   ·simp at hx;subst hx;exact hs
  ·simp only [decide_eq_false hs,smN] at k19
   repeat' (first | refine Qg ?_ | refine Qb ?_ | refine QD ?_ | refine Qv ?_ | refine Xs ?_ | refine Qn ?_ | refine Qt ?_ | refine Qf ?_ | ((refine Qh ?_);refine Qj rfl ?_) | ((refine Qe ?_);first | refine Qq rfl ?_ | refine QU rfl rfl rfl rfl rfl ?_) | ((refine Qc ?_);first | (have z:=used;refine Qw (esz:=2) rfl rfl (by omega) ?_) | (refine Qw (esz:=1) rfl rfl (by omega) ?_) | (refine Q4 rfl rd0 ?_;have used:=True.intro) | refine Qs rfl lr ?_ | refine XX rfl rd20 ?_ | (refine Qi rfl k19 ?_;rintro v h1 ⟨e1,rfl⟩) | refine XD rfl rfl (by decide) ?_ | refine Qo rfl ?_ | refine Qy rfl rfl (by omega) ?_))
   exact XI ⟨x.trans e1,.inr ⟨rfl,fun hf=>hs (hf e hm),rfl⟩⟩
 ·have:j=r.length:=by omega
  subst this
  rw [Gx] at hall
  repeat' (first | refine Qg ?_ | refine Qb ?_ | refine Q0 ?_ | refine QX ?_ | refine Qf ?_ | ((refine Qh ?_);refine Qk rfl ?_) | ((refine Qe ?_);refine QU rfl rfl rfl rfl rfl ?_) | ((refine Qc ?_);first | (refine Qw (esz:=1) rfl rfl (by omega) ?_) | (refine Q4 rfl rd0 ?_) | refine Qs rfl lr ?_ | refine Qo rfl ?_ | refine QM rfl rfl (by omega) ?_))
  exact QN ⟨x,.inl ⟨rfl,hall,_,_,rfl⟩⟩
def I10 (l:List (List Ent)) (ls:SV) (n:Nat) (hb:Qa) (k:Nat) (E:Env) (h:Qa):Prop:=∃ i,i≤l.length∧k=l.length-i∧Ext hb h∧(∀ r∈l.take i,smR n r) ∧
 E.keep [0,1,5]=[(0,some (.sc ls)),(1,some (.sc (.int .i64 (n:Nat)))),(5,some (.sc (.int .i64 (i:Nat))))]
def R10 (l:List (List Ent)) (n:Nat) (hb:Qa) (ex:Ex) (E:Env) (h:Qa):Prop:=Ext hb h∧((ex=.ex 0∧(∀ r∈l,smR n r)∧∃ a b c d,E=[(0,a),(1,b),(5,c),(14,d)])∨(ex=.rt∧¬ (∀ r∈l,smR n r)∧E=[(4,some (.sc (.int .i64 0)))]))
theorem Qi1 (l:List (List Ent)) (ls:SV) (n:Nat) (hb:Qa) (hn:n≤1000) (hl:l.length≤n) (em:EMx hb ls l) (k:Nat) (E:Env) (h:Qa) (hI:I10 l ls n hb k E h) :
  wA FT HKt QkN (E.keep [0,1,5]) h (Qp (I10 l ls n hb) k (R10 l n hb)):=by
 obtain ⟨i,hi,rfl,x,hall,hE⟩:=hI
 rw [hE]
 have lm:=em.len
 by_cases hlt:i < l.length
 ·obtain ⟨r,hr⟩:∃ r,l[i]?=some r:=⟨_,Ga hlt⟩
  obtain ⟨id,off,cap,rs,es,rd,er⟩:=em.at hr
  subst es
  have rd0:=QH x rd
  have lr:=er.len
  have hm:=Gh hr
  by_cases hln:r.length≤n
  ·repeat' (first | refine Qg ?_ | refine Qb ?_ | refine Qv ?_ | refine Qn ?_ | refine Qf ?_ | ((refine Qh ?_);first | refine Qj rfl ?_ | refine Qk rfl ?_) | ((refine Qe ?_);refine QG rfl rfl rfl rfl ?_) | ((refine Qc ?_);first | (refine Qw (esz:=1) rfl rfl (by omega) ?_) | (refine Q4 rfl rd0 ?_) | refine Qs rfl lm ?_ | refine Qs rfl lr ?_ | refine Qo rfl ?_ | refine Qy rfl rfl (by omega) ?_ | refine XT rfl rfl (by omega) ?_))
   refine Q9 (I10e r (.slc id off l.length cap) n i h) r.length (R10e r (.slc id off l.length cap) n i h) ⟨0,Gs _,rfl,Ext.refl _,by simp,rfl⟩ (QfT l r id off cap rs n i h hln hn hlt (by omega) rd0 (er.ext x)) ?_
   rintro ex E' h2 ⟨x2,⟨rfl,hf,_,_,rfl⟩ | ⟨rfl,hf,rfl⟩⟩
   ·repeat' (first | refine Qb ?_ | refine QJ ?_ | refine QP ?_ | refine Qf ?_ | ((refine Qe ?_);refine Qu rfl rfl rfl ?_) | ((refine Qc ?_);first | refine Qo rfl ?_ | refine QK rfl rfl (by omega) ?_))
    refine QB (j:=l.length-(i+1)) (by omega) ⟨i+1,by omega,rfl,x.trans x2,fun y hy=>?_,rfl⟩
    rw [GF,hr] at hy
    rcases Gv.1 hy with hy | hy
    ·exact hall y hy
    ·simp at hy;subst hy;exact ⟨hln,hf⟩
   ·repeat' (first | refine QD ?_ | refine Xs ?_)
    exact XI ⟨x.trans x2,.inr ⟨rfl,fun hg=>hf (hg r hm).2,rfl⟩⟩
  ·repeat' (first | refine Qg ?_ | refine Qb ?_ | refine QD ?_ | refine Qv ?_ | refine Xs ?_ | refine Qn ?_ | refine Qt ?_ | refine Qf ?_ | ((refine Qh ?_);refine Qj rfl ?_) | ((refine Qe ?_);first | refine Qq rfl ?_ | refine QG rfl rfl rfl rfl ?_) | ((refine Qc ?_);first | (refine Qw (esz:=1) rfl rfl (by omega) ?_) | (refine Q4 rfl rd0 ?_) | refine Qs rfl lm ?_ | refine Qs rfl lr ?_ | refine Qo rfl ?_ | refine Qy rfl rfl (by omega) ?_ | refine XV rfl rfl (by omega) ?_))
   exact XI ⟨x,.inr ⟨rfl,fun hg=>hln (hg r hm).1,rfl⟩⟩
 ·have:i=l.length:=by omega
  subst this
  rw [Gx] at hall
  repeat' (first | refine Qg ?_ | refine Qb ?_ | refine Q0 ?_ | refine QX ?_ | refine Qf ?_ | ((refine Qh ?_);refine Qk rfl ?_) | ((refine Qe ?_);refine QG rfl rfl rfl rfl ?_) | ((refine Qc ?_);first | refine Qs rfl lm ?_ | refine Qo rfl ?_ | refine QM rfl rfl (by omega) ?_))
  exact QN ⟨x,.inl ⟨rfl,hall,_,_,_,_,rfl⟩⟩
theorem QmK (h0:Qa) (l:List (List Ent)) (ls:SV) (n:Nat) (hn:n≤1000) (em:EMx h0 ls l):∃ r h',Cal FT HKt 10 [.sc ls,.sc (.int .i64 (n:Nat))] h0 r h'∧(Ext h0 h'∧r=smN (decide (smM n l))):=by
 refine Cal.of (F:=a10) rfl rfl rfl ?_
 have lm:=em.len
 by_cases h1:l.length≤n
 ·repeat' (first | refine Qg ?_ | refine Qb ?_ | refine Qv ?_ | refine Qn ?_ | refine Qf ?_ | ((refine Qh ?_);refine Qk rfl ?_) | ((refine Qe ?_);first | refine QE rfl rfl ?_ | refine Qu rfl rfl rfl ?_) | ((refine Qc ?_);first | refine Qs rfl lm ?_ | refine Qo rfl ?_ | refine XT rfl rfl (by omega) ?_))
  refine Q9 (I10 l ls n h0) l.length (R10 l n h0) ⟨0,Gs _,rfl,Ext.refl _,by simp,rfl⟩ (Qi1 l ls n h0 hn h1 em) ?_
  rintro ex E' h4 ⟨x,⟨rfl,hf,_,_,_,_,rfl⟩ | ⟨rfl,hf,rfl⟩⟩
  ·rw [show decide (smM n l)=true from decide_eq_true ⟨h1,hf⟩]
   repeat' (first | refine Qg ?_ | refine Qb ?_ | refine QP ?_ | refine Qt ?_ | refine Qf ?_ | ((refine Qe ?_);refine Qq rfl ?_) | ((refine Qc ?_);refine Qo rfl ?_))
   exact ⟨.inr rfl,x,rfl⟩
  ·rw [show decide (smM n l)=false from decide_eq_false fun hg=>hf hg.2]
   repeat' (first | refine QD ?_ | refine Xs ?_)
   exact ⟨.inr rfl,x,rfl⟩
 ·rw [show decide (smM n l)=false from decide_eq_false fun hg=>h1 hg.1]
  repeat' (first | refine Qg ?_ | refine Qb ?_ | refine QD ?_ | refine Qt ?_ | refine Qf ?_ | ((refine Qh ?_);refine Qj rfl ?_) | ((refine Qe ?_);first | refine Qq rfl ?_ | refine QE rfl rfl ?_ | refine Qu rfl rfl rfl ?_) | ((refine Qc ?_);first | refine Qs rfl lm ?_ | refine Qo rfl ?_ | refine XV rfl rfl (by omega) ?_))
  exact ⟨.inr rfl,Ext.refl _,rfl⟩
