/- The law's shape and square. -/
import Derived.Test.YtofknpknogfijaaGreatDoorLW1
import Derived.Test.YtofknpknogfijaaGreatDoorAb50
import Derived.Test.YtofknpknogfijaaGreatDoorDV
import Derived.Test.YtofknpknogfijaaGreatDoorFT1
import Derived.Test.YtofknpknogfijaaGreatDoorDE7
namespace Go.Proofs.YtofknpknogfijaaGreatDoor
open Go.Ab
set_option linter.all false
set_option maxHeartbeats 16000000
set_option maxRecDepth 20000
attribute [local irreducible] Ql wA Xr Xp QA Qp QW QY
variable [HB]
def yE (l:List (List Ent)):Nat:=(l.getD 0 []).length
def UM (l:List (List Ent)):Prop:=∀ r∈l,r.length=yE l
instance (l:List (List Ent)):Decidable (UM l):=by unfold UM;infer_instance
def QfB (l:List (List Ent)):AV:=if UM l then .tup [.sc (.int .i64 (l.length:Nat)),.sc (.int .i64 (yE l:Nat)),.sc (.bool true)] else .tup [.sc (.int .i64 0),.sc (.int .i64 0),.sc (.bool false)]
def I32 (l:List (List Ent)) (ls:SV) (hb:Qa) (k:Nat) (E:Env) (h:Qa):Prop:=∃ i,i≤l.length∧k=l.length-i∧h=hb∧(∀ r∈l.take i,r.length=yE l) ∧
 E.keep [0,5]=[(0,some (.sc ls)),(5,some (.sc (.int .i64 (i:Nat))))]
def R32 (l:List (List Ent)) (ls:SV) (hb:Qa) (ex:Ex) (E:Env) (h:Qa):Prop:=h=hb∧((ex=.ex 0∧UM l∧∃ a b,E=[(0,some (.sc ls)),(5,a),(12,b)])∨(ex=.rt∧¬ UM l∧E=[(2,some (.sc (.int .i64 0))),(3,some (.sc (.int .i64 0))),(4,some (.sc (.bool false)))]))
theorem QiX (l:List (List Ent)) (ls:SV) (hb:Qa) (hn:l.length≤1000000) (em:EMx hb ls l) (hl:∀ r∈l,r.length≤1000000) (k:Nat) (E:Env) (h:Qa) (hI:I32 l ls hb k E h) :
  wA FT HKt QkF (E.keep [0,5]) h (Qp (I32 l ls hb) k (R32 l ls hb)):=by
 obtain ⟨i,hi,rfl,rfl,hall,hE⟩:=hI
 rw [hE]
 have lm:=em.len
 by_cases hlt:i < l.length
 ·obtain ⟨r,hr⟩:∃ r,l[i]?=some r:=⟨_,Ga hlt⟩
  obtain ⟨r0,hr0⟩:∃ r0,l[0]?=some r0:=⟨_,Ga (by omega)⟩
  have hc:yE l=r0.length:=by unfold yE;rw [Ge,hr0];rfl
  obtain ⟨id,off,cap,rs,es,rd,er⟩:=em.at hr
  obtain ⟨id0,off0,cap0,rs0,es0,rd0,er0⟩:=em.at hr0
  subst es
  obtain ⟨rfl,rfl,-,rfl⟩:=SV.slc.inj es0
  have lr:=er.len
  have lr0:=er0.len
  have m:=Gh hr
  have b1:=hl r m
  have b0:=hl r0 (Gh hr0)
  by_cases heq:r.length=r0.length
  ·repeat' (first | refine Qg ?_ | refine Qb ?_ | refine Qv ?_ | refine QJ ?_ | refine Qn ?_ | refine Qf ?_ | refine Q2 ?_ | refine Xk ?_ | refine Xl ?_ | ((refine Qh ?_);first | refine Qj rfl ?_ | refine Qk rfl ?_) | ((refine Qe ?_);first | refine Q1 ?_ | refine QE rfl rfl ?_ | refine Qu rfl rfl rfl ?_) | ((refine Qc ?_);first | (refine Qw (esz:=1) rfl rfl (by omega) ?_) | refine Q4 rfl rd ?_ | refine Q4 rfl rd0 ?_ | refine Qs rfl lm ?_ | refine Qs rfl lr ?_ | refine Qs rfl lr0 ?_ | refine XS rfl rfl (by omega) ?_ | refine Qo rfl ?_ | refine QK rfl rfl (by omega) ?_ | refine Qy rfl rfl (by omega) ?_))
   refine QB (j:=l.length-(i+1)) (by omega) ⟨i+1,by omega,rfl,rfl,fun x hx=>?_,rfl⟩
   rw [GF,hr] at hx
   rcases Gv.1 hx with hx | hx
   ·exact hall x hx
   ·simp at hx;subst hx;rw [hc];exact heq
  ·repeat' (first | refine Qg ?_ | refine Qb ?_ | refine QD ?_ | refine Qv ?_ | refine Xs ?_ | refine Qn ?_ | refine Qt ?_ | refine Qf ?_ | refine Q2 ?_ | refine Xk ?_ | refine Xl ?_ | ((refine Qh ?_);refine Qj rfl ?_) | ((refine Qe ?_);first | refine Q1 ?_ | refine Qu rfl rfl rfl ?_) | ((refine Qc ?_);first | (refine Qw (esz:=1) rfl rfl (by omega) ?_) | refine Q4 rfl rd ?_ | refine Q4 rfl rd0 ?_ | refine Qs rfl lm ?_ | refine Qs rfl lr ?_ | refine Qs rfl lr0 ?_ | refine Yg rfl rfl (by omega) ?_ | refine Qo rfl ?_ | refine Qy rfl rfl (by omega) ?_))
   exact XI ⟨rfl,.inr ⟨rfl,fun hf=>heq (by rw [← hc];exact hf r m),rfl⟩⟩
 ·have:i=l.length:=by omega
  subst this
  rw [Gx] at hall
  repeat' (first | refine Qg ?_ | refine Qb ?_ | refine Q0 ?_ | refine QX ?_ | refine Qf ?_ | ((refine Qh ?_);refine Qk rfl ?_) | ((refine Qe ?_);refine Qu rfl rfl rfl ?_) | ((refine Qc ?_);first | refine Qs rfl lm ?_ | refine Qo rfl ?_ | refine QM rfl rfl (by omega) ?_))
  exact QN ⟨rfl,.inl ⟨rfl,hall,_,_,rfl⟩⟩
theorem QmD (h0:Qa) (l:List (List Ent)) (ls:SV) (hn:l.length≤1000000) (em:EMx h0 ls l) (hl:∀ r∈l,r.length≤1000000):∃ r h',Cal FT HKt 32 [.sc ls] h0 r h'∧(h'=h0∧r=QfB l):=by
 refine Cal.of (F:=a32) rfl rfl rfl ?_
 have lm:=em.len
 rcases l with _ | ⟨r0,rs⟩
 ·repeat' (first | refine Qg ?_ | refine Qb ?_ | refine QD ?_ | refine Qt ?_ | refine Qf ?_ | ((refine Qh ?_);refine Qj rfl ?_) | ((refine Qe ?_);first | refine Qq rfl ?_ | refine QE rfl rfl ?_ | refine Qu rfl rfl rfl ?_) | ((refine Qc ?_);first | refine Qs rfl lm ?_ | refine XD rfl rfl rfl ?_ | refine Qo rfl ?_))
  exact ⟨.inr rfl,rfl,rfl⟩
 ·obtain ⟨id0,off0,cap0,rs0,es0,rd0,er0⟩:=em.at (i:=0) (r:=r0) rfl
  subst es0
  have lr0:=er0.len
  have hpos:((r0::rs).length:Int)≠0:=by simp only [GA];omega
  have hc:yE (r0::rs)=r0.length:=rfl
  generalize hL:r0::rs=L at *
  repeat' (first | refine Qg ?_ | refine Qb ?_ | refine Qv ?_ | refine Qn ?_ | refine Qf ?_ | ((refine Qh ?_);refine Qk rfl ?_) | ((refine Qe ?_);first | refine Qq rfl ?_ | refine QE rfl rfl ?_) | ((refine Qc ?_);first | refine Qs rfl lm ?_ | refine Xf rfl rfl hpos ?_ | refine Qo rfl ?_))
  refine Q9 (I32 L (.slc id0 off0 L.length cap0) h0) L.length (R32 L (.slc id0 off0 L.length cap0) h0) ⟨0,Gs _,rfl,rfl,by simp,rfl⟩ (QiX L _ h0 hn em hl) ?_
  rintro ex E' h4 ⟨rfl,⟨rfl,hf,_,_,rfl⟩ | ⟨rfl,hf,rfl⟩⟩
  ·have hp:0 < L.length:=by omega
   repeat' (first | refine Qg ?_ | refine Qb ?_ | refine QP ?_ | refine Qt ?_ | refine Q2 ?_ | refine Xk ?_ | refine Xl ?_ | ((refine Qe ?_);first | refine Q1 ?_ | refine Qu rfl rfl rfl ?_) | ((refine Qc ?_);first | (refine Qw (esz:=1) rfl rfl (by omega) ?_) | refine Q4 rfl rd0 ?_ | refine Qs rfl lm ?_ | refine Qs rfl lr0 ?_ | refine Qo rfl ?_))
   refine ⟨.inr rfl,rfl,?_⟩
   unfold QfB
   rw [if_pos hf,hc]
  ·repeat' (first | refine QD ?_ | refine Xs ?_)
   refine ⟨.inr rfl,rfl,?_⟩
   unfold QfB
   rw [if_neg hf]
def sqE (l:List (List Ent)):Prop:=∀ r∈l,r.length=l.length
instance (l:List (List Ent)):Decidable (sqE l):=by unfold sqE;infer_instance
theorem sqE_iff {l:List (List Ent)}:sqE l↔UM l∧l.length=yE l:=by
 rcases l with _ | ⟨r,rs⟩
 ·exact ⟨fun _=>⟨fun r h=>by simp at h,rfl⟩,fun _ r h=>by simp at h⟩
 ·have hc:yE (r::rs)=r.length:=rfl
  constructor
  ·intro h
   have h0:=h r (.head _)
   exact ⟨fun q hq=>by rw [hc,h0];exact h q hq,by rw [hc,h0]⟩
  ·rintro ⟨h1,h2⟩ q hq
   rw [h2];exact h1 q hq
theorem QmI (h0:Qa) (l:List (List Ent)) (ls:SV) (hn:l.length≤1000000) (em:EMx h0 ls l) (hl:∀ r∈l,r.length≤1000000):∃ r h',Cal FT HKt 13 [.sc ls] h0 r h'∧(h'=h0∧r=.sc (.bool (decide (sqE l)))):=by
 refine Cal.of (F:=a13) rfl rfl rfl ?_
 have k32:=QmD h0 l ls hn em hl
 by_cases hf:UM l
 ·simp only [QfB,if_pos hf] at k32
  by_cases he:l.length=yE l
  ·rw [decide_eq_true (sqE_iff.2 ⟨hf,he⟩)]
   repeat' (first | refine Qg ?_ | refine Qb ?_ | refine Qt ?_ | refine Qf ?_ | ((refine Qe ?_);first | refine Qq rfl ?_ | refine Qu rfl rfl rfl ?_) | ((refine Qc ?_);first | (refine Qi rfl k32 ?_;rintro v h1 ⟨rfl,rfl⟩) | refine XD rfl rfl (by omega) ?_ | refine QL rfl ?_ | refine Qo rfl ?_ | refine QS rfl rfl ?_ | refine Xt rfl rfl ?_))
   exact ⟨.inr rfl,rfl,rfl⟩
  ·rw [decide_eq_false fun h=>he (sqE_iff.1 h).2]
   repeat' (first | refine Qg ?_ | refine Qb ?_ | refine Qt ?_ | refine Qf ?_ | ((refine Qe ?_);first | refine Qq rfl ?_ | refine Qu rfl rfl rfl ?_) | ((refine Qc ?_);first | (refine Qi rfl k32 ?_;rintro v h1 ⟨rfl,rfl⟩) | refine Xf rfl rfl (by omega) ?_ | refine QL rfl ?_ | refine Qo rfl ?_ | refine QS rfl rfl ?_ | refine Xt rfl rfl ?_))
   exact ⟨.inr rfl,rfl,rfl⟩
 ·simp only [QfB,if_neg hf] at k32
  rw [decide_eq_false fun h=>hf (sqE_iff.1 h).1]
  repeat' (first | refine Qg ?_ | refine Qb ?_ | refine Qt ?_ | refine Qf ?_ | ((refine Qe ?_);first | refine Qq rfl ?_ | refine Qu rfl rfl rfl ?_) | ((refine Qc ?_);first | (refine Qi rfl k32 ?_;rintro v h1 ⟨rfl,rfl⟩) | refine Xd rfl ?_ | refine Qo rfl ?_ | refine QC rfl rfl ?_ | refine Xt rfl rfl ?_))
  exact ⟨.inr rfl,rfl,rfl⟩
def rwC (n:Nat) (R:Nat→Pol) (U:Nat→SV):List P2:=(List.range n).map fun c=>fL (R c) (U c)
theorem Zo {n:Nat} {R:Nat→Pol} {U:Nat→SV}:(rwC n R U).length=n:=by simp [rwC]
theorem Qa2 {n:Nat} {R:Nat→Pol} {U:Nat→SV}:rwC (n+1) R U=rwC n R U++[fL (R n) (U n)]:=by unfold rwC;rw [List.range_succ,Hb];rfl
theorem Qeh {n:Nat} {R R':Nat→Pol} {U U':Nat→SV} (h:∀ c,c < n→R c=R' c∧U c=U' c):rwC n R U=rwC n R' U':=by
 unfold rwC
 exact GO fun c hc=>by obtain ⟨a,b⟩:=h c (by simpa using hc);rw [a,b]
theorem QiJ {n i:Nat} {R:Nat→Pol} {U:Nat→SV} {p:Pol} {t:SV}:(rwC n R U).set i (fL p t)=rwC n (fun c=>if c=i then p else R c) (fun c=>if c=i then t else U c):=by
 refine Gr fun j=>?_
 unfold rwC
 rw [GH]
 by_cases h:i=j
 ·subst h
  rw [if_pos rfl]
  rcases Gw i n with h2 | h2
  ·rw [if_pos (by simpa using h2),Gi,Gq h2];simp
  ·rw [if_neg (by simpa using h2),Gp (by simpa using h2)]
 ·rw [if_neg h,Gi,Gi]
  rcases Gw j n with h2 | h2
  ·rw [Gq h2];simp [show ¬ j=i from fun e=>h e.symm]
  ·rw [Gp (by simpa using h2)];rfl
theorem QiK {n:Nat} {h:Qa} {R:Nat→Pol} {U:Nat→SV} (d:∀ c,c < n→IsD h (U c) (tms (R c).ts)):NoI (prs (rwC n R U)):=by
 induction n with
 | zero=>intro v hv;cases hv
 | succ n ih =>
  rw [Qa2,ya]
  refine (ih fun c hc=>d c (by omega)).app fun v hv k m=>?_
  have hv:v∈[SV.bool (R n).big,U n]:=hv
  rcases GN.1 hv with rfl | hv
  ·intro e;cases e
  ·rcases GN.1 hv with rfl | hv
   ·exact IsD.noint (d n (by omega)) k m
   ·cases hv
structure RX (lo hi:Nat) (h:Qa) (n m:Nat) (M:Nat→Nat→Pol) (ids:Nat→Nat) (U:Nat→Nat→SV):Prop where
 b:∀ a,a < m→lo≤ids a∧ids a < hi∧h[ids a]?=some (.cells (prs (rwC n (M a) (U a))) true 2)
 d:∀ a c,a < m→c < n→IsD h (U a c) (tms (M a c).ts)
 ne:∀ a b,a < m→b < m→a≠b→ids a≠ids b
def hdR (n:Nat) (ids:Nat→Nat) (caps:Nat→Option Nat) (a:Nat):SV:=.slc (ids a) 0 n (caps a)
structure BX (hb h:Qa) (s:SV) (n m:Nat) (M:Nat→Nat→Pol):Prop where
 x:Ext hb h
 o:∃ (ids:Nat→Nat) (caps:Nat→Option Nat) (U:Nat→Nat→SV),Own hb h s ((List.range m).map (hdR n ids caps))∧RX hb.length h.length h n m M ids U
theorem RX.ext {lo hi hi':Nat} {h h':Qa} {n m:Nat} {M:Nat→Nat→Pol} {ids:Nat→Nat} {U:Nat→Nat→SV} (r:RX lo hi h n m M ids U) (e:Ext h h') (hh:hi≤hi'):RX lo hi' h' n m M ids U :=
 ⟨fun a ha=>let ⟨x,y,z⟩:=r.b a ha;⟨x,by omega,e.get _ _ z⟩,fun a c ha hc=>(r.d a c ha hc).ext e,r.ne⟩
theorem RX.push {lo:Nat} {h h2:Qa} {n m:Nat} {M:Nat→Nat→Pol} {ids:Nat→Nat} {U:Nat→Nat→SV} (r:RX lo h.length h n m M ids U) (e:Ext h h2) {id:Nat} {V:Nat→SV} (h1:h.length≤id∧id < h2.length) (hlo:lo≤h.length) (hb:h2[id]?=some (.cells (prs (rwC n (M m) V)) true 2)) (hd:∀ c,c < n→IsD h2 (V c) (tms (M m c).ts)) :
  RX lo h2.length h2 n (m+1) M (fun a=>if a=m then id else ids a) (fun a=>if a=m then V else U a):=by
 have r2:=r.ext e e.len
 refine ⟨fun a ha=>?_,fun a c ha hc=>?_,fun a b ha hb2 hab=>?_⟩
 ·by_cases ea:a=m
  ·subst ea;simp only [if_pos];exact ⟨by omega,h1.2,hb⟩
  ·simp only [if_neg ea];exact r2.b a (by omega)
 ·by_cases ea:a=m
  ·subst ea;simp only [if_pos];exact hd c hc
  ·simp only [if_neg ea];exact r2.d a c (by omega) hc
 ·by_cases ea:a=m
  ·subst ea
   simp only [if_pos,if_neg (Ne.symm hab)]
   have:=(r.b b (by omega)).2.1
   omega
  ·by_cases eb:b=m
   ·subst eb
    simp only [if_pos,if_neg ea]
    have:=(r.b a (by omega)).2.1
    omega
   ·simp only [if_neg ea,if_neg eb];exact r.ne a b (by omega) (by omega) hab
theorem Own.n2 {h0 h:Qa} {s:SV} {vs:List SV} (o:Own h0 h s vs) {q:Nat} {bl:List SV} {rw':Bool} (c:h[q]?=some (.cells bl rw' 2)):X1 s q:=by
 rcases o with ⟨rfl,-⟩ | ⟨id,cap,cs,rfl,h1,h2,h3⟩
 ·intro o n c e;cases e
 ·intro o n c' e
  cases e
  rw [h2] at c
  exact absurd (congrArg Blk.esz (Option.some.inj c)) (show (1:ESz)≠2 by decide)
theorem RX.out {lo hi hi':Nat} {hb h h':Qa} {s s':SV} {vs:List SV} {n m:Nat} {M:Nat→Nat→Pol} {ids:Nat→Nat} {U:Nat→Nat→SV} (r:RX lo hi h n m M ids U) (o:Own hb h s vs) (fr:Fram h h' s s') (hh:hi≤hi'):RX lo hi' h' n m M ids U :=
 ⟨fun a ha=>let ⟨x,y,z⟩:=r.b a ha;⟨x,by omega,(fr _ _ z (Own.n2 o z)).1⟩,fun a c ha hc=>IsSl.away (r.d a c ha hc) fr (Own.apD o (r.d a c ha hc)),r.ne⟩
def mE (l:List (List Ent)) (a c:Nat):Pol:=PE ((l.getD a []).getD c (0,[]))
theorem mE_at {l:List (List Ent)} {a c:Nat} {r:List Ent} {e:Ent} (hr:l[a]?=some r) (he:r[c]?=some e):mE l a c=PE e:=by
 unfold mE
 rw [Ge (l:=l),hr]
 simp only [Option.getD_some]
 rw [Ge,he];rfl
theorem noiP {h:Qa} {b:Bool} {t:SV} {ps:List P2} (d:IsD h t ps):NoI [.bool b,t]:=by
 intro v hv k m
 rcases GN.1 hv with rfl | hv
 ·intro e;cases e
 ·rcases GN.1 hv with rfl | hv
  ·exact IsD.noint d k m
  ·cases hv
structure SX (hr h:Qa) (s:SV) (m:Nat) (R:Nat→Pol):Prop where
 x:Ext hr h
 o:∃ V:Nat→SV,OwnX hr.length h s (rwC m R V)∧∀ c,c < m→IsD h (V c) (tms (R c).ts)
def I12x (l:List (List Ent)) (r:List Ent) (ls a3:AV) (i:Nat) (hr:Qa) (k:Nat) (E:Env) (h:Qa):Prop:=∃ j s,j≤r.length∧k=r.length-j∧SX hr h s j (mE l i) ∧
 E.keep [0,3,4,5,6]=[(0,some ls),(3,some a3),(4,some (.sc (.int .i64 (i:Nat)))),(5,some (.sc s)),(6,some (.sc (.int .i64 (j:Nat))))]
def R12x (l:List (List Ent)) (r:List Ent) (ls a3:AV) (i:Nat) (hr:Qa) (ex:Ex) (E:Env) (h:Qa):Prop:=ex=.ex 2∧∃ s a b,SX hr h s r.length (mE l i)∧E=[(0,some ls),(3,some a3),(4,some (.sc (.int .i64 (i:Nat)))),(5,some (.sc s)),(6,a),(21,b)]
theorem QfP (l:List (List Ent)) (r:List Ent) (id off:Nat) (cap:Option Nat) (rs:SV) (a3:AV) (i:Nat) (hr:Qa) (hi:i < l.length) (hir:l[i]?=some r) (hl2:l.length≤1000) (hrl:r.length≤1000) (rd:QZ hr id (off+i*1) 1=some [rs]) (er:ERow hr rs r) (ok:∀ e∈r,smE e) (k:Nat) (E:Env) (h:Qa) (hI:I12x l r (.sc (.slc id off l.length cap)) a3 i hr k E h) :
  wA FT HKt QkJ (E.keep [0,3,4,5,6]) h (Qp (I12x l r (.sc (.slc id off l.length cap)) a3 i hr) k (R12x l r (.sc (.slc id off l.length cap)) a3 i hr)):=by
 obtain ⟨j,s,hj,rfl,sr,hE⟩:=hI
 rw [hE]
 have lr:=er.len
 have rd0:=QH sr.x rd
 by_cases hlt:j < r.length
 ·obtain ⟨e,he⟩:∃ e,r[j]?=some e:=⟨_,Ga hlt⟩
  obtain ⟨id2,off2,cap2,t,es,rd2,dt⟩:=er.at he
  subst es
  have rd20:=QH sr.x rd2
  have rda:=(rd1 rd20).1
  have rdb:=(rd1 rd20).2
  have hsm:=ok e (Gh he)
  have ⟨k1,k2,k3,k4⟩:=hsm
  have k20:=QdO h e.1 (by omega) t e.2 (by omega) (IsSl.ext dt sr.x) (fun x hx=>by have:=k4 x hx;omega)
  have em:=mE_at hir he
  rw [show ofP e.1 e.2=mE l i j from em.symm] at k20
  obtain ⟨V,o1,o2⟩:=sr.o
  have lz:(rwC j (mE l i) V).length≤1000:=by rw [Zo];omega
  repeat' (first | refine Qg ?_ | refine Qb ?_ | refine Qv ?_ | refine QJ ?_ | refine Qn ?_ | refine Qf ?_ | refine Q2 ?_ | refine Xk ?_ | refine Xl ?_ | ((refine Qh ?_);refine Qj rfl ?_) | ((refine Qe ?_);first | refine Q1 ?_ | refine Xw ?_ | refine QU rfl rfl rfl rfl rfl ?_ | refine QT rfl rfl rfl rfl rfl rfl ?_) | ((refine Qc ?_);first | (have z:=used;refine Qw (esz:=2) rfl rfl (by omega) ?_) | (refine Qw (esz:=1) rfl rfl (by omega) ?_) | (refine Q4 rfl rd0 ?_;have used:=True.intro) | refine Qs rfl lr ?_ | refine Xi rfl ?_ | refine Q4 rfl rda ?_ | refine Q4 rfl rdb ?_ | (refine Qi rfl k20 ?_;rintro v h1 ⟨e1,t1,rfl,q1⟩) | (refine Qcq rfl ?_;intro h3 e3 s3) | (refine Qjk ((sr.x.trans e1).trans e3) ((o1.ext e1).ext e3) rfl rfl s3 (by unfold Yu;omega) (noiP q1.is) ?_;intro s4 h4 o4 x4 k4') | refine Qo rfl ?_ | refine QK rfl rfl (by omega) ?_ | refine Qy rfl rfl (by omega) ?_))
  have sx:SX hr h4 s4 (j+1) (mE l i):=by
   refine ⟨x4,fun c=>if c=j then t1 else V c,?_,fun c hc=>?_⟩
   ·rw [Qa2,Qeh (R':=mE l i) (U':=V) fun c hc=>⟨rfl,if_neg (by omega)⟩,if_pos rfl]
    exact o4
   ·show IsD h4 (if c=j then t1 else V c) _
    by_cases ec:c=j
    ·subst ec;rw [if_pos rfl];exact IsD.ki (q1.is.ext e3) k4'
    ·rw [if_neg ec];exact IsD.ki (((o2 c (by omega)).ext e1).ext e3) k4'
  exact QB (j:=r.length-(j+1)) (by omega) ⟨j+1,s4,by omega,rfl,sx,rfl⟩
 ·have:j=r.length:=by omega
  subst this
  repeat' (first | refine Qg ?_ | refine Qb ?_ | refine Q0 ?_ | refine QX ?_ | refine Qf ?_ | ((refine Qh ?_);refine Qk rfl ?_) | ((refine Qe ?_);refine QT rfl rfl rfl rfl rfl rfl ?_) | ((refine Qc ?_);first | (refine Qw (esz:=1) rfl rfl (by omega) ?_) | (refine Q4 rfl rd0 ?_) | refine Qs rfl lr ?_ | refine Qo rfl ?_ | refine QM rfl rfl (by omega) ?_))
  exact QN ⟨rfl,s,_,_,sr,rfl⟩
def I12w (l:List (List Ent)) (ls:SV) (n:Nat) (hb:Qa) (k:Nat) (E:Env) (h:Qa):Prop:=∃ i s,i≤l.length∧k=l.length-i∧BX hb h s n i (mE l) ∧
 E.keep [0,3,4]=[(0,some (.sc ls)),(3,some (.sc s)),(4,some (.sc (.int .i64 (i:Nat))))]
def R12w (l:List (List Ent)) (n:Nat) (hb:Qa) (ex:Ex) (E:Env) (h:Qa):Prop:=ex=.ex 0∧∃ s a b c,BX hb h s n l.length (mE l)∧E=[(0,a),(3,some (.sc s)),(4,b),(11,c)]
theorem QfQ (l:List (List Ent)) (ls:SV) (n:Nat) (hb:Qa) (hl:l.length≤1000) (em:EMx hb ls l) (ok:∀ r∈l,r.length=n∧r.length≤1000∧∀ e∈r,smE e) (k:Nat) (E:Env) (h:Qa) (hI:I12w l ls n hb k E h) :
  wA FT HKt QkK (E.keep [0,3,4]) h (Qp (I12w l ls n hb) k (R12w l n hb)):=by
 obtain ⟨i,s,hi,rfl,bx,hE⟩:=hI
 rw [hE]
 have lm:=em.len
 by_cases hlt:i < l.length
 ·obtain ⟨r,hr⟩:∃ r,l[i]?=some r:=⟨_,Ga hlt⟩
  obtain ⟨id,off,cap,rs,es,rd,er⟩:=em.at hr
  subst es
  have rd0:=QH bx.x rd
  obtain ⟨ok0,ok1,ok2⟩:=ok r (Gh hr)
  repeat' (first | refine Qg ?_ | refine Qb ?_ | refine Qv ?_ | refine Qn ?_ | refine Qf ?_ | ((refine Qh ?_);refine Qj rfl ?_) | ((refine Qe ?_);first | refine QG rfl rfl rfl rfl ?_ | refine QU rfl rfl rfl rfl rfl ?_) | ((refine Qc ?_);first | refine Qs rfl lm ?_ | refine Qo rfl ?_ | refine Qy rfl rfl (by omega) ?_ | refine Xt rfl rfl ?_))
  refine Q9 (I12x l r (.sc (.slc id off l.length cap)) (.sc s) i h) r.length (R12x l r (.sc (.slc id off l.length cap)) (.sc s) i h) ⟨0,_,Gs _,rfl,⟨⟨_,rfl⟩,fun _=>.nilS,litX h h.length (Gf _),fun c hc=>by omega⟩,rfl⟩ (QfP l r id off cap rs (.sc s) i h hlt hr hl ok1 rd0 (er.ext bx.x) ok2) ?_
  rintro ex E' h2 ⟨rfl,s2,_,_,sr,rfl⟩
  obtain ⟨x0,ids,caps,U,o1,rx⟩:=bx
  obtain ⟨V,⟨idn,capn,rfl,w1,w2,w3,w4⟩,w5⟩:=sr.o
  rw [Zo,ok0] at *
  have rx2:=rx.push sr.x (id:=idn) (V:=V) ⟨w1,(Gb.1 w2).1⟩ x0.len w2 w5
  have lz:((List.range i).map (hdR n ids caps)).length≤1000:=by rw [Gt,List.length_range];omega
  have o2:=o1.ext sr.x
  repeat' (first | refine Qb ?_ | refine QJ ?_ | refine QP ?_ | refine Qf ?_ | ((refine Qe ?_);refine Qu rfl rfl rfl ?_) | ((refine Qc ?_);first | (refine Qgw rfl ?_;intro h3 e3 s3) | (refine Qkl (ws:=[.slc idn 0 n capn]) ((x0.trans sr.x).trans e3) (o2.ext e3) rfl rfl s3 (by simp only [GA,GV];unfold Yu;omega) ?_;intro s5 h5 o5 x5 l5 fr5) | refine Qo rfl ?_ | refine QK rfl rfl (by omega) ?_))
  have b5:BX hb h5 s5 n (i+1) (mE l):=by
   refine ⟨x5,_,fun a=>if a=i then capn else caps a,_,?_,(rx2.ext e3 e3.len).out (o2.ext e3) fr5 l5⟩
   have e5:(List.range (i+1)).map (hdR n (fun a=>if a=i then idn else ids a) fun a=>if a=i then capn else caps a)=(List.range i).map (hdR n ids caps)++[.slc idn 0 n capn]:=by
    rw [List.range_succ,Hb]
    congr 1
    ·refine GO fun a ha=>?_
     have ha:a < i:=by simpa using ha
     have hne:a≠i:=by omega
     simp only [hdR,if_neg hne]
    ·simp [hdR]
   rw [e5];exact o5
  exact QB (j:=l.length-(i+1)) (by omega) ⟨i+1,s5,by omega,rfl,b5,rfl⟩
 ·have:i=l.length:=by omega
  subst this
  repeat' (first | refine Qg ?_ | refine Qb ?_ | refine Q0 ?_ | refine QX ?_ | refine Qf ?_ | ((refine Qh ?_);refine Qk rfl ?_) | ((refine Qe ?_);refine QG rfl rfl rfl rfl ?_) | ((refine Qc ?_);first | refine Qs rfl lm ?_ | refine Qo rfl ?_ | refine QM rfl rfl (by omega) ?_))
  exact QN ⟨rfl,s,_,_,_,bx,rfl⟩
theorem QjK (h0:Qa) (l:List (List Ent)) (ls:SV) (n:Nat) (hl:l.length≤1000) (em:EMx h0 ls l) (ok:∀ r∈l,r.length=n∧r.length≤1000∧∀ e∈r,smE e):∃ r h',Cal FT HKt 12 [.sc ls] h0 r h'∧(Ext h0 h'∧∃ s,r=.sc s∧BX h0 h' s n l.length (mE l)):=by
 refine Cal.of (F:=a12) rfl rfl rfl ?_
 repeat' (first | refine Qg ?_ | refine Qb ?_ | refine Qv ?_ | refine Qf ?_ | ((refine Qe ?_);first | refine Qq rfl ?_ | refine QE rfl rfl ?_ | refine Qu rfl rfl rfl ?_) | ((refine Qc ?_);first | refine Qo rfl ?_ | refine Xt rfl rfl ?_))
 refine Q9 (I12w l ls n h0) l.length (R12w l n h0) ⟨0,_,Gs _,rfl,⟨⟨_,rfl⟩,fun _=>0,fun _=>none,fun _ _=>.nilS,Own.lit0 h0,⟨fun a ha=>by omega,fun a c ha=>by omega,fun a b ha=>by omega⟩⟩,rfl⟩ (QfQ l ls n h0 hl em ok) ?_
 rintro ex E' h2 ⟨rfl,s2,_,_,_,bx,rfl⟩
 repeat' (first | refine Qg ?_ | refine Qb ?_ | refine QP ?_ | refine Qt ?_ | refine Qf ?_ | ((refine Qe ?_);refine Qq rfl ?_) | ((refine Qc ?_);refine Qo rfl ?_))
 exact ⟨.inr rfl,bx.x,s2,rfl,bx⟩
end Go.Proofs.YtofknpknogfijaaGreatDoor
namespace Go.Proofs.YtofknpknogfijaaGreatDoor
open Go.Ab
set_option linter.all false
variable [HB]
def lst (n:Nat) (M:Nat→Nat→Pol):List (List Pol):=(List.range n).map fun a=>(List.range n).map (M a)
def XY (n:Nat) (M:Nat→Nat→Pol):Int→Int:=QaD (lst n M)
def Rw (n k:Nat) (x:Int) (M:Nat→Nat→Pol):List Row:=(List.range n).map fun a c=>evS k x (M a c).ts
def BdM (n k:Nat) (M:Nat→Nat→Pol):Prop:=∀ a c,a < n→c < n→∀ t∈(M a c).ts,t.1.natAbs≤k
theorem Qgh {n k:Nat} {M:Nat→Nat→Pol} (h:BdM n k M):∀ r∈(lst n M).map rT,∀ l∈r,∀ t∈l,t.1.natAbs≤k:=by
 intro r hr l hl t ht
 obtain ⟨q,hq,rfl⟩:=Gu.1 hr
 obtain ⟨a,ha,rfl⟩:=Gu.1 hq
 obtain ⟨p,hp,rfl⟩:=Gu.1 hl
 obtain ⟨c,hc,rfl⟩:=Gu.1 hp
 exact h a c (by simpa using ha) (by simpa using hc) t ht
theorem ZM {n:Nat} {M:Nat→Nat→Pol}:(lst n M).length=n:=by simp [lst]
theorem yD {n k:Nat} {M:Nat→Nat→Pol} (h:BdM n k M) (x:Int):D (Rw n k x M) (List.range' 0 n)=evF (k*n) (XY n M) x:=by
 have h1:=Qg1 (x:=x) (cs:=List.range' 0 n) (Qgh h)
 rw [Gt,ZM] at h1
 unfold XY QaD
 rw [ZM,← h1]
 refine QaQ (by simp [Rw,lst]) fun i r t hr ht c hc=>?_
 have hc:c < n:=by have:=Hl.1 hc;omega
 unfold Rw at hr
 unfold lst at ht
 rw [Gi] at hr
 rw [Gi,Gi,Gi] at ht
 rcases hi:(List.range n)[i]? with _ | a
 ·rw [hi] at hr;cases hr
 ·rw [hi] at hr ht
  obtain rfl:=Option.some.inj hr
  obtain rfl:=Option.some.inj ht
  show _=evS k x ((rT ((List.range n).map (M a))).getD c [])
  unfold rT
  rw [Ge,Gi,Gi,Gq hc]
  rfl
theorem Jw {n k:Nat} {M:Nat→Nat→Pol} (h:BdM n k M):SpF (k*n) (XY n M):=by
 have h1:=Qko (cs:=List.range' 0 (lst n M).length) (Qgh h)
 rw [Gt] at h1
 simp only [ZM] at h1
 unfold XY QaD
 rw [ZM];exact h1
theorem QaC {n k:Nat} {M M':Nat→Nat→Pol} (h:BdM n k M) (h':BdM n k M') (s:Int) (hs:s=1∨s = -1) (hD:∀ x,D (Rw n k x M') (List.range' 0 n)=s*D (Rw n k x M) (List.range' 0 n)) (e:Int):XY n M' e=s*XY n M e:=by
 refine Qcz (k:=k*n) (Jw h') (g:=fun e=>s*XY n M e) (fun e he=>by show s*_=0;rw [Jw h e he,Int.mul_zero]) (fun x _=>?_) e
 rw [← yD h',hD,yD h]
 rcases hs with rfl | rfl
 ·rw [Hj];exact VL (fun e=>(Hj _).symm) x
 ·rw [Int.neg_mul,Hj,← Qjs];exact VL (fun e=>by rw [Int.neg_mul,Hj]) x
def sw (i j a:Nat):Nat:=if a=i then j else if a=j then i else a
theorem Vh {n i j a:Nat} (hi:i < n) (hj:j < n) (ha:a < n):sw i j a < n:=by unfold sw;split;exact hj;split;exact hi;exact ha
theorem QcV (i j a:Nat):sw i j a=sw j i a:=by
 unfold sw
 by_cases h1:a=i
 ·by_cases h2:a=j
  ·subst h1;subst h2;rfl
  ·rw [if_pos h1,if_neg h2,if_pos h1]
 ·rw [if_neg h1,if_neg h1]
theorem Vk {n i j:Nat} (h:i < j) (hj:j < n):∃ pre mid post:List Nat,List.range' 0 n=pre++i::(mid++j::post)∧∀ a,a∈pre∨a∈mid∨a∈post→a≠i∧a≠j:=by
 refine ⟨List.range' 0 i,List.range' (i+1) (j-i-1),List.range' (j+1) (n-j-1),?_,fun a ha=>?_⟩
 ·have e1:i::(List.range' (i+1) (j-i-1)++j::List.range' (j+1) (n-j-1))=List.range' i (n-i):=by
   have e2:j::List.range' (j+1) (n-j-1)=List.range' j (n-j):=by
    rw [← List.range'_succ,show n-j-1+1=n-j by omega]
   rw [e2]
   have e3:List.range' (i+1) (j-i-1)++List.range' j (n-j)=List.range' (i+1) (n-i-1):=by
    have:=List.range'_append_1 (s:=i+1) (m:=j-i-1) (n:=n-j)
    rw [show i+1+(j-i-1)=j by omega,show j-i-1+(n-j)=n-i-1 by omega] at this
    exact this
   rw [e3,← List.range'_succ,show n-i-1+1=n-i by omega]
  rw [e1]
  have:=List.range'_append_1 (s:=0) (m:=i) (n:=n-i)
  rw [show 0+i=i by omega,show i+(n-i)=n by omega] at this
  exact this.symm
 ·simp only [Hl] at ha
  omega
theorem JM {n i j:Nat} (h:i < j) (hj:j < n):∃ pre mid post:List Nat,(∀ f:Nat→Row,(List.range n).map f=pre.map f++f i::(mid.map f++f j::post.map f))∧∀ a,a∈pre∨a∈mid∨a∈post→a≠i∧a≠j:=by
 obtain ⟨pre,mid,post,e,q⟩:=Vk h hj
 exact ⟨pre,mid,post,fun f=>by rw [List.range_eq_range',e];simp,q⟩
theorem UE {l:List Nat} {f g:Nat→Row} (h:∀ a∈l,f a=g a):l.map f=l.map g:=GO h
theorem QgY {n k i j:Nat} {M:Nat→Nat→Pol} (h:BdM n k M) (hi:i < n) (hj:j < n) (hij:i≠j) (e:Int):XY n (fun a=>M (sw i j a)) e = - XY n M e:=by
 have key:∀ {i j:Nat},i < j→j < n→XY n (fun a=>M (sw i j a)) e = - XY n M e:=fun {i j} hlt hj=>by
  have:=QaC (M':=fun a=>M (sw i j a)) h (fun a c ha hc=>h _ c (Vh (by omega) hj ha) hc) (-1) (.inr rfl) (fun x=>by
   obtain ⟨pre,mid,post,e1,q⟩:=JM hlt hj
   have s1:sw i j i=j:=if_pos rfl
   have s2:sw i j j=i:=by unfold sw;rw [if_neg (by omega),if_pos rfl]
   have s3:∀ l:List Nat,(∀ a∈l,a≠i∧a≠j)→l.map (fun a c=>evS k x (M (sw i j a) c).ts)=l.map (fun a c=>evS k x (M a c).ts):=fun l hl=>UE fun a ha=>by
    have:=hl a ha
    have:sw i j a=a:=by unfold sw;rw [if_neg this.1,if_neg this.2]
    rw [this]
   show D ((List.range n).map fun a c=>evS k x (M (sw i j a) c).ts) _=_*D ((List.range n).map fun a c=>evS k x (M a c).ts) _
   rw [e1,e1,s1,s2,s3 pre fun a ha=>q a (.inl ha),s3 mid fun a ha=>q a (.inr (.inl ha)),s3 post fun a ha=>q a (.inr (.inr ha)),Qd0]
   omega) e
  rw [this];omega
 rcases Gw i j with h1 | h1
 ·exact key h1 hj
 ·have h2:=key (i:=j) (j:=i) (by omega) hi
  rw [← h2]
  congr 1
  funext a
  rw [QcV]
theorem QgZ {n k i j:Nat} {M:Nat→Nat→Pol} (h:BdM n k M) (hi:i < n) (hj:j < n) (hij:i≠j) (e:Int):XY n (fun a c=>M a (sw i j c)) e = - XY n M e:=by
 have key:∀ {i j:Nat},i < j→j < n→XY n (fun a c=>M a (sw i j c)) e = - XY n M e:=fun {i j} hlt hj=>by
  have:=QaC (M':=fun a c=>M a (sw i j c)) h (fun a c ha hc=>h a _ ha (Vh (by omega) hj hc)) (-1) (.inr rfl) (fun x=>by
   obtain ⟨pre,mid,post,e1,q⟩:=Vk hlt hj
   have s1:sw i j i=j:=if_pos rfl
   have s2:sw i j j=i:=by unfold sw;rw [if_neg (by omega),if_pos rfl]
   have s3:∀ l:List Nat,(∀ a∈l,a≠i∧a≠j)→l.map (sw i j)=l:=fun l hl=>by
    conv=>rhs;rw [← List.map_id l]
    refine GO fun a ha=>?_
    have:=hl a ha
    unfold sw;rw [if_neg this.1,if_neg this.2];rfl
   have e2:Rw n k x (fun a c=>M a (sw i j c))=(Rw n k x M).map fun r c=>r (sw i j c):=by
    unfold Rw;rw [G9];rfl
   rw [e2,Qd1,e1]
   simp only [Hb,Gy]
   rw [s1,s2,s3 pre fun a ha=>q a (.inl ha),s3 mid fun a ha=>q a (.inr (.inl ha)),s3 post fun a ha=>q a (.inr (.inr ha)),Qb5 j i mid pre post _ (by
    have:=congrArg List.length e1
    simp at this
    simp [Rw];omega)]
   omega) e
  rw [this];omega
 rcases Gw i j with h1 | h1
 ·exact key h1 hj
 ·have h2:=key (i:=j) (j:=i) (by omega) hi
  rw [← h2]
  congr 1
  funext a c
  rw [QcV]
theorem QjA {n k i j:Nat} {M M':Nat→Nat→Pol} (h:BdM n k M) (h':BdM n k M') (hi:i < n) (hj:j < n) (hij:i≠j) (ho:∀ a,a≠i→M' a=M a) (hs:∀ x c,evS k x (M' i c).ts=evS k x (M i c).ts+evS k x (M j c).ts) (e:Int):XY n M' e=XY n M e:=by
 have:=QaC h h' 1 (.inl rfl) (fun x=>by
  have s3:∀ l:List Nat,(∀ a∈l,a≠i)→l.map (fun a c=>evS k x (M' a c).ts)=l.map (fun a c=>evS k x (M a c).ts):=fun l hl=>UE fun a ha=>by rw [ho a (hl a ha)]
  have ei:(fun c=>evS k x (M' i c).ts)=fun c=>(fun c=>evS k x (M i c).ts) c+(fun c=>evS k x (M j c).ts) c:=funext fun c=>hs x c
  have ej:(fun c=>evS k x (M' j c).ts)=fun c=>evS k x (M j c).ts:=by rw [ho j (Ne.symm hij)]
  rw [Hj]
  unfold Rw
  rcases Gw i j with h1 | h1
  ·obtain ⟨pre,mid,post,e1,q⟩:=JM h1 hj
   rw [e1,e1,s3 pre fun a ha=>(q a (.inl ha)).1,s3 mid fun a ha=>(q a (.inr (.inl ha))).1,s3 post fun a ha=>(q a (.inr (.inr ha))).1]
   rw [ei,ej,Qiq (fun c=>evS k x (M i c).ts) (fun c=>evS k x (M j c).ts),yO,Int.add_zero]
  ·obtain ⟨pre,mid,post,e1,q⟩:=JM (i:=j) (j:=i) (by omega) hi
   rw [e1,e1,s3 pre fun a ha=>(q a (.inl ha)).2,s3 mid fun a ha=>(q a (.inr (.inl ha))).2,s3 post fun a ha=>(q a (.inr (.inr ha))).2]
   rw [ei,ej]
   have h2:=Qiq (fun c=>evS k x (M i c).ts) (fun c=>evS k x (M j c).ts) (pre.map (fun a c=>evS k x (M a c).ts)++(fun c=>evS k x (M j c).ts)::mid.map (fun a c=>evS k x (M a c).ts)) (post.map (fun a c=>evS k x (M a c).ts)) (List.range' 0 n)
   simp only [GI,List.cons_append] at h2
   rw [h2,yO,Int.add_zero]) e
 rw [this,Hj]
theorem QgX {n k i j:Nat} {M M':Nat→Nat→Pol} (h':BdM n k M') (hi:i < n) (hj:j < n) (hij:i≠j) (hs:M' i=M' j) (e:Int):XY n M' e=0:=by
 refine Qcz (k:=k*n) (Jw h') (g:=fun _=>0) (fun _ _=>rfl) (fun x _=>?_) e
 rw [← yD h',QgN]
 unfold Rw
 rcases Gw i j with h1 | h1
 ·obtain ⟨pre,mid,post,e1,q⟩:=JM h1 hj
  rw [e1,hs,yO]
 ·obtain ⟨pre,mid,post,e1,q⟩:=JM (i:=j) (j:=i) (by omega) hi
  rw [e1,hs,yO]
theorem Qe1 {n k k2 i:Nat} {M M':Nat→Nat→Pol} {f:List Tm} (h:BdM n k M) (h':BdM n k M') (hf:∀ t∈f,t.1.natAbs≤k2) (hi:i < n) (ho:∀ a,a≠i→M' a=M a) (hs:∀ x c,c < n→x ^ k2*evS k x (M' i c).ts=evS k2 x f*evS k x (M i c).ts) (e:Int):XY n M' e=YJ f (XY n M) e:=by
 refine Qcz (k:=k2+k*n) (g:=YJ f (XY n M)) ((Jw h').mono (by omega)) (fun e he=>Z7 fun t ht=>Jw h _ (by have:=hf t ht;omega)) (fun x _=>?_) e
 rw [Qbn (Jw h) hf,Nat.add_comm,Qme (Jw h'),← yD h,← yD h']
 have e0:∀ f:Nat→Row,(List.range n).map f=(List.range' 0 i).map f++f i::(List.range' (i+1) (n-i-1)).map f:=fun g=>by
  have e1:List.range n=List.range' 0 i++i::List.range' (i+1) (n-i-1):=by
   rw [← List.range'_succ,show n-i-1+1=n-i by omega,List.range_eq_range']
   have:=List.range'_append_1 (s:=0) (m:=i) (n:=n-i)
   rw [show 0+i=i by omega,show i+(n-i)=n by omega] at this
   exact this.symm
  rw [e1];simp
 have s3:∀ l:List Nat,(∀ a∈l,a≠i)→l.map (fun a c=>evS k x (M' a c).ts)=l.map (fun a c=>evS k x (M a c).ts):=fun l hl=>UE fun a ha=>by rw [ho a (hl a ha)]
 unfold Rw
 rw [e0,e0,s3 _ fun a ha=>by have:=Hl.1 ha;omega,s3 _ fun a ha=>by have:=Hl.1 ha;omega,← Qim,← Qim]
 refine QaQ (by simp) fun a r t hr ht c hc=>?_
 have hc:c < n:=by have:=Hl.1 hc;omega
 rcases Hs a i with ha | ha | ha
 ·rw [Gk (by simpa using ha)] at hr ht
  rw [hr] at ht
  rw [Option.some.inj ht]
 ·subst ha
  rw [Gg (by simp)] at hr ht
  simp at hr ht
  subst hr ht
  exact hs x c hc
 ·rw [Gg (by simp;omega)] at hr ht
  obtain ⟨b,hb⟩:∃ b,a-i=b+1:=⟨a-i-1,by omega⟩
  simp only [Gt,List.length_range',hb,List.getElem?_cons_succ] at hr ht
  rw [hr] at ht
  rw [Option.some.inj ht]
theorem US (k:Nat) (x:Int):∀ l:List Tm,evS k x l=S (fun e=>x ^ (e+k).toNat) l
 | []=>rfl
 | t::l=>by simp only [evS,S];rw [US k x l]
theorem Qjm {f g:Int→Int} {p q:Pol} (a:GP f p) (b:GP g q) (hb:FB eM cM fun e=>f e+g e) (kp:Pok p) (kq:Pok q):GP (fun e=>f e+g e) (Je p q)∧∀ h,S h (Je p q).ts=S h p.ts+S h q.ts:=by
 have can:=ZL (f:=fun a b=>a+b) kp.can kq.can
 have e:=QjX (p:=p) (q:=q) a.nb b.nb
 have hcf:∀ e,cf (mA p.ts q.ts) e=f e+g e:=fun e=>by
  show S (dl e) _=_
  rw [S_mA]
  show cf p.ts e+cf q.ts e=_
  rw [a.cf,b.cf]
 have hc:Can (mA p.ts q.ts):=can
 have hfit:yu (mA p.ts q.ts):=by
  intro t ht
  have h1:=Z2 hc ht
  have h0:=hc.nz t ht
  rw [hcf] at h1
  have h2:t.1.natAbs≤eM∧(f t.1+g t.1).natAbs≤cM:=hb t.1 (show f t.1+g t.1≠0 by rw [h1];exact h0)
  rw [h1] at h2
  exact h2.2
 rw [e,if_pos hfit]
 exact ⟨⟨rfl,hc,hcf⟩,fun h=>S_mA h _ _⟩
theorem EOk.gp {p:Pol} (k:EOk p):GP (cf p.ts) p:=⟨k.nb,k.can,fun _=>rfl⟩
theorem EOk.fb {p:Pol} (k:EOk p):FB 12 4 (cf p.ts):=fun e he=>by
 obtain ⟨t,ht,rfl⟩:=Qg6 he
 rw [Z2 k.can ht]
 exact k.bd t ht
structure EG (p:Pol):Prop where
 nb:p.big=false
 can:Can p.ts
 bd:∀ t∈p.ts,t.1.natAbs≤24∧t.2.natAbs≤48
theorem EOk.eg {p:Pol} (k:EOk p):EG p:=⟨k.nb,k.can,fun t ht=>by have:=k.bd t ht;omega⟩
theorem GP.eg {f:Int→Int} {p:Pol} (g:GP f p) (h:FB 24 48 f):EG p:=⟨g.nb,g.can,g.bd h⟩
theorem EG.len {p:Pol} (k:EG p):p.ts.length≤49:=Jz k.can (lo := -24) fun t ht=>by have:=(k.bd t ht).1;omega
theorem EG.sum {p:Pol} (k:EG p):Yr p.ts≤2352:=by
 have:=Ue (B:=48) fun t ht=>(k.bd t ht).2
 have:=k.len
 omega
theorem QaL {p q:Pol} (kp:EOk p) (kq:EOk q):EG (Je p q)∧(∀ t∈(Je p q).ts,t.1.natAbs≤12)∧∀ x,evS 12 x (Je p q).ts=evS 12 x p.ts+evS 12 x q.ts:=by
 have fb:FB 12 8 fun e=>cf p.ts e+cf q.ts e:=fun e he=>by
  replace he:cf p.ts e+cf q.ts e≠0:=he
  show e.natAbs≤12∧(cf p.ts e+cf q.ts e).natAbs≤8
  have h1:=kp.fb e
  have h2:=kq.fb e
  by_cases e1:cf p.ts e=0
  ·have:=h2 (by intro e2;apply he;rw [e1,e2];rfl)
   rw [e1,Int.zero_add];omega
  ·by_cases e2:cf q.ts e=0
   ·have:=h1 e1
    rw [e2,Int.add_zero];omega
   ·have:=h1 e1
    have:=h2 e2
    omega
 obtain ⟨g,s⟩:=Qjm kp.gp kq.gp (fb.mono (by decide) (by decide)) kp.pok kq.pok
 exact ⟨g.eg (fb.mono (by decide) (by decide)),fun t ht=>(g.bd fb t ht).1,fun x=>by rw [US,US,US,s]⟩
theorem Qdh (x:Int) {a b:Int} (ha:0≤a) (hb:0≤b):x ^ (a+b).toNat=x ^ a.toNat*x ^ b.toNat:=by
 rw [Int.toNat_add ha hb,Int.pow_add]
theorem Qaj {p q:Pol} (kp:EOk p) (kq:EOk q):EG (Yl p q)∧∀ x,x ^ 12*evS 24 x (Yl p q).ts=evS 12 x q.ts*evS 24 x p.ts:=by
 have fb:FB 24 48 (YJ q.ts (cf p.ts)):=fun e he=>by
  obtain ⟨t,ht,h2⟩:=Qdp he
  have h3:=(kp.fb _ h2).1
  have h4:=(kq.bd t ht).1
  refine ⟨by omega,?_⟩
  have:=zV (B:=4) (f:=cf p.ts) (fun e=>by
   by_cases h:cf p.ts e=0
   ·rw [h];exact Gs _
   ·exact (kp.fb _ h).2) (l:=q.ts) (e:=e)
  have:=kq.sum
  omega
 have g:=QdE kp.gp (kp.fb.mono (by decide) (by decide)) kq.pok kq.nb (fun t ht=>by have:=(kq.bd t ht).1;omega) (fun e=>by
  by_cases h0:YJ q.ts (cf p.ts) e=0
  ·rw [h0];exact Gs _
  ·have:=(fb e h0).2
   simp only [cM];omega)
 obtain ⟨L,hc,hs,he⟩:=Qf8 kp.pok kq.pok kp.nb kq.nb (fun t ht=>by have:=(kp.bd t ht).1;omega) (fun t ht=>by have:=(kq.bd t ht).1;omega)
 have hL:(Yl p q).ts=L:=by
  have nb:=g.nb
  rw [he] at nb ⊢
  split at nb
  ·rename_i h;rw [if_pos h]
  ·cases nb
 refine ⟨g.eg fb,fun x=>?_⟩
 rw [hL,US,US,US,hs]
 unfold S2
 rw [Int.mul_comm (S _ q.ts),← zE (c:=x ^ 12),← Int.mul_comm (S _ q.ts),← zE]
 refine YC fun t ht=>?_
 rw [← zE,Int.mul_comm,← zE]
 refine YC fun u hu=>?_
 have h1:=(kp.bd t ht).1
 have h2:=(kq.bd u hu).1
 rw [← Qdh x (by omega) (by omega),show x ^ 12=x ^ ((12:Int)).toNat from rfl,← Qdh x (by omega) (by omega)]
 congr 2;omega
theorem sqmG {n:Nat} {M:Nat→Nat→Pol} (hn:n≤4) (h:∀ a c,a < n→c < n→EG (M a c)):SqM 14 (lst n M):=by
 have hr:∀ r∈lst n M,r.length=n∧∀ p∈r,EG p:=fun r hr=>by
  obtain ⟨a,ha,rfl⟩:=Gu.1 hr
  refine ⟨by simp,fun p hp=>?_⟩
  obtain ⟨c,hc,rfl⟩:=Gu.1 hp
  exact h a c (by simpa using ha) (by simpa using hc)
 refine ⟨by rw [ZM];omega,fun r h2=>by rw [ZM];exact (hr r h2).1,fun r h2 p hp=>?_,⟨by decide,by rw [ZM];omega⟩,fun r h2=>?_⟩
 ·have:=(hr r h2).2 p hp
  exact ⟨this.can,this.nb,by have:=this.len;omega,fun t ht=>by have:=this.bd t ht;simp only [cM];omega⟩
 ·obtain ⟨h3,h4⟩:=hr r h2
  have key:∀ q:List Pol,(∀ p∈q,EG p)→XP (rT q)≤q.length*2352:=by
   intro q
   induction q with
   | nil=>intro _;simp [rT,XP]
   | cons p q ih =>
    intro hq
    have:=ih fun z hz=>hq z (.tail _ hz)
    have:=(hq p (.head _)).sum
    unfold rT at *
    simp only [Gy,XP,GA,GT];omega
  have:=key r h4
  rw [h3] at this
  have:n*2352≤4*2352:=GE _ hn
  omega
def MX (lo hi:Nat) (h:Qa) (s:SV) (n:Nat) (M:Nat→Nat→Pol):Prop:=∃ (ids:Nat→Nat) (caps:Nat→Option Nat) (U:Nat→Nat→SV),IsSl h s 1 n ((List.range n).map (hdR n ids caps))∧RX lo hi h n n M ids U
theorem BX.mx {hb h:Qa} {s:SV} {n:Nat} {M:Nat→Nat→Pol} (b:BX hb h s n n M):MX hb.length h.length h s n M:=by
 obtain ⟨x,ids,caps,U,o,r⟩:=b
 have:=o.sl
 simp only [Gt,List.length_range] at this
 exact ⟨ids,caps,U,this,r⟩
theorem MX.ext {lo hi:Nat} {h h':Qa} {s:SV} {n:Nat} {M:Nat→Nat→Pol} (m:MX lo hi h s n M) (e:Ext h h'):MX lo hi h' s n M:=by
 obtain ⟨ids,caps,U,sl,r⟩:=m
 exact ⟨ids,caps,U,sl.ext e,r.ext e (Gf _)⟩
theorem Qay {h:Qa} {s:SV} {z:ESz} {n:Nat} {vs:List SV} (sl:IsSl h s z n vs) {q:Nat} {b:Blk} (hb:h[q]?=some b) (hz:b.esz≠z):X1 s q:=by
 rcases sl with ⟨rfl,-⟩ | ⟨id,off,cap,b2,rfl,h1,h2,-⟩
 ·intro o n c e;cases e
 ·intro o n c e
  cases e
  rw [hb] at h1
  obtain rfl:=Option.some.inj h1
  exact hz h2
theorem MX.oth {lo hi:Nat} {h:Qa} {s:SV} {n:Nat} {M:Nat→Nat→Pol} (m:MX lo hi h s n M) {id:Nat} {b b':Blk} (hb:h[id]?=some b) (h1:b.esz≠1) (h2:b.esz≠2∨id < lo∨hi≤id) (ki:KI h (h.set id b')):MX lo hi (h.set id b') s n M:=by
 obtain ⟨ids,caps,U,sl,r⟩:=m
 refine ⟨ids,caps,U,IsSl.setB sl (Qay sl hb h1) _,fun a ha=>?_,fun a c ha hc=>IsD.ki (r.d a c ha hc) ki,r.ne⟩
 obtain ⟨x,y,z⟩:=r.b a ha
 refine ⟨x,y,?_⟩
 have hne:id≠ids a:=fun e=>by
  subst e
  rw [hb] at z
  obtain rfl:=Option.some.inj z
  rcases h2 with h2 | h2
  ·exact h2 rfl
  ·omega
 rw [Gj hne];exact z
theorem MX.wr {lo hi:Nat} {h h':Qa} {s:SV} {n:Nat} {M:Nat→Nat→Pol} (m:MX lo hi h s n M) {q:Nat} {a b:SV} (w:Wr h h' q a b):MX lo hi h' s n M:=by
 obtain ⟨c,d,hc⟩:=w.old
 have ki:=KI.wr w
 rw [w.eq] at ki ⊢
 exact m.oth (b:=.cells [c,d] true 0) hc (show (0:ESz)≠1 by decide) (.inl (show (0:ESz)≠2 by decide)) ki
def upd {α:Type} (M:Nat→Nat→α) (a c:Nat) (p:α):Nat→Nat→α:=fun x=>if x=a then fun y=>if y=c then p else M a y else M x
theorem RX.noi {lo hi:Nat} {h:Qa} {n m:Nat} {M:Nat→Nat→Pol} {ids:Nat→Nat} {U:Nat→Nat→SV} (r:RX lo hi h n m M ids U) {a:Nat} (ha:a < m):NoI (prs (rwC n (M a) (U a))):=QiK fun c hc=>r.d a c ha hc
theorem RX.ki {lo hi:Nat} {h:Qa} {n m:Nat} {M:Nat→Nat→Pol} {ids:Nat→Nat} {U:Nat→Nat→SV} (r:RX lo hi h n m M ids U) {a:Nat} (ha:a < m) (bl:List SV):KI h (h.set (ids a) (.cells bl true 2)) :=
 KI.set (r.b a ha).2.2 rfl (.inr ⟨_,rfl,r.noi ha⟩)
theorem RX.set {lo hi:Nat} {h:Qa} {n m:Nat} {M:Nat→Nat→Pol} {ids:Nat→Nat} {U:Nat→Nat→SV} (r:RX lo hi h n m M ids U) {a c:Nat} (ha:a < m) {p:Pol} {t:SV} (d:IsD h t (tms p.ts)) :
  RX lo hi (h.set (ids a) (.cells (prs ((rwC n (M a) (U a)).set c (fL p t))) true 2)) n m (upd M a c p) ids (upd U a c t):=by
 have ki:=r.ki ha (prs ((rwC n (M a) (U a)).set c (fL p t)))
 have hlt:=(Gb.1 (r.b a ha).2.2).1
 refine ⟨fun x hx=>?_,fun x y hx hy=>?_,r.ne⟩
 ·obtain ⟨b1,b2,b3⟩:=r.b x hx
  refine ⟨b1,b2,?_⟩
  by_cases e:x=a
  ·subst e
   rw [GC hlt,QiJ]
   unfold upd
   rw [if_pos rfl,if_pos rfl]
  ·rw [Gj (fun e2=>r.ne a x ha hx (Ne.symm e) e2)]
   unfold upd
   rw [if_neg e,if_neg e];exact b3
 ·by_cases e:x=a
  ·subst e
   unfold upd
   rw [if_pos rfl,if_pos rfl]
   by_cases e2:y=c
   ·rw [if_pos e2,if_pos e2];exact IsD.ki d ki
   ·rw [if_neg e2,if_neg e2];exact IsD.ki (r.d x y hx hy) ki
  ·unfold upd
   rw [if_neg e,if_neg e];exact IsD.ki (r.d x y hx hy) ki
theorem MX.set {lo hi:Nat} {h:Qa} {s:SV} {n:Nat} {M:Nat→Nat→Pol} {ids:Nat→Nat} {caps:Nat→Option Nat} {U:Nat→Nat→SV} (sl:IsSl h s 1 n ((List.range n).map (hdR n ids caps))) (r:RX lo hi h n n M ids U) {a c:Nat} (ha:a < n) {p:Pol} {t:SV} (d:IsD h t (tms p.ts)) :
  MX lo hi (h.set (ids a) (.cells (prs ((rwC n (M a) (U a)).set c (fL p t))) true 2)) s n (upd M a c p) :=
 ⟨ids,caps,upd U a c t,IsSl.setB sl (Qay sl (r.b a ha).2.2 (show (2:ESz)≠1 by decide)) _,r.set ha d⟩
theorem UK {h:Qa} {s:SV} {n:Nat} {ids:Nat→Nat} {caps:Nat→Option Nat} (sl:IsSl h s 1 n ((List.range n).map (hdR n ids caps))) {a:Nat} (ha:a < n):∃ id off cap,s=.slc id off n cap∧QZ h id (off+a*1) 1=some [.slc (ids a) 0 n (caps a)]:=by
 have hl:((List.range n).map (hdR n ids caps)).length=n:=by simp
 have sl2:IsSl h s 1 ((List.range n).map (hdR n ids caps)).length ((List.range n).map (hdR n ids caps)):=by rw [hl];exact sl
 obtain ⟨id,off,cap,e,rd⟩:=sl2.at (i:=a) (x:=.slc (ids a) 0 n (caps a)) (by rw [Gi,Gq ha];rfl)
 rw [hl] at e
 exact ⟨id,off,cap,e,rd⟩
theorem RX.rd {lo hi:Nat} {h:Qa} {n m:Nat} {M:Nat→Nat→Pol} {ids:Nat→Nat} {U:Nat→Nat→SV} (r:RX lo hi h n m M ids U) {a c:Nat} (ha:a < m) (hc:c < n):QZ h (ids a) (0+c*2) 2=some [.bool (M a c).big,U a c]:=by
 have hb:=(r.b a ha).2.2
 have hl:(rwC n (M a) (U a)).length=n:=Zo
 have hp:=Qci (ps:=rwC n (M a) (U a)) (i:=c) (p:=fL (M a c) (U a c)) (by unfold rwC;rw [Gi,Gq hc];rfl)
 have hpl:=Zq (rwC n (M a) (U a))
 unfold QZ
 rw [hb]
 simp only
 unfold cut
 rw [if_pos (by omega),G0,hp]
 rfl
theorem MX.pol {lo hi:Nat} {h:Qa} {s:SV} {n:Nat} {M:Nat→Nat→Pol} (m:MX lo hi h s n M):PolMx h s (lst n M):=by
 obtain ⟨ids,caps,U,sl,r⟩:=m
 refine ⟨(List.range n).map (hdR n ids caps),by simp [lst],by simpa using sl,fun i t q ht hq=>?_⟩
 have hi:i < n:=by have:=(Gb.1 ht).1;simpa using this
 unfold lst at hq
 rw [Gi,Gq hi] at ht hq
 obtain rfl:=Option.some.inj ht
 obtain rfl:=Option.some.inj hq
 have hb:=(r.b i hi).2.2
 have hl:(rwC n (M i) (U i)).length=n:=Zo
 have e:List.zipWith (fun (p:Pol) t=>(SV.bool p.big,t)) ((List.range n).map (M i)) ((List.range n).map (U i))=rwC n (M i) (U i):=by
  unfold rwC
  rw [List.zipWith_map_left,List.zipWith_map_right,List.zipWith_self];rfl
 refine ⟨(List.range n).map (U i),by simp,?_,fun c p t hp ht=>?_⟩
 ·rw [e]
  have hpl:=Zq (rwC n (M i) (U i))
  refine .inr ⟨ids i,0,caps i,_,by rw [hl];rfl,hb,rfl,fun h0=>?_,fun _=>⟨_,_,rfl,?_⟩⟩
  ·have:rwC n (M i) (U i)=[]:=Gz h0
   rw [this];rfl
  ·unfold cut
   rw [show ESz.n 2=2 from rfl,if_pos (by omega),Ho,GQ (by omega)]
 ·have hc:c < n:=by have:=(Gb.1 hp).1;simpa using this
  rw [Gi,Gq hc] at hp ht
  obtain rfl:=Option.some.inj hp
  obtain rfl:=Option.some.inj ht
  exact r.d i c hi hc
