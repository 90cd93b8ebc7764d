/- Sparse products: the sums in the keys' order;contract. -/
import Derived.Test.YtofknpknogfijaaGreatDoorSP1
import Derived.Test.YtofknpknogfijaaGreatDoorPZ
import Derived.Test.YtofknpknogfijaaGreatDoorC3
namespace Go.Proofs.YtofknpknogfijaaGreatDoor
open Go.Ab
set_option linter.all false
set_option maxHeartbeats 16000000
set_option maxRecDepth 20000
attribute [local irreducible] Ql wA Xr Xp QA Qp QW QY
variable [HB]
def ZU (f:Int→Int) (l:List Int):List Tm:=l.flatMap fun k=>put k (f k)
theorem QeH (f:Int→Int) (l:List Int) (k:Int):ZU f (l++[k])=ZU f l++put k (f k):=by simp [ZU]
theorem Qbf (f:Int→Int):∀ l:List Int,(ZU f l).length≤l.length
 | []=>Gf _
 | k::l=>by
  have:=Qbf f l
  have e:ZU f (k::l)=put k (f k)++ZU f l:=rfl
  have h:=V6 k (f k)
  rw [e,GK,GA];omega
theorem outL_mem {f:Int→Int} {l:List Int} {t:Tm}:t∈ZU f l↔t.1∈l∧t.2=f t.1∧t.2≠0:=by
 unfold ZU
 rw [List.mem_flatMap]
 constructor
 ·rintro ⟨k,hk,ht⟩
  obtain ⟨h1,h2⟩:=Y7 ht
  rw [h1]
  exact ⟨hk,rfl,h2⟩
 ·rintro ⟨h1,h2,h3⟩
  refine ⟨t.1,h1,?_⟩
  unfold put
  rw [if_neg (by rw [← h2];exact h3),← h2]
  simp
theorem Qbg {f:Int→Int}:∀ {l:List Int},l.Pairwise (· < ·)→Can (ZU f l)
 | [],_=>.nil
 | k::l,h=>by
  obtain ⟨h1,h2⟩:=List.pairwise_cons.1 h
  exact J6 (Qbg h2) fun u hu=>h1 _ (outL_mem.1 hu).1
theorem QdM (f:Int→Int) (e:Int):∀ {l:List Int},l.Nodup→cf (ZU f l) e=if e∈l then f e else 0
 | [],_=>rfl
 | k::l,h=>by
  obtain ⟨h1,h2⟩:=List.nodup_cons.1 h
  have e1:ZU f (k::l)=put k (f k)++ZU f l:=rfl
  have e2:cf (put k (f k)) e=f k*dl e k:=Va _ _ _
  rw [e1,QcB,QdM f e h2,e2]
  by_cases hk:e=k
  ·subst hk
   rw [YX,if_neg h1,if_pos (List.mem_cons_self ..)];omega
  ·rw [Ja (fun e=>hk e.symm),Int.mul_zero,Int.zero_add]
   by_cases hl:e∈l
   ·rw [if_pos hl,if_pos (List.mem_cons_of_mem _ hl)]
   ·rw [if_neg hl,if_neg (by simp [hk,hl])]
abbrev srt (K:List Int):List Int:=K.mergeSort fun x y=>decide (x≤y)
theorem Y9 (K:List Int):(srt K).Perm K:=List.mergeSort_perm _ _
theorem Qlk {K:List Int} (h:K.Nodup):(srt K).Pairwise (· < ·):=by
 have h1:(srt K).Pairwise fun a b=>decide (a≤b)=true:=List.pairwise_mergeSort (fun a b c h1 h2=>by simp only [decide_eq_true_eq] at *;omega) (fun a b=>by simp only [Bool.or_eq_true,decide_eq_true_eq];omega) K
 have h2:(srt K).Nodup:=(Y9 K).nodup_iff.2 h
 exact List.Pairwise.imp₂ (fun a b h1 h2=>by simp only [decide_eq_true_eq] at h1;exact Int.lt_iff_le_and_ne.2 ⟨h1,h2⟩) h1 h2
theorem Qf2 {f:Int→Int} {K:List Int} {lo:Int} {n:Nat} (hn:K.Nodup) (hr:∀ e∈K,lo≤e∧e < lo+n) (hz:∀ e,e ∉ K→f e=0):ZU f (srt K)=Y0 f lo n :=
 Can.ext (Qbg (Qlk hn)) (J9 f lo n) fun e=>by
  rw [QdM f e ((Y9 K).nodup_iff.2 hn),Qg7]
  by_cases he:e∈K
  ·rw [if_pos ((Y9 K).mem_iff.2 he),if_pos (hr e he)]
  ·rw [if_neg (fun h=>he ((Y9 K).mem_iff.1 h))]
   split
   ·exact (hz e he).symm
   ·rfl
theorem Ql1 (h:Qa) (m:Nat):∃ v h',Cal FT HKt 86 [.sc (.mapv m)] h v h'∧h'=h++[.cells [.mapv m] true ⟨0,some 135⟩]∧v=.sc (.fn 116 [(h.length,0)]) :=
 ⟨_,_,Cal.hook (g:=JQ 116 135) rfl rfl,rfl,rfl⟩
theorem Qji (g:Int→SV × SV) (K:List Int):Zd zIW (prW (esF g K))=K:=by
 unfold Zd
 rw [Qgn]
 unfold esF
 rw [G9,G9]
 have:(((fun k:List Int=>k.headD 0)∘fun p:Int × (SV × SV)=>[p.1])∘fun k=>(k,g k))=id:=by funext k;rfl
 rw [this,List.map_id]
theorem Qfu {h:Qa} {p m:Nat} {g:Int→SV × SV} {K:List Int} (hp:h[p]?=some (.cells [.mapv m] true ⟨0,some 135⟩)) (hm:h[m]?=some (MBW (esF g K))) (hn:K.Nodup) (hr:∀ k∈K,-9223372036854775808≤k∧k≤9223372036854775807) (hl:K.length≤1000000) (hne:K≠[]) :
  ∃ v h',Cal FT HKt 85 [.sc (.fn 116 [(p,0)])] h v h'∧h'=h++[.cells ((srt K).map (.int .i64)) false 1]∧v=.sc (.slc h.length 0 K.length none):=by
 have hk:=Qji g K
 have hcs:prW (esF g K)≠[]:=fun e=>by
  have:=Qdg (esF g K)
  rw [e] at this
  have h2:0 < K.length:=G5.2 hne
  simp [esF] at this
  omega
 refine ⟨_,_,Cal.hook (g:=Y1 116 135) rfl (by
  simp only [Y1,hp,hm]
  rw [hk,if_pos ⟨trivial,trivial,⟨by decide,by decide,by decide⟩,hcs,hn,hr,hl⟩]),rfl,rfl⟩
theorem rdRow {h:Qa} {id:Nat} {ks:List Int} {rw':Bool} {i:Nat} {k:Int} (hb:h[id]?=some (.cells (ks.map (.int .i64)) rw' 1)) (hk:ks[i]?=some k):QZ h id (0+i*1) 1=some [.int .i64 k] :=
 rdS (L:=h) hb (by simp [hk])
theorem Qbe {h0 h:Qa} {s:SV} {ps:List P2} (ho:OwnD h0 h s ps) {j:Nat} {cs:List SV} {rw':Bool} {z:ESz} (hz:z≠2) (hj:h[j]?=some (.cells cs rw' z)):X1 s j:=by
 rcases ho with ⟨rfl,-⟩ | ⟨id,cap,bl,rfl,h1,h2,-⟩
 ·intro o n c e;cases e
 ·intro o n c e;cases e
  rw [hj] at h2;simp at h2
  exact absurd h2.2.2 hz
structure St55 (h0 h:Qa) (q4 q5 q6 m sid:Nat) (s:SV) (f:Int→Int) (K ks:List Int) (r:List Tm):Prop where
 e:Ext h0 h
 c4:Cel h q4 (.bool false) .nilS
 b5:Cel1 h q5 (.mapv m)
 mp:h[m]?=some (MBW (esW f K))
 c6:Cel h q6 (.bool false) s
 o:OwnD h0 h s (tms r)
 sb:h[sid]?=some (.cells (ks.map (.int .i64)) false 1)
theorem St55.ext {h0 h h':Qa} {q4 q5 q6 m sid:Nat} {s:SV} {f:Int→Int} {K ks:List Int} {r:List Tm} (x:St55 h0 h q4 q5 q6 m sid s f K ks r) (he:Ext h h'):St55 h0 h' q4 q5 q6 m sid s f K ks r :=
 ⟨x.e.trans he,x.c4.ext he,x.b5.ext he,he.get _ _ x.mp,x.c6.ext he,x.o.ext he,he.get _ _ x.sb⟩
def I55 (h0:Qa) (q4 q5 q6 m sid:Nat) (f:Int→Int) (K ks:List Int) (E:Env) (h:Qa):Prop:=∃ (i:Nat) (s:SV),i≤ks.length∧(∀ k∈ks.take i,(f k).natAbs≤cM)∧St55 h0 h q4 q5 q6 m sid s f K ks (ZU f (ks.take i)) ∧
 E.keep [4,5,6,18,19,20]=[(4,some (.sc (.ptr q4 0))),(5,some (.sc (.ptr q5 0))),(6,some (.sc (.ptr q6 0))),(18,some (.sc (.slc sid 0 ks.length none))),(19,some (.sc (.int .i64 (ks.length:Nat)))),(20,some (.sc (.int .i64 (i:Nat))))]
def R55 (h0:Qa) (q4 q5 q6 m sid:Nat) (f:Int→Int) (K ks:List Int) (ex:Ex) (E:Env) (h:Qa):Prop :=
 (ex=.ex 0∧∃ s,(∀ k∈ks,(f k).natAbs≤cM)∧St55 h0 h q4 q5 q6 m sid s f K ks (ZU f ks)∧∃ a b c d e,E=[(4,some (.sc (.ptr q4 0))),(5,a),(6,some (.sc (.ptr q6 0))),(18,b),(19,c),(20,d),(21,e)]) ∨
 (ex=.rt∧¬ (∀ k∈ks,(f k).natAbs≤cM)∧Ext h0 h∧Cel h q4 (.bool true) .nilS∧E=[(4,some (.sc (.ptr q4 0)))])
theorem QiU (h0:Qa) (q4 q5 q6 m sid:Nat) (f:Int→Int) (K ks:List Int) (hn:ks.length≤1000000) (hf:∀ e,-170141183460469231731687303715884105728 < f e∧f e < 170141183460469231731687303715884105728) (hz:∀ e,e ∉ K→f e=0) (hks:∀ k∈ks,-9223372036854775808≤k∧k≤9223372036854775807) (l4:h0.length≤q4) (l6:h0.length≤q6) (n46:q4≠q6) (E:Env) (h:Qa) (hI:I55 h0 q4 q5 q6 m sid f K ks E h) :
  wA FT HKt Qkz (E.keep [4,5,6,18,19,20]) h (QA (I55 h0 q4 q5 q6 m sid f K ks) (cK [4,5,6,18,19,20] ks.length 20) (cK [4,5,6,18,19,20] ks.length 20 E h) (R55 h0 q4 q5 q6 m sid f K ks)):=by
 obtain ⟨i,s,hi,hsm,st,hE⟩:=hI
 have hm:cK [4,5,6,18,19,20] ks.length 20 E h=ks.length-i:=by unfold cK;rw [hE];rfl
 rw [hm,hE]
 by_cases hlt:i < ks.length
 ·obtain ⟨k,hk⟩:∃ k,ks[i]?=some k:=⟨_,Ga hlt⟩
  have hkr:=hks k (Gh hk)
  have r0:=rdRow st.sb hk
  have k45:=fun H=>Qhc H (f k) (hf _)
  have tk:ks.take (i+1)=ks.take i++[k]:=by rw [GF,hk];rfl
  have fl:=Qbf f (ks.take i)
  rw [Hn] at fl
  have fs:=QeH f (ks.take i) k
  rw [← tk] at fs
  have hg:(UL (esW f K) k).getD (.int .u64 0,.int .u64 0)=wdP (f k):=by
   rw [Qct]
   split
   ·rfl
   ·rename_i hn
    rw [hz k hn]
    rfl
  have hmem:∀ k',k'∈ks.take (i+1)↔k'∈ks.take i∨k'=k:=fun k'=>by rw [tk];simp
  have n4:=st.c4.lt
  have n0:=st.e.len
  by_cases hb:(f k).natAbs≤cM
  ·have hsm2:∀ k'∈ks.take (i+1),(f k').natAbs≤cM:=fun k' hk'=>by
    rcases (hmem k').1 hk' with h1 | rfl
    ·exact hsm k' h1
    ·exact hb
   have e45:smV (f k)=f k:=by unfold smV;rw [if_pos hb]
   rw [e45,decide_eq_true hb] at k45
   generalize hv2:f k=v at *
   simp only [Qd5] at k45
   by_cases hz0:v=0
   ·have fs2:ZU f (ks.take (i+1))=ZU f (ks.take i):=by rw [fs];unfold put;rw [if_pos hz0,Hc]
    subst hz0
    repeat' (first | refine Qg ?_ | refine Qb ?_ | refine Qv ?_ | refine QJ ?_ | refine Qn ?_ | refine Qf ?_ | ((refine Qh ?_);first | refine Qj rfl ?_ | refine Qk rfl ?_) | ((refine Qe ?_);first | refine QT rfl rfl rfl rfl rfl rfl ?_ | refine Xn rfl rfl rfl rfl rfl rfl rfl ?_ | refine Q5 rfl rfl rfl rfl rfl rfl rfl rfl rfl ?_) | ((refine Qc ?_);first | refine Qw (esz:=1) rfl rfl (by omega) ?_ | refine Q4 rfl r0 ?_ | refine Xu rfl st.b5.at rfl ?_ | refine Qas rfl st.mp rfl hg ?_ | (refine Qi rfl (k45 _) ?_;rintro r h4 ⟨e4,rfl⟩;have s4:=st.ext e4) | refine Qo rfl ?_ | refine XR rfl ?_ | refine QK rfl rfl (by omega) ?_ | refine Qy rfl rfl (by omega) ?_ | refine XS rfl rfl (by omega) ?_ | refine Xt rfl rfl ?_))
    exact Xo ⟨i+1,s,by omega,hsm2,by rw [fs2];exact s4,rfl⟩ (by simp [cK,Env.keep,Env.get];omega)
   ·have fs2:ZU f (ks.take (i+1))=ZU f (ks.take i)++[(k,v)]:=by rw [fs];unfold put;rw [if_neg hz0]
    repeat' (first | refine Qg ?_ | refine Qb ?_ | refine Qv ?_ | refine QJ ?_ | refine Qn ?_ | refine Qf ?_ | ((refine Qh ?_);first | refine Qj rfl ?_ | refine Qk rfl ?_) | ((refine Qe ?_);first | refine QT rfl rfl rfl rfl rfl rfl ?_ | refine Xn rfl rfl rfl rfl rfl rfl rfl ?_ | refine Q5 rfl rfl rfl rfl rfl rfl rfl rfl rfl ?_) | ((refine Qc ?_);first | refine Qw (esz:=1) rfl rfl (by omega) ?_ | refine Q4 rfl r0 ?_ | refine Xu rfl st.b5.at rfl ?_ | refine Qas rfl st.mp rfl hg ?_ | (refine Qi rfl (k45 _) ?_;rintro r h4 ⟨e4,rfl⟩;have s4:=st.ext e4) | refine Xi rfl ?_ | refine Qz rfl s4.c6 ?_ | (refine XE rfl rfl ?_) | (refine Js s4.e s4.o rfl rfl (by rw [Q6];simp only [Yu];omega) ?_;intro s' h5 o5 e5 f5 l5;have d6:=s4.c6.fram f5 (s4.o.cel s4.c6)) | (refine Jr rfl rfl d6 ?_;intro h6 w6) | refine Qo rfl ?_ | refine XR rfl ?_ | refine QK rfl rfl (by omega) ?_ | refine Qy rfl rfl (by omega) ?_ | refine Yg rfl rfl (by omega) ?_ | refine Xt rfl rfl ?_))
    have d4:=s4.c4.fram f5 (s4.o.cel s4.c4)
    have d5:=s4.b5.fram f5 (s4.o.cel s4.b5)
    have dm:=(f5 _ _ s4.mp (Qbe s4.o (by decide) s4.mp)).1
    have ds:=(f5 _ _ s4.sb (Qbe s4.o (by decide) s4.sb)).1
    have ne:∀ {j:Nat} {b:Blk},h5[j]?=some b→b≠.cells [.bool false,s] true 0→j≠q6:=fun {j b} hj hb e=>by
     subst e
     unfold Cel at d6
     rw [d6] at hj
     exact hb (Option.some.inj hj).symm
    have n5:q5≠q6:=ne d5 (by simp)
    have nm:m≠q6:=ne dm (by intro e;injection e with e1 e2 e3;exact absurd e3 (by decide))
    have ns:sid≠q6:=ne ds (by intro e;injection e with e1 e2 e3;exact absurd e2 (by decide))
    refine Xo ⟨i+1,s',by omega,hsm2,⟨w6.ext e5 l6,w6.keep d4 n46,?_,?_,w6.cel,?_,?_⟩,rfl⟩ (by simp [cK,Env.keep,Env.get];omega)
    ·unfold Cel1 at d5 ⊢
     rw [w6.eq,Gj (Ne.symm n5)];exact d5
    ·rw [w6.eq,Gj (Ne.symm nm)];exact dm
    ·rw [fs2]
     have:=o5.wrC w6
     simpa [tms,tmP] using this
    ·rw [w6.eq,Gj (Ne.symm ns)];exact ds
  ·have e45:smV (f k)=0:=by unfold smV;rw [if_neg hb]
   rw [e45,decide_eq_false hb] at k45
   generalize hv2:f k=v at *
   simp only [Qd5] at k45
   repeat' (first | refine Qg ?_ | refine Qb ?_ | refine QD ?_ | refine Qv ?_ | refine Xs ?_ | refine Qn ?_ | refine Qt ?_ | refine Qf ?_ | ((refine Qh ?_);refine Qj rfl ?_) | ((refine Qe ?_);first | refine Qq rfl ?_ | refine Xn rfl rfl rfl rfl rfl rfl rfl ?_ | refine Q5 rfl rfl rfl rfl rfl rfl rfl rfl rfl ?_) | ((refine Qc ?_);first | refine Qw (esz:=1) rfl rfl (by omega) ?_ | refine Q4 rfl r0 ?_ | refine Xu rfl st.b5.at rfl ?_ | refine Qas rfl st.mp rfl hg ?_ | (refine Qi rfl (k45 _) ?_;rintro r h4 ⟨e4,rfl⟩;have s4:=st.ext e4) | (refine XE rfl rfl ?_) | (have c4:=s4.c4;refine Xm rfl rfl c4 ?_;intro h6 w6) | refine Qo rfl ?_ | refine Yw rfl ?_ | refine Qy rfl rfl (by omega) ?_ | refine Xt rfl rfl ?_))
   exact Z5 (.inr ⟨rfl,fun h=>hb (by have:=h k (Gh hk);rwa [hv2] at this),w6.ext s4.e l4,w6.cel,rfl⟩)
 ·have:i=ks.length:=by omega
  subst this
  rw [Gx] at hsm st
  repeat' (first | refine Qg ?_ | refine Qb ?_ | refine Q0 ?_ | refine QX ?_ | refine Qf ?_ | ((refine Qh ?_);refine Qk rfl ?_) | ((refine Qe ?_);refine Xn rfl rfl rfl rfl rfl rfl rfl ?_) | ((refine Qc ?_);refine QM rfl rfl (by omega) ?_))
  exact XM (.inl ⟨rfl,s,hsm,st,_,_,_,_,_,rfl⟩)
def QgC (L:List Tm):Pol:=open Classical in if ∀ t∈L,t.2.natAbs≤cM then ⟨false,L⟩ else YP
theorem Qmv (h0:Qa) (sp sq:SV) (ba bb:Bool) (p q:Pol) (hp:IsD h0 sp (tms p.ts)) (hq:IsD h0 sq (tms q.ts)) (kp:Pok p) (kq:Pok q) (hpe:p.ts≠[]) (hqe:q.ts≠[]) (lo:Int) (n:Nat) (hrng:∀ t∈p.ts,∀ u∈q.ts,lo≤t.1+u.1∧t.1+u.1 < lo+n) (hlo : -100000000≤lo∧lo≤100000000) (hn:n≤100000000) (hpq:p.ts.length*q.ts.length≤1000000) :
  ∃ r h',Cal FT HKt 55 [.agg [.bool ba,sp],.agg [.bool bb,sq]] h0 r h'∧Ext h0 h'∧yN h' r (QgC (Vd p.ts q.ts lo n)):=by
 refine Cal.of (F:=a55) rfl rfl rfl ?_
 have hpos:0 < p.ts.length*q.ts.length:=Nat.mul_pos (G5.2 hpe) (G5.2 hqe)
 repeat' (first | refine Qg ?_ | refine Qb ?_ | refine Qf ?_ | ((refine Qe ?_);refine Qu rfl rfl rfl ?_) | ((refine Qc ?_);first | (have z:=e2;refine Xb ?_;intro h3 e3 c3;have d1:=(c1.ext e2).ext e3;have d2:=c2.ext e3;have x3:=e1.trans (e2.trans e3);have l3:=e1.len;have l3b:=e2.len;have l3c:=e3.len) | (have z:=e1;refine Qx rfl ?_;intro h2 e2 c2) | (refine Qx rfl ?_;intro h1 e1 c1) | (have z:=e3;refine Ql5 ?_) | refine Xt rfl rfl ?_))
 have l30:h0.length≤h3.length:=x3.len
 have m1:=c1.lt
 have m2:=c2.lt
 have m3:=c3.lt
 have eB:(h3++[MBW []]++[Blk.cells [.nilM] true 0]).set (h3++[MBW []]).length (.cells [.mapv h3.length] true 0)=h3++[MBW [],.cells [.mapv h3.length] true 0]:=by
  rw [G7 _ _ (Gf _)];simp
 refine qo (a:=.nilM) rfl rfl (by simp) ?_
 intro hB wB cB
 rw [eB] at wB
 have e3B:Ext h3 hB:=⟨_,wB⟩
 have d1_B:=d1.ext e3B
 have d2_B:=d2.ext e3B
 have c3_B:=c3.ext e3B
 have hmB:hB[h3.length]?=some (MBW (esW (fun _=>0) [])):=by rw [wB];simp [esF]
 have xM:MxS h0 hB hB (h3++[MBW []]).length h3.length (fun _=>0) []:=⟨x3.trans e3B,cB,hmB,List.nodup_nil,fun _ _=>rfl,l30,fun _ _ h _=>h⟩
 have k43:=QiH h0 hB (h3++[MBW []]).length h3.length lo n ba bb sp sq p.ts q.ts hp hq kp.fit kq.fit hrng xM
 have ne3:h2.length≠h3.length:=xM.ne c3_B
 generalize hq5:(h3++[MBW []]).length=q5 at *
 refine JI ?_
 repeat' (first | refine Qg ?_ | refine Qb ?_ | refine Qf ?_ | ((refine Qe ?_);first | refine QE rfl rfl ?_ | refine Qu rfl rfl rfl ?_) | ((refine Qc ?_);first | refine QI rfl d1_B ?_ | refine QI rfl d2_B ?_ | (refine Qi rfl k43 ?_;rintro r hC ⟨K,xC,kx⟩;have c3_C:=xC.k _ _ c3_B ne3) | (have z:=xC;refine Xb ?_;intro hD eD c6;have xD:=xC.ext eD;have c3_D:=Cel.ext c3_C eD) | refine Xt rfl rfl ?_))
 have hKr:∀ k∈K,-9223372036854775808≤k∧k≤9223372036854775807:=fun k hk=>by have:=kx.rg k hk;omega
 have hKl:K.length≤1000000:=Gn kx.len hpq
 have hkl:K.length=(srt K).length:=(Y9 K).length_eq.symm
 have e1:Ext hD (hD++[Blk.cells [.mapv h3.length] true ⟨0,some 135⟩]):=⟨_,rfl⟩
 have k76:=Qfu (h:=hD++[Blk.cells [.mapv h3.length] true ⟨0,some 135⟩]) (p:=hD.length) (m:=h3.length) (by simp) (e1.get _ _ xD.mp) xD.nd hKr hKl (kx.ne hpos)
 rw [hkl] at k76
 repeat' (first | refine Qb ?_ | refine Qv ?_ | ((refine Qe ?_);refine QT rfl rfl rfl rfl rfl rfl ?_) | ((refine Qc ?_);first | refine Xu rfl xD.b5.at rfl ?_ | (refine Qi rfl (Ql1 hD h3.length) ?_;rintro r hE ⟨rfl,rfl⟩) | (refine Qi rfl k76 ?_;rintro r hF ⟨rfl,rfl⟩) | refine Qs (n:=((srt K).length:Int)) rfl rfl ?_ | refine Qo rfl ?_))
 have e2F:Ext hD (hD++[Blk.cells [.mapv h3.length] true ⟨0,some 135⟩]++[Blk.cells ((srt K).map (.int .i64)) false 1]):=e1.app _
 have xF:=xD.ext e2F
 have l02:h0.length≤h2.length:=by omega
 have l3C:h3.length < hC.length:=(Gb.1 xC.mp).1
 have st0:St55 h0 (hD++[Blk.cells [.mapv h3.length] true ⟨0,some 135⟩]++[Blk.cells ((srt K).map (.int .i64)) false 1]) h2.length q5 hC.length h3.length (hD++[Blk.cells [.mapv h3.length] true ⟨0,some 135⟩]).length .nilS (fun e=>mc p.ts q.ts e) K (srt K) (ZU (fun e=>mc p.ts q.ts e) ((srt K).take 0)) :=
  ⟨xF.e,c3_D.ext e2F,xF.b5,xF.mp,c6.ext e2F,.inl ⟨rfl,rfl⟩,by simp⟩
 have hout:=Qf2 (f:=fun e=>mc p.ts q.ts e) xC.nd kx.rg xC.z
 refine YU (I55 h0 h2.length q5 hC.length h3.length (hD++[Blk.cells [.mapv h3.length] true ⟨0,some 135⟩]).length (fun e=>mc p.ts q.ts e) K (srt K)) (cK [4,5,6,18,19,20] (srt K).length 20) (R55 h0 h2.length q5 hC.length h3.length (hD++[Blk.cells [.mapv h3.length] true ⟨0,some 135⟩]).length (fun e=>mc p.ts q.ts e) K (srt K)) ⟨0,.nilS,Gs _,by simp,st0,rfl⟩ (QiU h0 h2.length q5 hC.length h3.length _ (fun e=>mc p.ts q.ts e) K (srt K) (by omega) (Qbq kp kq) xC.z (fun k hk=>hKr k ((Y9 K).mem_iff.1 hk)) l02 (by omega) (by omega)) ?_
 rintro ex E' hG (⟨rfl,s,hall,st,a,b,c,d,e,rfl⟩ | ⟨rfl,hns,eG,c4,rfl⟩)
 ·have c4:=st.c4
  repeat' (first | refine Qg ?_ | refine Qb ?_ | refine QP ?_ | refine Qt ?_ | refine Qf ?_ | ((refine Qe ?_);refine Qq rfl ?_) | ((refine Qc ?_);first | refine QI rfl st.c6 ?_ | (refine Xm rfl rfl c4 ?_;intro hH w4)))
  refine ⟨.inr rfl,Xg rfl w4.cel.read ⟨w4.ext st.e l02,?_⟩⟩
  unfold QgC
  rw [if_pos]
  ·exact ⟨s,rfl,by rw [show Vd p.ts q.ts lo n=ZU (fun e=>mc p.ts q.ts e) (srt K) from hout.symm];exact (st.o.wrC w4).is⟩
  ·intro t ht
   obtain ⟨a,b,c,d⟩:=fromC_mem.1 ht
   have hk:t.1∈K:=Classical.byContradiction fun hk=>d (c.trans (xC.z _ hk))
   have:=hall t.1 ((Y9 K).mem_iff.2 hk)
   rw [c];exact this
 ·repeat' (first | refine QD ?_ | refine Xs ?_)
  refine ⟨.inr rfl,Xg rfl c4.read ⟨eG,?_⟩⟩
  unfold QgC
  rw [if_neg]
  ·exact ⟨.nilS,rfl,IsD.nil _⟩
  ·intro hall
   refine hns fun k hk=>?_
   have hk:=(Y9 K).mem_iff.1 hk
   by_cases hz:mc p.ts q.ts k=0
   ·show (mc p.ts q.ts k).natAbs≤cM
    rw [hz];simp [cM]
   ·have:=kx.rg k hk
    exact hall (k,mc p.ts q.ts k) (fromC_mem.2 ⟨by omega,by omega,rfl,hz⟩)
theorem QjG (h0:Qa) (sp sq:SV) (p q:Pol) (hp:IsD h0 sp (tms p.ts)) (hq:IsD h0 sq (tms q.ts)) (kp:Pok p) (kq:Pok q) (hd:p.ts≠[]→q.ts≠[]→64+4*(p.ts.length:Int)*q.ts.length < hi0 p.ts+hi0 q.ts-(lo0 p.ts+lo0 q.ts)) :
  ∃ r h',Cal FT HKt 22 [.agg [.bool p.big,sp],.agg [.bool q.big,sq]] h0 r h'∧Ext h0 h'∧yN h' r (Yl p q):=by
 refine Cal.of (F:=a22) rfl rfl rfl ?_
 have lp:=hp.len
 have lq:=hq.len
 rw [Q6] at lp lq
 by_cases hbp:p.big=true
 ·have e:Yl p q=YP:=by unfold Yl;rw [if_pos (.inl hbp)]
  rw [e,hbp]
  repeat' (first | refine Qg ?_ | refine Qb ?_ | refine QD ?_ | refine Qt ?_ | refine Qf ?_ | ((refine Qh ?_);refine Qj rfl ?_) | ((refine Qe ?_);first | refine Qq rfl ?_ | refine Qu rfl rfl rfl ?_ | refine QG rfl rfl rfl rfl ?_) | ((refine Qc ?_);first | (have z:=e2;refine Xb ?_;intro h3 e3 c3;have d1:=(c1.ext e2).ext e3;have d2:=c2.ext e3) | (have z:=e1;refine Qx rfl ?_;intro h2 e2 c2) | (refine Qx rfl ?_;intro h1 e1 c1) | refine QQ rfl d1 ?_ | (refine XE rfl rfl ?_) | (refine Xm rfl rfl c3 ?_;intro h4 w4) | refine Xd rfl ?_ | refine Qo rfl ?_ | refine QS rfl rfl ?_ | refine Xt rfl rfl ?_))
  exact ⟨.inr rfl,Xg rfl w4.cel.read ⟨w4.ext (e1.trans (e2.trans e3)) (Gn e1.len e2.len),.nilS,rfl,IsD.nil _⟩⟩
 have hbp':p.big=false:=by simpa using hbp
 rw [hbp']
 by_cases hbq:q.big=true
 ·have e:Yl p q=YP:=by unfold Yl;rw [if_pos (.inr hbq)]
  rw [e,hbq]
  repeat' (first | refine Qg ?_ | refine Qb ?_ | refine QD ?_ | refine Qt ?_ | refine Qf ?_ | ((refine Qh ?_);refine Qj rfl ?_) | ((refine Qe ?_);first | refine Qq rfl ?_ | refine Qu rfl rfl rfl ?_ | refine QG rfl rfl rfl rfl ?_) | ((refine Qc ?_);first | (have z:=e2;refine Xb ?_;intro h3 e3 c3;have d1:=(c1.ext e2).ext e3;have d2:=c2.ext e3) | (have z:=e1;refine Qx rfl ?_;intro h2 e2 c2) | (refine Qx rfl ?_;intro h1 e1 c1) | refine QQ rfl d1 ?_ | refine QQ rfl d2 ?_ | (refine XE rfl rfl ?_) | (refine Xm rfl rfl c3 ?_;intro h4 w4) | refine QL rfl ?_ | refine Qo rfl ?_ | refine QC rfl rfl ?_ | refine Xt rfl rfl ?_))
  exact ⟨.inr rfl,Xg rfl w4.cel.read ⟨w4.ext (e1.trans (e2.trans e3)) (Gn e1.len e2.len),.nilS,rfl,IsD.nil _⟩⟩
 have hbq':q.big=false:=by simpa using hbq
 rw [hbq']
 have nb:¬ (p.big=true∨q.big=true):=fun h=>h.elim hbp hbq
 by_cases hpe:p.ts=[]
 ·have e:Yl p q=qL:=by unfold Yl;rw [if_neg nb,if_pos (.inl hpe)]
  have lp0:Yi false sp=some 0:=by rw [lp,hpe];rfl
  rw [e]
  repeat' (first | refine Qg ?_ | refine Qb ?_ | refine QD ?_ | refine Qn ?_ | refine Qt ?_ | refine Qf ?_ | ((refine Qh ?_);first | refine Qj rfl ?_ | refine Qk rfl ?_) | ((refine Qe ?_);first | refine Qq rfl ?_ | refine Qu rfl rfl rfl ?_ | refine QG rfl rfl rfl rfl ?_) | ((refine Qc ?_);first | (have z:=e2;refine Xb ?_;intro h3 e3 c3;have d1:=(c1.ext e2).ext e3;have d2:=c2.ext e3) | (have z:=e1;refine Qx rfl ?_;intro h2 e2 c2) | (refine Qx rfl ?_;intro h1 e1 c1) | refine QQ rfl d1 ?_ | refine QQ rfl d2 ?_ | refine Qz rfl d1 ?_ | refine Qs rfl lp0 ?_ | (refine XE rfl rfl ?_) | (refine Xm rfl rfl c3 ?_;intro h4 w4) | refine Xd rfl ?_ | refine QL rfl ?_ | refine Qo rfl ?_ | refine QS rfl rfl ?_ | refine QC rfl rfl ?_ | refine XD rfl rfl (by omega) ?_ | refine Xt rfl rfl ?_))
  exact ⟨.inr rfl,Xg rfl w4.cel.read ⟨w4.ext (e1.trans (e2.trans e3)) (Gn e1.len e2.len),.nilS,rfl,IsD.nil _⟩⟩
 have lpp:0 < p.ts.length:=G5.2 hpe
 by_cases hqe:q.ts=[]
 ·have e:Yl p q=qL:=by unfold Yl;rw [if_neg nb,if_pos (.inr hqe)]
  have lq0:Yi false sq=some 0:=by rw [lq,hqe];rfl
  rw [e]
  repeat' (first | refine Qg ?_ | refine Qb ?_ | refine QD ?_ | refine Qn ?_ | refine Qt ?_ | refine Qf ?_ | ((refine Qh ?_);first | refine Qj rfl ?_ | refine Qk rfl ?_) | ((refine Qe ?_);first | refine Qq rfl ?_ | refine Qu rfl rfl rfl ?_ | refine QG rfl rfl rfl rfl ?_) | ((refine Qc ?_);first | (have z:=e2;refine Xb ?_;intro h3 e3 c3;have d1:=(c1.ext e2).ext e3;have d2:=c2.ext e3) | (have z:=e1;refine Qx rfl ?_;intro h2 e2 c2) | (refine Qx rfl ?_;intro h1 e1 c1) | refine QQ rfl d1 ?_ | refine QQ rfl d2 ?_ | refine Qz rfl d1 ?_ | refine Qz rfl d2 ?_ | refine Qs rfl lp ?_ | refine Qs rfl lq0 ?_ | (refine XE rfl rfl ?_) | (refine Xm rfl rfl c3 ?_;intro h4 w4) | refine QL rfl ?_ | refine Qo rfl ?_ | refine QC rfl rfl ?_ | refine XD rfl rfl (by omega) ?_ | refine Xf rfl rfl (by omega) ?_ | refine Xt rfl rfl ?_))
  exact ⟨.inr rfl,Xg rfl w4.cel.read ⟨w4.ext (e1.trans (e2.trans e3)) (Gn e1.len e2.len),.nilS,rfl,IsD.nil _⟩⟩
 have lqp:0 < q.ts.length:=G5.2 hqe
 have ne2:¬ (p.ts=[]∨q.ts=[]):=fun h=>h.elim hpe hqe
 have hd:=hd hpe hqe
 have kl:=kp.lo
 have kl2:=kq.lo
 have plen:=kp.len
 have qlen:=kq.len
 have k27p:=fun H (e:Ext h0 H)=>zb H false sp p.ts (hp.ext e)
 have k27q:=fun H (e:Ext h0 H)=>zb H false sq q.ts (hq.ext e)
 have k28p:=fun H (e:Ext h0 H)=>za H false sp p.ts (hp.ext e) plen
 have k28q:=fun H (e:Ext h0 H)=>za H false sq q.ts (hq.ext e) qlen
 have hmul:4*(p.ts.length:Int)*(q.ts.length:Int)≤8388612*2097153:=by
  have h1:4*(p.ts.length:Int)*(q.ts.length:Int)≤8388612*(q.ts.length:Int):=GW (by omega) (by omega)
  omega
 have hmul0:0≤4*(p.ts.length:Int)*(q.ts.length:Int):=Hq (by omega) (by omega)
 have hrng:=Qai kp.can kq.can
 have hmlo:qk p.ts q.ts=lo0 p.ts+lo0 q.ts:=rfl
 have hmn:((Zs p.ts q.ts:Nat):Int)=hi0 p.ts+hi0 q.ts-(lo0 p.ts+lo0 q.ts)+1:=by unfold Zs;omega
 generalize hLo:lo0 p.ts+lo0 q.ts=lo at *
 generalize hHi:hi0 p.ts+hi0 q.ts=hi at *
 by_cases hout:lo < -1048576∨1048576 < hi
 ·have e:Yl p q=YP:=by unfold Yl;rw [if_neg nb,if_neg ne2,hmlo,hHi,if_pos hout]
  rw [e]
  by_cases ho1:lo < -1048576
  ·repeat' (first | refine Qg ?_ | refine Qb ?_ | refine QD ?_ | refine Qn ?_ | refine Qt ?_ | refine Qf ?_ | refine Q2 ?_ | refine Xk ?_ | refine Xl ?_ | ((refine Qh ?_);first | refine Qj rfl ?_ | refine Qk rfl ?_) | ((refine Qe ?_);first | refine Q1 ?_ | refine Xw ?_ | refine XZ (by assumption) ?_ | refine Qq rfl ?_ | refine Qu rfl rfl rfl ?_ | refine QG rfl rfl rfl rfl ?_ | refine QU rfl rfl rfl rfl rfl ?_ | refine QT rfl rfl rfl rfl rfl rfl ?_) | ((refine Qc ?_);first | (have z:=e2;refine Xb ?_;intro h3 e3 c3;have x3:=e1.trans (e2.trans e3);have n1:=e1.len;have n2:=e2.len;have n3:=c3.lt;have d1:=(c1.ext e2).ext e3;have d2:=c2.ext e3;have m1:=c1.lt;have m2:=c2.lt) | (have z:=e1;refine Qx rfl ?_;intro h2 e2 c2) | (refine Qx rfl ?_;intro h1 e1 c1) | refine QQ rfl d1 ?_ | refine QQ rfl d2 ?_ | refine Qz rfl d1 ?_ | refine Qz rfl d2 ?_ | refine Qs rfl lp ?_ | refine Qs rfl lq ?_ | refine QI rfl d1 ?_ | refine QI rfl d2_4 ?_ | refine QI rfl d1_5 ?_ | refine QI rfl d2_6 ?_ | (refine Qi rfl (k27p h3 x3) ?_;rintro r h4 ⟨e4,rfl⟩;have d1_4:=d1.ext e4;have d2_4:=d2.ext e4;have c3_4:=c3.ext e4) | (refine Qi rfl (k27q h4 (x3.trans e4)) ?_;rintro r h5 ⟨e5,rfl⟩;have d1_5:=d1_4.ext e5;have d2_5:=d2_4.ext e5;have c3_5:=c3_4.ext e5) | (refine Qi rfl (k28p h5 (x3.trans (e4.trans e5))) ?_;rintro r h6 ⟨e6,rfl⟩;have d1_6:=d1_5.ext e6;have d2_6:=d2_5.ext e6;have c3_6:=c3_5.ext e6) | (refine Qi rfl (k28q h6 (x3.trans (e4.trans (e5.trans e6)))) ?_;rintro r h7 ⟨e7,rfl⟩;have d1_7:=d1_6.ext e7;have d2_7:=d2_6.ext e7;have c3_7:=c3_6.ext e7) | (have z:=e7;refine QK rfl rfl (by omega) ?_;rw [hHi]) | (have z:=e5;refine QK rfl rfl (by omega) ?_;rw [hLo]) | (have z:=e7;refine ZY ?_;intro h8 e8 n8;have m7:=(e4.trans (e5.trans (e6.trans e7))).len;have d1_8:=d1_7.ext e8;have d2_8:=d2_7.ext e8;have c3_8:=c3_7.ext e8) | (refine qo rfl rfl n8 ?_;intro h9 w9 c9;have c3_9:Cel h9 h2.length (.bool false) .nilS:=(by unfold Cel;rw [w9,Gj (by omega)];exact c3_8)) | refine Xu rfl (Cel1.at c9) rfl ?_ | (refine XE rfl rfl ?_) | (refine Xm rfl rfl c3_9 ?_;intro hA wA) | refine Xd rfl ?_ | refine QL rfl ?_ | refine Qo rfl ?_ | refine QS rfl rfl ?_ | refine QC rfl rfl ?_ | refine Qy rfl rfl (by omega) ?_ | refine Xf rfl rfl (by omega) ?_ | refine Xt rfl rfl ?_))
   exact ⟨.inr rfl,Xg rfl wA.cel.read ⟨wA.ext (by rw [w9];exact (x3.trans (e4.trans (e5.trans (e6.trans (e7.trans e8))))).set (by omega) _) (Gn e1.len e2.len),.nilS,rfl,IsD.nil _⟩⟩
  ·have ho2:1048576 < hi:=by omega
   repeat' (first | refine Qg ?_ | refine Qb ?_ | refine QD ?_ | refine Qn ?_ | refine Qt ?_ | refine Qf ?_ | refine Q2 ?_ | refine Xk ?_ | refine Xl ?_ | ((refine Qh ?_);first | refine Qj rfl ?_ | refine Qk rfl ?_) | ((refine Qe ?_);first | refine Q1 ?_ | refine Xw ?_ | refine XZ (by assumption) ?_ | refine Qq rfl ?_ | refine Qu rfl rfl rfl ?_ | refine QG rfl rfl rfl rfl ?_ | refine QU rfl rfl rfl rfl rfl ?_ | refine QT rfl rfl rfl rfl rfl rfl ?_) | ((refine Qc ?_);first | (have z:=e2;refine Xb ?_;intro h3 e3 c3;have x3:=e1.trans (e2.trans e3);have n1:=e1.len;have n2:=e2.len;have n3:=c3.lt;have d1:=(c1.ext e2).ext e3;have d2:=c2.ext e3;have m1:=c1.lt;have m2:=c2.lt) | (have z:=e1;refine Qx rfl ?_;intro h2 e2 c2) | (refine Qx rfl ?_;intro h1 e1 c1) | refine QQ rfl d1 ?_ | refine QQ rfl d2 ?_ | refine Qz rfl d1 ?_ | refine Qz rfl d2 ?_ | refine Qs rfl lp ?_ | refine Qs rfl lq ?_ | refine QI rfl d1 ?_ | refine QI rfl d2_4 ?_ | refine QI rfl d1_5 ?_ | refine QI rfl d2_6 ?_ | (refine Qi rfl (k27p h3 x3) ?_;rintro r h4 ⟨e4,rfl⟩;have d1_4:=d1.ext e4;have d2_4:=d2.ext e4;have c3_4:=c3.ext e4) | (refine Qi rfl (k27q h4 (x3.trans e4)) ?_;rintro r h5 ⟨e5,rfl⟩;have d1_5:=d1_4.ext e5;have d2_5:=d2_4.ext e5;have c3_5:=c3_4.ext e5) | (refine Qi rfl (k28p h5 (x3.trans (e4.trans e5))) ?_;rintro r h6 ⟨e6,rfl⟩;have d1_6:=d1_5.ext e6;have d2_6:=d2_5.ext e6;have c3_6:=c3_5.ext e6) | (refine Qi rfl (k28q h6 (x3.trans (e4.trans (e5.trans e6)))) ?_;rintro r h7 ⟨e7,rfl⟩;have d1_7:=d1_6.ext e7;have d2_7:=d2_6.ext e7;have c3_7:=c3_6.ext e7) | (have z:=e7;refine QK rfl rfl (by omega) ?_;rw [hHi]) | (have z:=e5;refine QK rfl rfl (by omega) ?_;rw [hLo]) | (have z:=e7;refine ZY ?_;intro h8 e8 n8;have m7:=(e4.trans (e5.trans (e6.trans e7))).len;have d1_8:=d1_7.ext e8;have d2_8:=d2_7.ext e8;have c3_8:=c3_7.ext e8) | (refine qo rfl rfl n8 ?_;intro h9 w9 c9;have c3_9:Cel h9 h2.length (.bool false) .nilS:=(by unfold Cel;rw [w9,Gj (by omega)];exact c3_8)) | refine Xu rfl (Cel1.at c9) rfl ?_ | (refine XE rfl rfl ?_) | (refine Xm rfl rfl c3_9 ?_;intro hA wA) | refine QL rfl ?_ | refine Qo rfl ?_ | refine QC rfl rfl ?_ | refine QM rfl rfl (by omega) ?_ | refine XV rfl rfl (by omega) ?_ | refine Xf rfl rfl (by omega) ?_ | refine Xt rfl rfl ?_))
   exact ⟨.inr rfl,Xg rfl wA.cel.read ⟨wA.ext (by rw [w9];exact (x3.trans (e4.trans (e5.trans (e6.trans (e7.trans e8))))).set (by omega) _) (Gn e1.len e2.len),.nilS,rfl,IsD.nil _⟩⟩
 have hpq:p.ts.length*q.ts.length≤1000000:=by
  have e1:((p.ts.length*q.ts.length:Nat):Int)=(p.ts.length:Int)*(q.ts.length:Int):=GZ _ _
  have e2:4*(p.ts.length:Int)*(q.ts.length:Int)=4*((p.ts.length:Int)*(q.ts.length:Int)):=Hi _ _ _
  omega
 have hmul2:Yl p q=QgC (Vd p.ts q.ts lo (Zs p.ts q.ts)):=by unfold Yl QgC;rw [if_neg nb,if_neg ne2,hmlo,hHi,if_neg hout]
 rw [hmlo] at hrng
 have k42:=fun H (e:Ext h0 H)=>Qmv H sp sq false false p q (hp.ext e) (hq.ext e) kp kq hpe hqe lo (Zs p.ts q.ts) hrng (by omega) (by omega) hpq
 rw [← hmul2] at k42
 repeat' (first | refine Qg ?_ | refine Qb ?_ | refine QD ?_ | refine Qn ?_ | refine Qt ?_ | refine Qf ?_ | refine Q2 ?_ | refine Xk ?_ | refine Xl ?_ | ((refine Qh ?_);first | refine Qj rfl ?_ | refine Qk rfl ?_) | ((refine Qe ?_);first | refine Q1 ?_ | refine Xw ?_ | refine XZ (by assumption) ?_ | refine Qq rfl ?_ | refine Qu rfl rfl rfl ?_ | refine QG rfl rfl rfl rfl ?_ | refine QU rfl rfl rfl rfl rfl ?_ | refine QT rfl rfl rfl rfl rfl rfl ?_) | ((refine Qc ?_);first | (have z:=e2;refine Xb ?_;intro h3 e3 c3;have x3:=e1.trans (e2.trans e3);have n1:=e1.len;have n2:=e2.len;have n3:=c3.lt;have d1:=(c1.ext e2).ext e3;have d2:=c2.ext e3;have m1:=c1.lt;have m2:=c2.lt) | (have z:=e1;refine Qx rfl ?_;intro h2 e2 c2) | (refine Qx rfl ?_;intro h1 e1 c1) | refine QQ rfl d1 ?_ | refine QQ rfl d2 ?_ | refine Qz rfl d1 ?_ | refine Qz rfl d2 ?_ | refine Qs rfl lp ?_ | refine Qs rfl lq ?_ | refine QI rfl d1 ?_ | refine QI rfl d2_4 ?_ | refine QI rfl d1_5 ?_ | refine QI rfl d2_6 ?_ | (refine Qi rfl (k27p h3 x3) ?_;rintro r h4 ⟨e4,rfl⟩;have d1_4:=d1.ext e4;have d2_4:=d2.ext e4;have c3_4:=c3.ext e4) | (refine Qi rfl (k27q h4 (x3.trans e4)) ?_;rintro r h5 ⟨e5,rfl⟩;have d1_5:=d1_4.ext e5;have d2_5:=d2_4.ext e5;have c3_5:=c3_4.ext e5) | (refine Qi rfl (k28p h5 (x3.trans (e4.trans e5))) ?_;rintro r h6 ⟨e6,rfl⟩;have d1_6:=d1_5.ext e6;have d2_6:=d2_5.ext e6;have c3_6:=c3_5.ext e6) | (refine Qi rfl (k28q h6 (x3.trans (e4.trans (e5.trans e6)))) ?_;rintro r h7 ⟨e7,rfl⟩;have d1_7:=d1_6.ext e7;have d2_7:=d2_6.ext e7;have c3_7:=c3_6.ext e7) | (have z:=e7;refine QK rfl rfl (by omega) ?_;rw [hHi]) | (have z:=e5;refine QK rfl rfl (by omega) ?_;rw [hLo]) | (have z:=e7;refine ZY ?_;intro h8 e8 n8;have m7:=(e4.trans (e5.trans (e6.trans e7))).len;have d1_8:=d1_7.ext e8;have d2_8:=d2_7.ext e8;have c3_8:=c3_7.ext e8) | (refine qo rfl rfl n8 ?_;intro h9 w9 c9;have x9:Ext h0 h9:=(by rw [w9];exact (x3.trans (e4.trans (e5.trans (e6.trans (e7.trans e8))))).set (by omega) _);have c3_9:Cel h9 h2.length (.bool false) .nilS:=(by unfold Cel;rw [w9,Gj (by omega)];exact c3_8);have d1_9:Cel h9 h0.length (.bool false) sp:=(by unfold Cel;rw [w9,Gj (by omega)];exact d1_8);have d2_9:Cel h9 h1.length (.bool false) sq:=(by unfold Cel;rw [w9,Gj (by omega)];exact d2_8)) | refine Xu rfl (Cel1.at c9) rfl ?_ | refine Qz rfl d1_9 ?_ | refine Qz rfl d2_9 ?_ | refine QI rfl d1_9 ?_ | refine QI rfl d2_9 ?_ | (refine Qi rfl (k42 h9 x9) ?_;rintro r hA ⟨eA,s,rfl,is⟩;have c3_A:=c3_9.ext eA) | (refine Xm rfl rfl c3_A ?_;intro hZ wZ) | refine QL rfl ?_ | refine Qo rfl ?_ | refine QC rfl rfl ?_ | refine QK rfl rfl (by omega) ?_ | refine Z8 rfl rfl (by omega) ?_ | refine zx rfl rfl (by omega) ?_ | refine QM rfl rfl (by omega) ?_ | refine XV rfl rfl (by omega) ?_ | refine XT rfl rfl (by omega) ?_ | refine Xf rfl rfl (by omega) ?_ | refine Xt rfl rfl ?_))
 exact ⟨.inr rfl,Xg rfl wZ.cel.read ⟨wZ.ext (x9.trans eA) (Gn e1.len e2.len),s,rfl,is.wrC wZ⟩⟩
theorem QdN (h0:Qa) (sp sq:SV) (p q:Pol) (hp:IsD h0 sp (tms p.ts)) (hq:IsD h0 sq (tms q.ts)) (kp:Pok p) (kq:Pok q) :
  ∃ r h',Cal FT HKt 22 [.agg [.bool p.big,sp],.agg [.bool q.big,sq]] h0 r h'∧Ext h0 h'∧yN h' r (Yl p q):=by
 by_cases hd:hi0 p.ts+hi0 q.ts-(lo0 p.ts+lo0 q.ts)≤64+4*(p.ts.length:Int)*q.ts.length
 ·exact QmF h0 sp sq p q hp hq kp kq fun _ _=>hd
 ·exact QjG h0 sp sq p q hp hq kp kq fun _ _=>by omega
