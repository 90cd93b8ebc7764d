/- The reference's Minor: the matrix without its first row and a column. -/
import Derived.Test.YtofknpknogfijaaGreatDoorLW2
import Derived.Test.YtofknpknogfijaaGreatDoorAb50
import Derived.Test.YtofknpknogfijaaGreatDoorPD2
namespace Go.Proofs.YtofknpknogfijaaGreatDoor
open Go.Ab
set_option linter.unusedVariables false
set_option linter.unusedSimpArgs false
set_option maxRecDepth 20000
set_option maxHeartbeats 4000000
attribute [local irreducible] Qj wA Xm Xk QI Qo QW QV
set_option linter.unusedSectionVars false
variable [HB]
theorem OwnD.apartO {h0 h:Qa} {s t:SV} {ps qs:List P2} (o:OwnD h0 h s ps) (q:IsD h0 t qs):Apart s t:=by
  intro j
  rcases Nat.lt_or_ge j h0.length with hj | hj
  · exact .inl (o.not hj)
  · right
    rcases q with ⟨rfl,-⟩ | ⟨id,off,cap,b,rfl,h1,-⟩
    · intro o n c e;cases e
    · intro o n c e;cases e
      have:=(List.getElem?_eq_some_iff.1 h1).1
      omega
theorem SRow.pushO {f:Pol→SV→P2} {hr h h3 h4:Qa} {s s' t:SV} {ps:List Pol} {p:Pol} {ss:List SV} (l:ss.length=ps.length) (o:OwnD hr h s (List.zipWith f ps ss)) (a:∀ (i:Nat) (p:Pol) (t:SV),ps[i]?=some p→ss[i]?=some t→IsD h t (tms p.ts)∧Apart s t)
    (x:Ext hr h) (q:IsD hr t (tms p.ts)) (e3:Ext h h3) (o4:OwnD hr h4 s' (List.zipWith f ps ss++[f p t])) (x4:Ext hr h4) (fr:Fram h3 h4 s s'):SRow f hr h4 s' (ps++[p]):=by
  refine ⟨x4,ss++[t],by simp [l],?_,fun i r u hi hu=>?_⟩
  · rw [List.zipWith_append l.symm];exact o4
  · rcases Nat.lt_or_ge i ps.length with h1 | h1
    · rw [List.getElem?_append_left h1] at hi
      rw [List.getElem?_append_left (by omega)] at hu
      obtain ⟨d,ap⟩:=a i r u hi hu
      have d3:=d.ext e3
      exact ⟨IsSl.away d3 fr ap,fr.apart d3 ap⟩
    · obtain rfl:i=ps.length:=by have:=(List.getElem?_eq_some_iff.1 hi).1;simp at this;omega
      rw [List.getElem?_append_right (Nat.le_refl _),Nat.sub_self] at hi
      rw [List.getElem?_append_right (by omega),l,Nat.sub_self] at hu
      simp at hi hu;subst hi;subst hu
      have d3:=(q.ext x).ext e3
      have ap:=OwnD.apartO o q
      exact ⟨IsSl.away d3 fr ap,fr.apart d3 ap⟩
theorem RowF.len {f:Pol→SV→P2} {h:Qa} {s:SV} {r:List Pol} (e:RowF f h s r):Ys false s=some (r.length:Int):=by
  obtain ⟨ss,h1,h2,-⟩:=e
  have:=h2.len
  rwa [List.length_zipWith,h1,Nat.min_self] at this
theorem MxF.len {f:Pol→SV→P2} {h:Qa} {s:SV} {m:List (List Pol)} (e:MxF f h s m):Ys false s=some (m.length:Int):=by
  obtain ⟨ss,h1,h2,-⟩:=e
  rw [← h1];exact IsSl.len h2
theorem RowF.at {f:Pol→SV→P2} {h:Qa} {s:SV} {r:List Pol} (e:RowF f h s r) {i:Nat} {p:Pol} (hi:r[i]?=some p):∃ id off cap t,s=.slc id off r.length cap∧QT h id (off+i*2) 2=some [(f p t).1,(f p t).2]∧IsD h t (tms p.ts):=by
  obtain ⟨ss,h1,h2,h3⟩:=e
  have hl:=(List.getElem?_eq_some_iff.1 hi).1
  obtain ⟨t,ht⟩:∃ t,ss[i]?=some t:=⟨_,List.getElem?_eq_getElem (by omega)⟩
  obtain ⟨id,off,cap,e1,rd⟩:=h2.at (i:=i) (p:=f p t) (by rw [List.getElem?_zipWith,hi,ht])
  rw [List.length_zipWith,h1,Nat.min_self] at e1
  exact ⟨id,off,cap,t,e1,rd,h3 i p t hi ht⟩
theorem MxF.at {f:Pol→SV→P2} {h:Qa} {s:SV} {m:List (List Pol)} (e:MxF f h s m) {i:Nat} {r:List Pol} (hi:m[i]?=some r):∃ id off cap t,s=.slc id off m.length cap∧QT h id (off+i*1) 1=some [t]∧RowF f h t r:=by
  obtain ⟨ss,h1,h2,h3⟩:=e
  have hl:=(List.getElem?_eq_some_iff.1 hi).1
  obtain ⟨t,ht⟩:∃ t,ss[i]?=some t:=⟨_,List.getElem?_eq_getElem (by omega)⟩
  obtain ⟨id,off,cap,e1,rd⟩:=h2.at ht
  rw [h1] at e1
  exact ⟨id,off,cap,t,e1,rd,h3 i t r ht hi⟩
theorem UB {α:Type} {r:List α} {j c:Nat} {p:α} (h:r[j]?=some p) (hj:j≠c):(r.take (j+1)).eraseIdx c=(r.take j).eraseIdx c++[p]:=by
  have hl:=(List.getElem?_eq_some_iff.1 h).1
  have hlt:(r.take j).length=j:=by rw [List.length_take];omega
  rw [List.take_add_one,h,Option.toList_some]
  rcases Nat.lt_or_ge c j with hc | hc
  · rw [List.eraseIdx_append_of_lt_length (by omega)]
  · rw [List.eraseIdx_of_length_le (by simp;omega),List.eraseIdx_of_length_le (by omega)]
theorem UC {α:Type} {r:List α} {j:Nat}:(r.take (j+1)).eraseIdx j=(r.take j).eraseIdx j:=by
  rw [List.eraseIdx_eq_take_drop_succ,List.take_take,List.drop_of_length_le (by simp;omega),List.append_nil,List.eraseIdx_of_length_le (by simp;omega),show min j (j+1)=j by omega]
def I47e (m:List (List Pol)) (r:List Pol) (ms:SV) (c i:Nat) (a7:AV) (hr:Qa) (k:Nat) (E:Env) (h:Qa):Prop:=∃ j s,j≤r.length∧k=r.length-j∧SRow fR hr h s ((r.take j).eraseIdx c) ∧
  E.keep [0,1,2,7,8,9,10]=[(0,some (.sc ms)),(1,some (.sc (.int .i64 0))),(2,some (.sc (.int .i64 (c:Nat)))),(7,some a7),(8,some (.sc (.int .i64 (i:Nat)))),(9,some (.sc s)),(10,some (.sc (.int .i64 (j:Nat))))]
def R47e (r:List Pol) (ms:SV) (c i:Nat) (a7:AV) (hr:Qa) (ex:Ex) (E:Env) (h:Qa):Prop:=ex=.ex 2∧∃ s a b,SRow fR hr h s (r.eraseIdx c)∧E=[(0,some (.sc ms)),(1,some (.sc (.int .i64 0))),(2,some (.sc (.int .i64 (c:Nat)))),(7,some a7),(8,some (.sc (.int .i64 (i:Nat)))),(9,some (.sc s)),(10,a),(27,b)]
theorem Qei (m:List (List Pol)) (r:List Pol) (ms:SV) (c i:Nat) (a7:AV) (hr:Qa) (hc:c≤1000) (hm:m.length≤1000) (pm:MxF fR hr ms m) (hi:m[i]?=some r) (hl:r.length≤1000) (k:Nat) (E:Env) (h:Qa) (hI:I47e m r ms c i a7 hr k E h) :
    wA FT HKt Qja (E.keep [0,1,2,7,8,9,10]) h (Qo (I47e m r ms c i a7 hr) k (R47e r ms c i a7 hr)):=by
  obtain ⟨j,s,hj,rfl,sr,hE⟩:=hI
  rw [hE]
  obtain ⟨id,off,cap,rs,es,rd,er⟩:=pm.at hi
  subst es
  have hil:=(List.getElem?_eq_some_iff.1 hi).1
  have rd0:=QA sr.x rd
  have lr:=er.len
  by_cases hlt:j < r.length
  · obtain ⟨p,hp⟩:∃ p,r[j]?=some p:=⟨_,List.getElem?_eq_getElem hlt⟩
    by_cases hjc:j=c
    · subst hjc
      repeat' (first | refine Qg ?_ | refine Qb ?_ | refine Qt ?_ | refine QG ?_ | refine Qp ?_ | refine Qf ?_ | ((refine Qh ?_);first | refine Qk rfl ?_ | refine Qi rfl ?_) | ((refine Qe ?_);first | refine Q4 rfl rfl rfl rfl rfl rfl rfl ?_ | refine Q8 rfl rfl rfl rfl rfl rfl rfl rfl ?_) | ((refine Qc ?_);first | (refine Qx (esz:=1) rfl rfl (by omega) ?_) | (refine Q2 rfl rd0 ?_) | refine Qu rfl lr ?_ | refine X3 rfl rfl (by omega) ?_ | refine Qm rfl ?_ | refine QM rfl rfl (by omega) ?_ | refine Qw rfl rfl (by omega) ?_))
      refine Qs (j:=r.length-(j+1)) (by omega) ⟨j+1,s,by omega,rfl,?_,rfl⟩
      rw [UC];exact sr
    · obtain ⟨id2,off2,cap2,t,es,rd2,dt⟩:=er.at hp
      subst es
      have rd20:=QA sr.x rd2
      obtain ⟨ss,o1,o2,o3⟩:=sr.o
      have lz:(List.zipWith fR ((r.take j).eraseIdx c) ss).length≤1000:=by rw [List.length_zipWith,o1,Nat.min_self,List.length_eraseIdx,List.length_take];split <;> omega
      repeat' (first | refine Qg ?_ | refine Qb ?_ | refine Qt ?_ | refine QG ?_ | refine Qp ?_ | refine Qf ?_ | ((refine Qh ?_);refine Qk rfl ?_) | ((refine Qe ?_);first | refine Q4 rfl rfl rfl rfl rfl rfl rfl ?_ | refine Q8 rfl rfl rfl rfl rfl rfl rfl rfl ?_) | ((refine Qc ?_);first | (have z:=used;refine Qx (esz:=2) rfl rfl (by omega) ?_) | (refine Qx (esz:=1) rfl rfl (by omega) ?_) | (have z:=usd2;refine Q2 rfl rd0 ?_;have used:=True.intro) | (refine Q2 rfl rd0 ?_;have usd2:=True.intro) | refine Qu rfl lr ?_ | refine Yc rfl rfl (by omega) ?_ | refine Yo rfl rd20 ?_ | (refine JE rfl ?_;intro h3 e3 s3) | (refine ZK (sr.x.trans e3) (o2.ext e3) rfl rfl s3 (by unfold XQ;omega) ?_;intro s4 h4 o4 x4 fr4 l4) | refine Qm rfl ?_ | refine QM rfl rfl (by omega) ?_ | refine Qw rfl rfl (by omega) ?_))
      have sr4:SRow fR hr h4 s4 ((r.take (j+1)).eraseIdx c):=by
        rw [UB hp hjc]
        exact SRow.pushO o1 o2 o3 sr.x dt e3 o4 x4 fr4
      exact Qs (j:=r.length-(j+1)) (by omega) ⟨j+1,s4,by omega,rfl,sr4,rfl⟩
  · have:j=r.length:=by omega
    subst this
    rw [List.take_length] at sr
    repeat' (first | refine Qg ?_ | refine Qb ?_ | refine QK ?_ | refine QH ?_ | refine Qf ?_ | ((refine Qh ?_);refine Qi rfl ?_) | ((refine Qe ?_);refine Q8 rfl rfl rfl rfl rfl rfl rfl rfl ?_) | ((refine Qc ?_);first | (refine Qx (esz:=1) rfl rfl (by omega) ?_) | (refine Q2 rfl rd0 ?_) | refine Qu rfl lr ?_ | refine Qm rfl ?_ | refine QE rfl rfl (by omega) ?_))
    exact Qz ⟨rfl,s,_,_,sr,rfl⟩
def I47 (m:List (List Pol)) (ms:SV) (c:Nat) (hb:Qa) (k:Nat) (E:Env) (h:Qa):Prop:=∃ i s,i≤m.length∧k=m.length-i∧SMx fR hb h s (((m.take i).drop 1).map fun r=>r.eraseIdx c) ∧
  E.keep [0,1,2,7,8]=[(0,some (.sc ms)),(1,some (.sc (.int .i64 0))),(2,some (.sc (.int .i64 (c:Nat)))),(7,some (.sc s)),(8,some (.sc (.int .i64 (i:Nat))))]
def R47 (m:List (List Pol)) (c:Nat) (hb:Qa) (ex:Ex) (E:Env) (h:Qa):Prop:=ex=.ex 0∧∃ s a b b2 c2 d,SMx fR hb h s ((m.drop 1).map fun r=>r.eraseIdx c)∧E=[(0,a),(1,b),(2,b2),(7,some (.sc s)),(8,c2),(15,d)]
theorem Qhh (m:List (List Pol)) (ms:SV) (c:Nat) (hb:Qa) (hc:c≤1000) (hm:m.length≤1000) (pm:MxF fR hb ms m) (hl:∀ r∈m,r.length≤1000) (k:Nat) (E:Env) (h:Qa) (hI:I47 m ms c hb k E h) :
    wA FT HKt Qjb (E.keep [0,1,2,7,8]) h (Qo (I47 m ms c hb) k (R47 m c hb)):=by
  obtain ⟨i,s,hi,rfl,sm,hE⟩:=hI
  rw [hE]
  have lm:=pm.len
  by_cases hlt:i < m.length
  · obtain ⟨r,hr⟩:∃ r,m[i]?=some r:=⟨_,List.getElem?_eq_getElem hlt⟩
    have hlr:=hl r (List.mem_of_getElem? hr)
    by_cases h0:i=0
    · subst h0
      repeat' (first | refine Qg ?_ | refine Qb ?_ | refine QK ?_ | refine Qt ?_ | refine QC ?_ | refine Qp ?_ | refine QH ?_ | refine Qf ?_ | ((refine Qh ?_);refine Qk rfl ?_) | ((refine Qe ?_);first | refine QO rfl rfl rfl rfl rfl ?_ | refine QD rfl rfl rfl rfl rfl rfl ?_) | ((refine Qc ?_);first | refine Qu rfl lm ?_ | refine Xt rfl rfl (by omega) ?_ | refine Qm rfl ?_ | refine QM rfl rfl (by omega) ?_ | refine Qw rfl rfl (by omega) ?_))
      refine Qs (j:=m.length-(0+1)) (by omega) ⟨0+1,s,by omega,rfl,?_,rfl⟩
      simpa using sm
    · repeat' (first | refine Qg ?_ | refine Qb ?_ | refine Qt ?_ | refine Qp ?_ | refine Qf ?_ | ((refine Qh ?_);first | refine Qk rfl ?_ | refine Qi rfl ?_) | ((refine Qe ?_);first | refine QD rfl rfl rfl rfl rfl rfl ?_ | refine Q4 rfl rfl rfl rfl rfl rfl rfl ?_) | ((refine Qc ?_);first | refine Qu rfl lm ?_ | refine Xh rfl rfl (by omega) ?_ | refine Qm rfl ?_ | refine Qw rfl rfl (by omega) ?_))
      refine QP (I47e m r ms c i (.sc s) h) r.length (R47e r ms c i (.sc s) h) ⟨0,.nilS,Nat.zero_le _,rfl,SRow.nil ⟨[],by simp⟩ (.inl ⟨rfl,rfl⟩),rfl⟩ (Qei m r ms c i (.sc s) h hc hm (pm.ext sm.x) hr hlr) ?_
      rintro ex E' h2 ⟨rfl,s2,_,_,sr,rfl⟩
      have sm2:=sm.ext sr.x
      obtain ⟨vs,o1,o2,o3⟩:=sm2.o
      have lz:vs.length≤1000:=by rw [o1,List.length_map,List.length_drop,List.length_take];omega
      repeat' (first | refine Qb ?_ | refine QG ?_ | refine QC ?_ | refine Qf ?_ | ((refine Qe ?_);refine QO rfl rfl rfl rfl rfl ?_) | ((refine Qc ?_);first | (refine VH rfl ?_;intro h3 e3 s3) | (refine U0 (ws:=[s2]) (sm2.x.trans e3) (o2.ext e3) rfl rfl s3 (by simp only [List.length_cons,List.length_nil];unfold XQ;omega) ?_;intro s5 h5 o5 x5 l5 fr5) | refine Qm rfl ?_ | refine QM rfl rfl (by omega) ?_))
      have sm5:SMx fR hb h5 s5 (((m.take (i+1)).drop 1).map fun r=>r.eraseIdx c):=by
        rw [List.take_add_one,hr,Option.toList_some,List.drop_append_of_le_length (by rw [List.length_take];omega),List.map_append]
        exact SMx.push o1 (o2.ext e3) (fun i t r x y=>(o3 i t r x y).ext e3) (sr.row.ext e3) o5 x5 fr5
      exact Qs (j:=m.length-(i+1)) (by omega) ⟨i+1,s5,by omega,rfl,sm5,rfl⟩
  · have:i=m.length:=by omega
    subst this
    rw [List.take_length] at sm
    repeat' (first | refine Qg ?_ | refine Qb ?_ | refine QK ?_ | refine QH ?_ | refine Qf ?_ | ((refine Qh ?_);refine Qi rfl ?_) | ((refine Qe ?_);refine QD rfl rfl rfl rfl rfl rfl ?_) | ((refine Qc ?_);first | refine Qu rfl lm ?_ | refine Qm rfl ?_ | refine QE rfl rfl (by omega) ?_))
    exact Qz ⟨rfl,s,_,_,_,_,_,sm,rfl⟩
theorem Qld (h0:Qa) (m:List (List Pol)) (ms:SV) (c:Nat) (hc:c≤1000) (hm:m.length≤1000) (pm:MxF fR h0 ms m) (hl:∀ r∈m,r.length≤1000):∃ r h',Cal FT HKt 47 [.sc ms,.sc (.int .i64 0),.sc (.int .i64 (c:Nat))] h0 r h'∧(Ext h0 h'∧∃ s,r=.sc s∧MxF fR h' s ((m.drop 1).map fun r=>r.eraseIdx c)):=by
  refine Cal.of (F:=a47) rfl rfl rfl ?_
  repeat' (first | refine Qg ?_ | refine Qb ?_ | refine Qt ?_ | refine Qf ?_ | ((refine Qe ?_);first | refine QB rfl rfl rfl ?_ | refine QS rfl rfl rfl rfl ?_ | refine QO rfl rfl rfl rfl rfl ?_) | ((refine Qc ?_);first | refine Qm rfl ?_ | refine X6 rfl rfl ?_))
  refine QP (I47 m ms c h0) m.length (R47 m c h0) ⟨0,_,Nat.zero_le _,rfl,⟨⟨_,rfl⟩,[],rfl,Own.lit0 h0,fun i t r a=>by simp at a⟩,rfl⟩ (Qhh m ms c h0 hc hm pm hl) ?_
  rintro ex E' h2 ⟨rfl,s2,_,_,_,_,_,sm,rfl⟩
  repeat' (first | refine Qg ?_ | refine Qb ?_ | refine QC ?_ | refine Qv ?_ | refine Qf ?_ | ((refine Qe ?_);refine Qq rfl ?_) | ((refine Qc ?_);refine Qm rfl ?_))
  exact ⟨.inr rfl,sm.x,s2,rfl,sm.mx⟩
end Go.Proofs.YtofknpknogfijaaGreatDoor


namespace Go.Proofs.YtofknpknogfijaaGreatDoor
open Go.Ab
set_option linter.unusedVariables false
set_option linter.unusedSimpArgs false
set_option maxRecDepth 20000
set_option maxHeartbeats 4000000
attribute [local irreducible] Qj wA Xm Xk QI Qo QW QV
set_option linter.unusedSectionVars false
variable [HB]
abbrev zP:Pol:=⟨false,[]⟩
def J7 (rows:List (List Pol)) (cs:List Nat):List (List Pol):=rows.map fun r=>cs.map fun c=>r.getD c zP
theorem Qbg {r:List Pol} {rs:List (List Pol)} {cs:List Nat} {k:Nat}:((J7 (r::rs) cs).drop 1).map (fun r=>r.eraseIdx k)=J7 rs (cs.eraseIdx k):=by
  unfold J7
  simp only [List.map_cons,List.drop_succ_cons,List.drop_zero,List.map_map]
  refine List.map_congr_left fun q _=>?_
  show (cs.map _).eraseIdx k=_
  rw [List.eraseIdx_eq_take_drop_succ,List.eraseIdx_eq_take_drop_succ,List.map_append,List.map_take,List.map_drop]
theorem Qd0 {n:Nat} {cs:List Nat} (hs:cs.Sublist (List.range' 0 n)) {i:Nat} (h:i < cs.length):cs.getD i 0 < n:=by
  have hm:cs.getD i 0∈cs:=by rw [List.getD_eq_getElem?_getD,List.getElem?_eq_getElem h];exact List.getElem_mem _
  have:=List.mem_range'_1.1 (hs.subset hm)
  omega
theorem QcE {n:Nat} {rows:List (List Pol)} (k:ROk n rows) {r:List Pol} (hr:r∈rows) {c:Nat} (hc:c < n):EOk (r.getD c zP):=by
  have hl:=k.len r hr
  rw [List.getD_eq_getElem?_getD,List.getElem?_eq_getElem (by omega)]
  exact k.ok r hr _ (List.getElem_mem _)
theorem Qhw {r:List Pol} {c:Nat}:(rT r).getD c []=(r.getD c zP).ts:=by
  unfold rT
  simp only [List.getD_eq_getElem?_getD,List.getElem?_map]
  cases r[c]? <;> rfl
theorem Qix {n:Nat} {r:List Pol} {rs:List (List Pol)} {cs:List Nat} (k:ROk n (r::rs)) (hs:cs.Sublist (List.range' 0 n)) {c:Nat} (hc:c < n) (hl:rs.length≤3):FB 100 8000000 (YW (r.getD c zP).ts (dL (rs.map rT) cs)):=by
  have ek:=QcE k (.head _) hc
  have fb:=k.tail.fb hs
  have h48:48 ^ rs.length≤48 ^ 3:=Nat.pow_le_pow_right (by decide) hl
  intro e he
  constructor
  · refine Decidable.byContradiction fun hn=>he (JS fun t ht=>?_)
    have:=(ek.bd t ht).1
    refine Decidable.byContradiction fun h2=>?_
    have:=(fb _ h2).1
    omega
  · have:=Vz (B:=48 ^ rs.length) (f:=dL (rs.map rT) cs) (fun e=>by
      by_cases h:dL (rs.map rT) cs e=0
      · rw [h];exact Nat.zero_le _
      · exact (fb _ h).2) (l:=(r.getD c zP).ts) (e:=e)
    have h12:=ek.sum
    have:Yr (r.getD c zP).ts*48 ^ rs.length≤12*48 ^ 3:=Nat.mul_le_mul h12 h48
    omega
def qd (r:List Pol) (rs:List (List Pol)) (cs:List Nat) (i:Nat) (e:Int):Int:=UE (xp r rs e) cs i
theorem ZT {r:List Pol} {rs:List (List Pol)} {cs:List Nat} {i:Nat} {e:Int}:qd r rs cs (i+1) e=qd r rs cs i e+if i%2=1 then-YW (r.getD (cs.getD i 0) zP).ts (dL (rs.map rT) (cs.eraseIdx i)) e else YW (r.getD (cs.getD i 0) zP).ts (dL (rs.map rT) (cs.eraseIdx i)) e:=by
  unfold qd
  rw [UE]
  simp only [xp,Qhw]
theorem Vp {n:Nat} {r:List Pol} {rs:List (List Pol)} {cs:List Nat} (k:ROk n (r::rs)) (hs:cs.Sublist (List.range' 0 n)) (hl:rs.length≤3):∀ {i:Nat},i≤cs.length→FB 100 (i*8000000) (qd r rs cs i)
  | 0,_=>fun e he=>absurd rfl he
  | i+1,hi=>by
    intro e he
    have hc:=Qd0 hs (i:=i) (by omega)
    have f1:=Vp k hs hl (i:=i) (by omega)
    have f2:=Qix k ((List.eraseIdx_sublist cs i).trans hs) hc hl
    rw [ZT] at he ⊢
    have b1:(qd r rs cs i e).natAbs≤i*8000000:=by
      by_cases h:qd r rs cs i e=0
      · rw [h];exact Nat.zero_le _
      · exact (f1 e h).2
    generalize hx:YW (r.getD (cs.getD i 0) zP).ts (dL (rs.map rT) (cs.eraseIdx i))=X at *
    have b2:(X e).natAbs≤8000000:=by
      by_cases h:X e=0
      · rw [h];exact Nat.zero_le _
      · exact (f2 e h).2
    constructor
    · by_cases h1:qd r rs cs i e=0
      · refine (f2 e fun h=>he ?_).1
        rw [h1,h];simp
      · exact (f1 e h1).1
    · rw [Nat.add_mul]
      split <;> omega
theorem IsRf.gp {h:Qa} {r:AV} {p:Pol} {f:Int→Int} (a:IsRf h r p) (g:GP f p):∃ s,r=.agg [s,.bool false]∧IsD h s (tms p.ts):=by
  obtain ⟨s,e,d⟩:=a
  exact ⟨s,by rw [e,g.nb],d⟩
def C17 (n l:Nat):Prop:=∀ (rows:List (List Pol)) (cs:List Nat),ROk n rows→cs.Sublist (List.range' 0 n)→rows.length=l→cs.length=l→∀ (ms:SV) (h0:Qa),MxF fR h0 ms (J7 rows cs) →
  ∃ v h',Cal FT HKt 17 [.sc ms] h0 v h'∧(Ext h0 h'∧∃ p s,v=.agg [s,.bool false]∧IsD h' s (tms p.ts)∧GP (dL (rows.map rT) cs) p)
def I17 (r:List Pol) (rs:List (List Pol)) (cs:List Nat) (ms:SV) (q2 q3:Nat) (hb:Qa) (k:Nat) (E:Env) (h:Qa):Prop:=∃ (i:Nat) (p:Pol) (s:SV),i≤cs.length∧k=cs.length-i∧Ext hb h∧Cel h q2 .nilS (.bool false)∧Cel h q3 s (.bool false)∧IsD h s (tms p.ts)∧GP (qd r rs cs i) p ∧
  E.keep [0,2,3,4]=[(0,some (.sc ms)),(2,some (.sc (.ptr q2 0))),(3,some (.sc (.ptr q3 0))),(4,some (.sc (.int .i64 (i:Nat))))]
def R17 (r:List Pol) (rs:List (List Pol)) (cs:List Nat) (q2 q3:Nat) (hb:Qa) (ex:Ex) (E:Env) (h:Qa):Prop:=ex=.ex 0∧∃ (p:Pol) (s:SV) (a b c:Option AV),Ext hb h∧Cel h q2 .nilS (.bool false)∧Cel h q3 s (.bool false)∧IsD h s (tms p.ts)∧GP (qd r rs cs cs.length) p ∧
  E=[(0,a),(2,some (.sc (.ptr q2 0))),(3,some (.sc (.ptr q3 0))),(4,b),(15,c)]
theorem Qhn {n:Nat} (r:List Pol) (rs:List (List Pol)) (cs:List Nat) (k:ROk n (r::rs)) (hs:cs.Sublist (List.range' 0 n)) (hl:(r::rs).length=cs.length) (ih:C17 n rs.length) (ms:SV) (q2 q3:Nat) (hb:Qa) (hq2:hb.length≤q2) (hq3:q2 < q3) (pm:MxF fR hb ms (J7 (r::rs) cs)) (kk:Nat) (E:Env) (h:Qa) (hI:I17 r rs cs ms q2 q3 hb kk E h) :
    wA FT HKt Qjp (E.keep [0,2,3,4]) h (Qo (I17 r rs cs ms q2 q3 hb) kk (R17 r rs cs q2 q3 hb)):=by
  obtain ⟨i,p,s,hi,rfl,x,c2,c3,ds,gp,hE⟩:=hI
  rw [hE]
  have hn4:=k.n4
  have hcl:cs.length≤n:=by simpa using hs.length_le
  simp only [List.length_cons] at hl
  have lsub:(J7 (r::rs) cs).length=cs.length:=by unfold J7;simp;omega
  have lm:=pm.len
  rw [lsub] at lm
  by_cases hlt:i < cs.length
  · have hc:=Qd0 hs hlt
    obtain ⟨id,off,cap,t0,es,rd,er⟩:=pm.at (i:=0) (r:=cs.map fun c=>r.getD c zP) (by unfold J7;rfl)
    subst es
    have ls1:(J7 (r::rs) cs).length≤1000:=by omega
    simp only [lsub] at hE pm lm rd ⊢
    obtain ⟨id2,off2,cap2,t,es,rd2,dt⟩:=er.at (i:=i) (p:=r.getD (cs.getD i 0) zP) (by
      rw [List.getElem?_map,List.getElem?_eq_getElem hlt,List.getD_eq_getElem?_getD (l:=cs),List.getElem?_eq_getElem hlt];rfl)
    subst es
    simp only [List.length_map] at rd er
    have rd0:=QA x rd
    have rd20:=QA x rd2
    have ek:=QcE k (.head _) hc
    rw [show (fR (r.getD (cs.getD i 0) zP) t).1=t from rfl,show (fR (r.getD (cs.getD i 0) zP) t).2=.bool false from congrArg SV.bool ek.nb] at rd20
    have k47:=Qld h _ (.slc id off cs.length cap) i (by omega) ls1 (pm.ext x) (fun q hq=>by
      unfold J7 at hq
      obtain ⟨y,_,rfl⟩:=List.mem_map.1 hq
      rw [List.length_map];omega)
    rw [Qbg] at k47
    have hs2:=(List.eraseIdx_sublist cs i).trans hs
    have k17:=fun H m1 (e:MxF fR H m1 (J7 rs (cs.eraseIdx i)))=>ih rs (cs.eraseIdx i) k.tail hs2 rfl (by rw [List.length_eraseIdx_of_lt hlt];omega) m1 H e
    have fbd:=k.tail.fb hs2
    have h48:48 ^ rs.length≤48 ^ 3:=Nat.pow_le_pow_right (by decide) (by omega)
    have k46:=fun H q s1 (x1:Ext h H) (d1:IsD H s1 (tms q.ts)) (g1:GP (dL (rs.map rT) (cs.eraseIdx i)) q)=>Qle H t s1 (r.getD (cs.getD i 0) zP).ts q.ts ((dt.ext x).ext x1) d1
      (fun u hu=>by have:=ek.bd u hu;simp only [cM];omega) (fun u hu=>by have:=g1.bd fbd u hu;simp only [cM];omega)
      (fun a ha u hu=>by
        have h1:=(ek.bd a ha).2
        have h2:=(g1.bd fbd u hu).2
        have:a.2.natAbs*u.2.natAbs≤4*48 ^ 3:=Nat.mul_le_mul h1 (by omega)
        rw [Int.natAbs_mul]
        simp only [bM];omega)
      (by have:=ek.len;omega) (by
        have h1:=ek.len
        have h2:=g1.len fbd
        have:(r.getD (cs.getD i 0) zP).ts.length*q.ts.length≤3*73:=Nat.mul_le_mul h1 (by omega)
        omega)
    have fbx:=Qix k hs2 hc (by omega:rs.length≤3)
    have fbs:=Vp k hs (by omega:rs.length≤3) (i:=i+1) (by omega)
    have fbi:=Vp k hs (by omega:rs.length≤3) (i:=i) (by omega)
    by_cases hodd:i%2=1
    · repeat' (first | refine Qg ?_ | refine Qb ?_ | refine Qt ?_ | refine Qp ?_ | refine Qf ?_ | refine Xb ?_ | refine Xq ?_ | refine Xr ?_ | ((refine Qh ?_);refine Qk rfl ?_) | ((refine Qe ?_);first | refine Xd ?_ | refine XI ?_ | refine XD (by assumption) ?_ | refine QO rfl rfl rfl rfl rfl ?_ | refine QD rfl rfl rfl rfl rfl rfl ?_) | ((refine Qc ?_);first | (refine Qx (esz:=1) rfl rfl (by omega) ?_) | (refine Q2 rfl rd0 ?_) | refine Qu rfl lm ?_ | (refine Qx (esz:=2) rfl rfl (by omega) ?_) | refine Yo rfl rd20 ?_ | (refine Qn rfl k47 ?_;rintro v h1 ⟨e1,m1,rfl,pm1⟩) | (refine Qn rfl (k17 _ _ pm1) ?_;rintro v h2 ⟨e2,p2,s2,rfl,d2,g2⟩;have x2:=e1.trans e2) | (refine Qn rfl (k46 _ _ _ x2 d2 g2) ?_;rintro v h3 ⟨e3,rf3⟩;obtain ⟨s3,rfl,d3⟩:=rf3.gp (VM g2 _ (fbx.mono (by simp only [eM];omega) (by simp only [cM];omega)));have g3:=VM g2 (r.getD (cs.getD i 0) zP).ts (fbx.mono (by simp only [eM];omega) (by simp only [cM];omega));have x3:=x2.trans e3;replace x:=x.trans x3;replace c2:=c2.ext x3;replace c3:=c3.ext x3;replace ds:=ds.ext x3) | (refine Xz ?_;intro h4 e4 c5;have n2:=c2.lt;have n3:=c3.lt;have nb:=x.len;replace x:=x.trans e4;replace c2:=c2.ext e4;replace c3:=c3.ext e4;replace ds:=ds.ext e4;replace d3:=d3.ext e4) | (refine Xw rfl rfl c5 ?_;intro h5 w5;replace c5:=w5.cel;replace c2:=w5.keep c2 (by omega);replace c3:=w5.keep c3 (by omega);replace x:=w5.ext x (by omega);replace ds:=ds.wrC w5;replace d3:=d3.wrC w5) | refine Xt rfl rfl (by omega) ?_ | refine Xa rfl c5 ?_ | refine Qm rfl ?_ | refine Zw rfl rfl (by omega) ?_ | refine Qw rfl rfl (by omega) ?_))
      have g6:=gp_ng g3
      have fb6:FB 100 8000000 fun e => - YW (r.getD (cs.getD i 0) zP).ts (dL (rs.map rT) (cs.eraseIdx i)) e:=fun e he=>by
        have:=fbx e (by simp only at he;omega)
        simp only;omega
      have k48:=fun H (a1:IsD H s3 (tms (Y8 (XN (r.getD (cs.getD i 0) zP).ts p2.ts [])).ts))=>Qlc H s3 _ a1 (fun t ht=>by have:=g3.bd fbx t ht;simp only [cM];omega) (by have:=g3.len fbx;omega)
      rw [g3.nb] at k48
      repeat' (first | refine Qb ?_ | refine Qf ?_ | ((refine Qe ?_);refine QO rfl rfl rfl rfl rfl ?_) | ((refine Qc ?_);first | (refine Qn rfl (k48 _ d3) ?_;rintro v h6 ⟨e6,rf6⟩;obtain ⟨s6,rfl,d6⟩:=rf6.gp g6;replace x:=x.trans e6;replace c2:=c2.ext e6;replace c3:=c3.ext e6;replace c5:=c5.ext e6;replace ds:=ds.ext e6) | (refine Xw rfl rfl c5 ?_;intro h7 w7;replace c5:=w7.cel;replace c2:=w7.keep c2 (by omega);replace c3:=w7.keep c3 (by omega);replace x:=w7.ext x (by omega);replace ds:=ds.wrC w7;replace d6:=d6.wrC w7)))
      have hfs:FB eM cM (fun e=>qd r rs cs i e + - YW (r.getD (cs.getD i 0) zP).ts (dL (rs.map rT) (cs.eraseIdx i)) e):=fun e he=>by
        have hps:qd r rs cs (i+1) e=qd r rs cs i e + - YW (r.getD (cs.getD i 0) zP).ts (dL (rs.map rT) (cs.eraseIdx i)) e:=by rw [ZT,if_pos hodd]
        simp only at he ⊢
        rw [← hps] at he ⊢
        have:=fbs e he
        simp only [eM,cM];omega
      have g7:=Qfe gp g6 hfs
      have k49:=fun H (a1:IsD H s (tms p.ts)) (a2:IsD H s6 (tms (ngP (Y8 (XN (r.getD (cs.getD i 0) zP).ts p2.ts []))).ts))=>QfH H s s6 p (ngP (Y8 (XN (r.getD (cs.getD i 0) zP).ts p2.ts []))) a1 a2 (fun t ht=>by have:=gp.bd fbi t ht;simp only [cM];omega) (fun t ht=>by have:=g6.bd fb6 t ht;simp only [cM];omega) (by have:=gp.len fbi;omega) (by have:=g6.len fb6;omega)
      rw [gp.nb,g6.nb] at k49
      repeat' (first | refine Qb ?_ | refine QG ?_ | refine Qf ?_ | ((refine Qe ?_);refine QS rfl rfl rfl rfl ?_) | ((refine Qc ?_);first | refine Xa rfl c3 ?_ | refine Xa rfl c5 ?_ | (refine Qn rfl (k49 _ ds d6) ?_;rintro v h8 ⟨e8,rf8⟩;obtain ⟨s8,rfl,d8⟩:=rf8.gp g7;replace x:=x.trans e8;replace c2:=c2.ext e8;replace c3:=c3.ext e8) | (refine Xw rfl rfl c3 ?_;intro h9 w9;replace c3:=w9.cel;replace c2:=w9.keep c2 (by omega);replace x:=w9.ext x (by omega);replace d8:=d8.wrC w9) | refine Qm rfl ?_ | refine QM rfl rfl (by omega) ?_))
      exact Qs (j:=cs.length-(i+1)) (by omega) ⟨i+1,_,s8,by omega,rfl,x,c2,c3,d8,g7.cong fun e=>by rw [ZT,if_pos hodd],rfl⟩
    · repeat' (first | refine Qg ?_ | refine Qb ?_ | refine Qt ?_ | refine Qp ?_ | refine Qf ?_ | refine Xb ?_ | refine Xq ?_ | refine Xr ?_ | ((refine Qh ?_);first | refine Qk rfl ?_ | refine Qi rfl ?_) | ((refine Qe ?_);first | refine Xd ?_ | refine XI ?_ | refine XD (by assumption) ?_ | refine QO rfl rfl rfl rfl rfl ?_ | refine QD rfl rfl rfl rfl rfl rfl ?_) | ((refine Qc ?_);first | (refine Qx (esz:=1) rfl rfl (by omega) ?_) | (refine Q2 rfl rd0 ?_) | refine Qu rfl lm ?_ | (refine Qx (esz:=2) rfl rfl (by omega) ?_) | refine Yo rfl rd20 ?_ | (refine Qn rfl k47 ?_;rintro v h1 ⟨e1,m1,rfl,pm1⟩) | (refine Qn rfl (k17 _ _ pm1) ?_;rintro v h2 ⟨e2,p2,s2,rfl,d2,g2⟩;have x2:=e1.trans e2) | (refine Qn rfl (k46 _ _ _ x2 d2 g2) ?_;rintro v h3 ⟨e3,rf3⟩;obtain ⟨s3,rfl,d3⟩:=rf3.gp (VM g2 _ (fbx.mono (by simp only [eM];omega) (by simp only [cM];omega)));have g3:=VM g2 (r.getD (cs.getD i 0) zP).ts (fbx.mono (by simp only [eM];omega) (by simp only [cM];omega));have x3:=x2.trans e3;replace x:=x.trans x3;replace c2:=c2.ext x3;replace c3:=c3.ext x3;replace ds:=ds.ext x3) | (refine Xz ?_;intro h4 e4 c5;have n2:=c2.lt;have n3:=c3.lt;have nb:=x.len;replace x:=x.trans e4;replace c2:=c2.ext e4;replace c3:=c3.ext e4;replace ds:=ds.ext e4;replace d3:=d3.ext e4) | (refine Xw rfl rfl c5 ?_;intro h5 w5;replace c5:=w5.cel;replace c2:=w5.keep c2 (by omega);replace c3:=w5.keep c3 (by omega);replace x:=w5.ext x (by omega);replace ds:=ds.wrC w5;replace d3:=d3.wrC w5) | refine Xh rfl rfl (by omega) ?_ | refine Qm rfl ?_ | refine Zw rfl rfl (by omega) ?_ | refine Qw rfl rfl (by omega) ?_))
      have hfs:FB eM cM (fun e=>qd r rs cs i e+YW (r.getD (cs.getD i 0) zP).ts (dL (rs.map rT) (cs.eraseIdx i)) e):=fun e he=>by
        have hps:qd r rs cs (i+1) e=qd r rs cs i e+YW (r.getD (cs.getD i 0) zP).ts (dL (rs.map rT) (cs.eraseIdx i)) e:=by rw [ZT,if_neg hodd]
        simp only at he ⊢
        rw [← hps] at he ⊢
        have:=fbs e he
        simp only [eM,cM];omega
      have g7:=Qfe gp g3 hfs
      have k49:=fun H (a1:IsD H s (tms p.ts)) (a2:IsD H s3 (tms ((Y8 (XN (r.getD (cs.getD i 0) zP).ts p2.ts []))).ts))=>QfH H s s3 p ((Y8 (XN (r.getD (cs.getD i 0) zP).ts p2.ts []))) a1 a2 (fun t ht=>by have:=gp.bd fbi t ht;simp only [cM];omega) (fun t ht=>by have:=g3.bd fbx t ht;simp only [cM];omega) (by have:=gp.len fbi;omega) (by have:=g3.len fbx;omega)
      rw [gp.nb,g3.nb] at k49
      repeat' (first | refine Qb ?_ | refine QG ?_ | refine Qf ?_ | ((refine Qe ?_);refine QS rfl rfl rfl rfl ?_) | ((refine Qc ?_);first | refine Xa rfl c3 ?_ | refine Xa rfl c5 ?_ | (refine Qn rfl (k49 _ ds d3) ?_;rintro v h8 ⟨e8,rf8⟩;obtain ⟨s8,rfl,d8⟩:=rf8.gp g7;replace x:=x.trans e8;replace c2:=c2.ext e8;replace c3:=c3.ext e8) | (refine Xw rfl rfl c3 ?_;intro h9 w9;replace c3:=w9.cel;replace c2:=w9.keep c2 (by omega);replace x:=w9.ext x (by omega);replace d8:=d8.wrC w9) | refine Qm rfl ?_ | refine QM rfl rfl (by omega) ?_))
      exact Qs (j:=cs.length-(i+1)) (by omega) ⟨i+1,_,s8,by omega,rfl,x,c2,c3,d8,g7.cong fun e=>by rw [ZT,if_neg hodd],rfl⟩
  · have:i=cs.length:=by omega
    subst this
    repeat' (first | refine Qg ?_ | refine Qb ?_ | refine QK ?_ | refine QH ?_ | refine Qf ?_ | ((refine Qh ?_);refine Qi rfl ?_) | ((refine Qe ?_);refine QO rfl rfl rfl rfl rfl ?_) | ((refine Qc ?_);first | refine Qu rfl lm ?_ | refine Qm rfl ?_ | refine QE rfl rfl (by omega) ?_))
    exact Qz ⟨rfl,p,s,_,_,_,x,c2,c3,ds,gp,rfl⟩
theorem QkU {cs:List Nat}:GP (dL [] cs) ⟨false,[(0,1)]⟩ :=
  ⟨rfl,Can.cons .nil (by decide) (by simp),fun e=>by
    show (1:Int)*dl e 0+0=_
    unfold dl dL
    by_cases h:e=0
    · rw [if_pos h.symm,if_pos h];rfl
    · rw [if_neg fun h'=>h h'.symm,if_neg h];rfl⟩
theorem QfK {n:Nat}:∀ l,C17 n l
  | 0,rows,cs,k,hs,hr,hc,ms,h0,pm=>by
    obtain rfl:rows=[]:=List.eq_nil_of_length_eq_zero hr
    refine Cal.of (F:=a17) rfl rfl rfl ?_
    have lm:=pm.len
    have hone:=QhH (a:=0) (by decide)
    have k27:=fun H c (hc:IsInts H c [1])=>QcM H 0 c [1] ⟨by decide,by omega,by omega,by simp [smC]⟩ hc
    rw [hone] at k27
    repeat' (first | refine Qg ?_ | refine Qb ?_ | refine QL ?_ | refine Qv ?_ | refine Qf ?_ | ((refine Qh ?_);refine Qk rfl ?_) | ((refine Qe ?_);first | refine Qq rfl ?_ | refine Qy rfl rfl ?_ | refine QB rfl rfl rfl ?_) | ((refine Qc ?_);first | (refine Xz ?_;intro h1 e1 c2) | refine Qu rfl lm ?_ | refine Xt rfl rfl rfl ?_ | (refine QkM rfl ?_;intro h2 e2 i2;replace c2:=c2.ext e2) | (refine Qn rfl (k27 _ _ i2) ?_;rintro v h3 ⟨e3,s3,rfl,o3⟩;replace c2:=c2.ext e3) | (refine Xw rfl rfl c2 ?_;intro h4 w4) | refine Qm rfl ?_))
    exact ⟨.inr rfl,XM rfl w4.cel.read ⟨w4.ext (e1.trans (e2.trans e3)) (Nat.le_refl _),⟨false,[(0,1)]⟩,s3,rfl,o3.is.wrC w4,QkU⟩⟩
  | l+1,rows,cs,k,hs,hr,hc,ms,h0,pm=>by
    obtain ⟨r,rs,rfl⟩:∃ r rs,rows=r::rs:=by cases rows with
      | nil=>simp at hr
      | cons r rs=>exact ⟨r,rs,rfl⟩
    have hrl:rs.length=l:=by simpa using hr
    refine Cal.of (F:=a17) rfl rfl rfl ?_
    have lm:=pm.len
    have lsub:(J7 (r::rs) cs).length=l+1:=by unfold J7;simpa using hrl
    rw [lsub] at lm
    have hn4:=k.n4
    have hcl:cs.length≤n:=by simpa using hs.length_le
    repeat' (first | refine Qg ?_ | refine Qb ?_ | refine Qt ?_ | refine Qp ?_ | refine Qf ?_ | ((refine Qh ?_);refine Qi rfl ?_) | ((refine Qe ?_);first | refine Qy rfl rfl ?_ | refine QB rfl rfl rfl ?_ | refine QS rfl rfl rfl rfl ?_) | ((refine Qc ?_);first | (have z:=e1;refine Xz ?_;intro h2 e2 c3;have n1:=c2.lt;have n0:=e1.len;replace c2:=c2.ext e2;have x:=e1.trans e2) | (refine Xz ?_;intro h1 e1 c2) | refine Qu rfl lm ?_ | refine Xh rfl rfl (by omega) ?_ | (refine Xw rfl rfl c3 ?_;intro h3 w3;replace c3:=w3.cel;replace c2:=w3.keep c2 (by omega);replace x:=w3.ext x n0) | refine Qm rfl ?_ | refine X6 rfl rfl ?_))
    refine QP (I17 r rs cs ms h0.length h1.length h0) cs.length (R17 r rs cs h0.length h1.length h0) ⟨0,⟨false,[]⟩,.nilS,Nat.zero_le _,rfl,x,c2,c3,IsD.nil _,QhR,rfl⟩ (Qhn r rs cs k hs (by simp only [List.length_cons];omega) (by rw [hrl];exact QfK l) ms h0.length h1.length h0 (Nat.le_refl _) n1 pm) ?_
    rintro ex E' h4 ⟨rfl,p,s,_,_,_,x4,c24,c34,d4,g4,rfl⟩
    repeat' (first | refine Qg ?_ | refine Qb ?_ | refine QC ?_ | refine Qv ?_ | refine Qf ?_ | ((refine Qe ?_);refine Qq rfl ?_) | ((refine Qc ?_);first | refine Xa rfl c34 ?_ | (refine Xw rfl rfl c24 ?_;intro h5 w5)))
    refine ⟨.inr rfl,XM rfl w5.cel.read ⟨w5.ext x4 (Nat.le_refl _),p,s,rfl,d4.wrC w5,g4.cong fun e=>?_⟩⟩
    rw [dL_xp];rfl
end Go.Proofs.YtofknpknogfijaaGreatDoor

