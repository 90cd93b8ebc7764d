/- The residues of a determinant: a row of the matrix at a power of the root,and the matrix. -/
import Derived.Test.YtofknpknogfijaaGreatDoorRS1
import Derived.Test.YtofknpknogfijaaGreatDoorAb32
import Derived.Test.YtofknpknogfijaaGreatDoorAb50
namespace Go.Proofs.YtofknpknogfijaaGreatDoor
open Go.Ab
set_option linter.unusedVariables false
set_option linter.unusedSimpArgs false
set_option maxRecDepth 20000
set_option maxHeartbeats 4000000
attribute [local irreducible] Qi wA Xk Xj Qz Qo QS QV
set_option linter.unusedSectionVars false
variable [HB]
def Ent1 (h:Qa) (s:SV) (r:List (List Tm)):Prop:=∃ ss:List SV,ss.length=r.length∧IsSl h s 1 ss.length ss∧∀ (i:Nat) (t:SV) (l:List Tm),ss[i]?=some t→r[i]?=some l→IsD h t (tms l)
def Ents (h:Qa) (s:SV) (es:List (List (List Tm))):Prop:=∃ ss:List SV,ss.length=es.length∧IsSl h s 1 ss.length ss∧∀ (i:Nat) (t:SV) (r:List (List Tm)),ss[i]?=some t→es[i]?=some r→Ent1 h t r
theorem Ent1.ext {h h':Qa} {s:SV} {r:List (List Tm)} (e:Ent1 h s r) (x:Ext h h'):Ent1 h' s r:=by
  obtain ⟨ss,h1,h2,h3⟩:=e
  exact ⟨ss,h1,h2.ext x,fun i t l a b=>(h3 i t l a b).ext x⟩
theorem Ents.ext {h h':Qa} {s:SV} {r:List (List (List Tm))} (e:Ents h s r) (x:Ext h h'):Ents h' s r:=by
  obtain ⟨ss,h1,h2,h3⟩:=e
  exact ⟨ss,h1,h2.ext x,fun i t l a b=>(h3 i t l a b).ext x⟩
def qF (p N t:Nat) (pws:List Nat) (r:List (List Tm)):List Nat:=r.map (acc p N t pws)
def QfI (p g q3 N t pid q rid n i:Nat) (pws:List Nat) (top:List SV) (r:List (List Tm)) (rs:SV) (a1 a2 a8 a12 a64 a65 a71 a72 a73:AV) (hb H:Qa) (m:Nat) (E:Env) (h:Qa):Prop:=∃ k,k≤n∧m=n-k∧S108 q rid top (fill (fun k=>acc p N t pws (r.getD k [])) n k) hb H h ∧
  E.keep [1,2,3,7,8,10,12,13,14,15,64,65,71,72,73,84,85,86]=[(1,some a1),(2,some a2),(3,some (.sc (.ptr q3 0))),(7,some (.sc (.int .i64 (N:Nat)))),(8,some a8),(10,some (.sc (.slc pid 0 N (some N)))),(12,some a12),(13,some (.sc (.int .i64 (t:Nat)))),(14,some (.sc (.slc q 0 n (some n)))),(15,some (.sc (.int .i64 (i:Nat)))),(64,some a64),(65,some a65),(71,some a71),(72,some a72),(73,some a73),(84,some (.sc rs)),(85,some (.sc (.int .i64 (n:Nat)))),(86,some (.sc (.int .i64 (k:Nat))))]
def Qia (p g q3 N t pid q rid n i:Nat) (pws:List Nat) (top:List SV) (r:List (List Tm)) (a1 a2 a8 a12 a64 a65 a71 a72 a73:AV) (hb H:Qa) (ex:Ex) (E:Env) (h:Qa):Prop:=ex=.ex 10∧S108 q rid top (qF p N t pws r) hb H h ∧
  ∃ a b c d e,E=[(1,some a1),(2,some a2),(3,some (.sc (.ptr q3 0))),(7,some (.sc (.int .i64 (N:Nat)))),(8,some a8),(10,some (.sc (.slc pid 0 N (some N)))),(12,some a12),(13,some (.sc (.int .i64 (t:Nat)))),(14,some (.sc (.slc q 0 n (some n)))),(15,a),(64,some a64),(65,some a65),(71,some a71),(72,some a72),(73,some a73),(84,b),(85,c),(86,d),(87,e)]
theorem QcG (p g q3 N t pid q rid n i:Nat) (pws:List Nat) (top:List SV) (r:List (List Tm)) (rs:SV) (a1 a2 a8 a12 a64 a65 a71 a72 a73:AV) (hb H:Qa) (hp:0 < p∧p < 9223372036854775808) (hN:0 < N∧N≤131072) (ht:t < N) (hi:i < n) (hn:n≤1000000)
    (c3:Cel hb q3 (.int .u64 (p:Nat)) (.int .u64 (g:Nat))) (bp:Bu hb pid pws) (lp:pws.length=N) (pp:∀ x∈pws,x < p) (er:Ent1 hb rs r) (hr:r.length=n) (tok:∀ l∈r,l.length≤1000000∧∀ m∈l,Ub p m) (htop:top[i]?=some (.slc rid 0 n (some n))) (m:Nat) (E:Env) (h:Qa) (hI:QfI p g q3 N t pid q rid n i pws top r rs a1 a2 a8 a12 a64 a65 a71 a72 a73 hb H m E h) :
    wA FT HKt Qe8 (E.keep [1,2,3,7,8,10,12,13,14,15,64,65,71,72,73,84,85,86]) h (Qo (QfI p g q3 N t pid q rid n i pws top r rs a1 a2 a8 a12 a64 a65 a71 a72 a73 hb H) m (Qia p g q3 N t pid q rid n i pws top r a1 a2 a8 a12 a64 a65 a71 a72 a73 hb H)):=by
  obtain ⟨k,hk,rfl,s,hE⟩:=hI
  rw [hE]
  by_cases hlt:k < n
  · obtain ⟨ss,l1,l2,l3⟩:=er
    obtain ⟨ts,hts⟩:∃ x,ss[k]?=some x:=⟨_,List.getElem?_eq_getElem (by omega)⟩
    obtain ⟨l,hl⟩:∃ x,r[k]?=some x:=⟨_,List.getElem?_eq_getElem (by omega)⟩
    have dt:=l3 k ts l hts hl
    obtain ⟨ll,lt⟩:=tok l (List.mem_of_getElem? hl)
    obtain ⟨id,off,cap,es,rd⟩:=l2.at hts
    subst es
    have ld:=dt.len
    rw [XD] at ld
    have rd0:=QO s.x rd
    have el:r.getD k []=l:=by rw [List.getD_eq_getElem?_getD,hl];rfl
    have fs:=Zi (f:=fun k=>acc p N t pws (r.getD k [])) hlt
    rw [el] at fs
    repeat' (first | refine Qh ?_ | refine Qb ?_ | refine Qt ?_ | refine Qn ?_ | refine Qf ?_ | ((refine Qg ?_);refine Qk rfl ?_) | ((refine Qe ?_);first | refine Yv rfl rfl rfl rfl rfl rfl rfl rfl rfl rfl rfl rfl rfl rfl rfl rfl rfl rfl rfl ?_ | refine YI rfl rfl rfl rfl rfl rfl rfl rfl rfl rfl rfl rfl rfl rfl rfl rfl rfl rfl rfl rfl ?_ | refine Yu rfl rfl rfl rfl rfl rfl rfl rfl rfl rfl rfl rfl rfl rfl rfl rfl rfl rfl rfl rfl rfl rfl ?_) | ((refine Qc ?_);first | refine QD (esz:=1) rfl rfl (by omega) ?_ | refine Xx rfl rd0 ?_ | refine QA rfl ld ?_ | refine Qp rfl ?_ | refine Qx rfl rfl (by omega) ?_))
    refine Q2 (QfD p g q3 N t pid q rid n i k pws (fill (fun k=>acc p N t pws (r.getD k [])) n k) top l ts a1 a2 a8 a12 a64 a65 a71 a72 a73 (.sc (.slc id off ss.length cap)) (.sc (.int .i64 (n:Nat))) (.sc (.int .i64 (k:Nat))) hb H) l.length (Qh5 p g q3 N t pid q rid n i k pws (fill (fun k=>acc p N t pws (r.getD k [])) n k) top l a1 a2 a8 a12 a64 a65 a71 a72 a73 (.sc (.slc id off ss.length cap)) (.sc (.int .i64 (n:Nat))) (.sc (.int .i64 (k:Nat))) hb H) ⟨0,Nat.zero_le _,rfl,?_,rfl⟩
      (QcB p g q3 N t pid q rid n i k pws (fill (fun k=>acc p N t pws (r.getD k [])) n k) top l ts a1 a2 a8 a12 a64 a65 a71 a72 a73 (.sc (.slc id off ss.length cap)) (.sc (.int .i64 (n:Nat))) (.sc (.int .i64 (k:Nat))) hb H hp hN ht ll hi hlt YF c3 bp lp pp dt lt htop) ?_
    · have e0:(fill (fun k=>acc p N t pws (r.getD k [])) n k).set k (acc p N t pws (l.take 0))=fill (fun k=>acc p N t pws (r.getD k [])) n k:=by
        have:acc p N t pws (l.take 0)=0:=rfl
        rw [this]
        apply List.ext_getElem?
        intro j
        rw [List.getElem?_set]
        by_cases e:k=j
        · subst e
          rw [if_pos rfl,if_pos (by rw [YF];exact hlt)]
          unfold fill
          rw [List.getElem?_map,List.getElem?_range hlt]
          simp
        · rw [if_neg e]
      rw [e0];exact s
    · rintro ex E' h2 ⟨rfl,s2,_,_,_,_,rfl⟩
      rw [fs] at s2
      repeat' (first | refine Qb ?_ | refine QC ?_ | refine QE ?_ | refine Qf ?_ | ((refine Qe ?_);refine X5 rfl rfl rfl rfl rfl rfl rfl rfl rfl rfl rfl rfl rfl rfl rfl rfl rfl rfl ?_) | ((refine Qc ?_);first | refine Qp rfl ?_ | refine QK rfl rfl (by omega) ?_))
      exact Qu (j:=n-(k+1)) (by omega) ⟨k+1,by omega,rfl,s2,rfl⟩
  · have:k=n:=by omega
    subst this
    rw [Zb] at s
    have e:(List.range k).map (fun j=>acc p N t pws (r.getD j []))=qF p N t pws r:=by
      unfold qF
      apply List.ext_getElem?
      intro j
      rw [List.getElem?_map,List.getElem?_map]
      rcases Nat.lt_or_ge j k with h | h
      · rw [List.getElem?_range h,Option.map_some,List.getD_eq_getElem?_getD,List.getElem?_eq_getElem (by omega)];rfl
      · rw [List.getElem?_eq_none (by simpa using h),List.getElem?_eq_none (by omega)];rfl
    rw [e] at s
    repeat' (first | refine Qh ?_ | refine Qb ?_ | refine QP ?_ | refine QL ?_ | refine Qf ?_ | ((refine Qg ?_);refine Qj rfl ?_) | ((refine Qe ?_);refine Yv rfl rfl rfl rfl rfl rfl rfl rfl rfl rfl rfl rfl rfl rfl rfl rfl rfl rfl rfl ?_) | ((refine Qc ?_);refine QH rfl rfl (by omega) ?_))
    exact QG ⟨rfl,s,_,_,_,_,_,rfl⟩
theorem Ent1.len {h:Qa} {s:SV} {r:List (List Tm)} (e:Ent1 h s r):Yq false s=some (r.length:Int):=by
  obtain ⟨ss,l1,l2,-⟩:=e
  rw [← l1];exact IsSl.len l2
structure P108 (p N t q n:Nat) (pws:List Nat) (es:List (List (List Tm))) (i:Nat) (ms:List X2) (hb h:Qa):Prop where
  x:Ext hb h
  tp:h[q]?=some (.cells (ms.map (Yg n)++List.replicate (n-i) .nilS) true 1)
  l:ms.length=i
  nd:(ms.map (·.1)).Nodup
  ql:hb.length≤q
  lo:∀ m∈ms,hb.length≤m.1∧m.1≠q
  row:∀ m∈ms,Bu h m.1 m.2
  v:ms.map (·.2)=(es.take i).map (qF p N t pws)
def QfF (p g q3 N t pid q n:Nat) (pws:List Nat) (es:List (List (List Tm))) (esl:SV) (a1 a2 a8 a12 a64 a65:AV) (hb:Qa) (m:Nat) (E:Env) (h:Qa):Prop:=∃ i ms,i≤n∧m=n-i∧P108 p N t q n pws es i ms hb h ∧
  E.keep [1,2,3,7,8,10,12,13,14,64,65,71,72,73]=[(1,some a1),(2,some a2),(3,some (.sc (.ptr q3 0))),(7,some (.sc (.int .i64 (N:Nat)))),(8,some a8),(10,some (.sc (.slc pid 0 N (some N)))),(12,some a12),(13,some (.sc (.int .i64 (t:Nat)))),(14,some (.sc (.slc q 0 n (some n)))),(64,some a64),(65,some a65),(71,some (.sc esl)),(72,some (.sc (.int .i64 (n:Nat)))),(73,some (.sc (.int .i64 (i:Nat))))]
def Qh7 (p g q3 N t pid q n:Nat) (pws:List Nat) (es:List (List (List Tm))) (a1 a2 a8 a12 a64 a65:AV) (hb:Qa) (ex:Ex) (E:Env) (h:Qa):Prop:=ex=.ex 8∧∃ ms,P108 p N t q n pws es n ms hb h ∧
  ∃ b c d e,E=[(1,some a1),(2,some a2),(3,some (.sc (.ptr q3 0))),(7,some (.sc (.int .i64 (N:Nat)))),(8,some a8),(10,some (.sc (.slc pid 0 N (some N)))),(12,some a12),(13,some (.sc (.int .i64 (t:Nat)))),(14,some (.sc (.slc q 0 n (some n)))),(64,some a64),(65,some a65),(71,b),(72,c),(73,d),(74,e)]
theorem QcD (p g q3 N t pid q n:Nat) (pws:List Nat) (es:List (List (List Tm))) (esl:SV) (a1 a2 a8 a12 a64 a65:AV) (hb:Qa) (hp:0 < p∧p < 9223372036854775808) (hN:0 < N∧N≤131072) (ht:t < N) (hn:n≤1000000)
    (c3:Cel hb q3 (.int .u64 (p:Nat)) (.int .u64 (g:Nat))) (bp:Bu hb pid pws) (lp:pws.length=N) (pp:∀ x∈pws,x < p) (ee:Ents hb esl es) (he:es.length=n) (tok:∀ r∈es,r.length=n∧∀ l∈r,l.length≤1000000∧∀ m∈l,Ub p m) (m:Nat) (E:Env) (h:Qa) (hI:QfF p g q3 N t pid q n pws es esl a1 a2 a8 a12 a64 a65 hb m E h) :
    wA FT HKt Qe9 (E.keep [1,2,3,7,8,10,12,13,14,64,65,71,72,73]) h (Qo (QfF p g q3 N t pid q n pws es esl a1 a2 a8 a12 a64 a65 hb) m (Qh7 p g q3 N t pid q n pws es a1 a2 a8 a12 a64 a65 hb)):=by
  obtain ⟨i,ms,hi,rfl,s,hE⟩:=hI
  rw [hE]
  by_cases hlt:i < n
  · obtain ⟨ss,l1,l2,l3⟩:=ee
    obtain ⟨rs,hrs⟩:∃ x,ss[i]?=some x:=⟨_,List.getElem?_eq_getElem (by omega)⟩
    obtain ⟨r,hr⟩:∃ x,es[i]?=some x:=⟨_,List.getElem?_eq_getElem (by omega)⟩
    have er:=l3 i rs r hrs hr
    obtain ⟨lr,lt⟩:=tok r (List.mem_of_getElem? hr)
    obtain ⟨id,off,cap,e1,rd⟩:=l2.at hrs
    subst e1
    have ld:=er.len
    rw [lr] at ld
    have rd0:=QO s.x rd
    have hqh:q < h.length:=(List.getElem?_eq_some_iff.1 s.tp).1
    have tset:(ms.map (Yg n)++List.replicate (n-i) SV.nilS).set i (.slc h.length 0 n (some n))=ms.map (Yg n)++.slc h.length 0 n (some n)::List.replicate (n-(i+1)) .nilS:=by
      rw [List.set_append_right _ _ (by simp [s.l]),List.length_map,s.l,Nat.sub_self,show n-i=(n-(i+1))+1 by omega,List.replicate_succ,List.set_cons_zero]
    have w1:=fun h1 (x1:Ext h h1)=>wr1 (h:=h1) (q:=q) (i:=i) (v:=SV.slc h.length 0 n (some n)) (by obtain ⟨t,rfl⟩:=x1;rw [List.getElem?_append_left hqh,s.tp]) (by simp [s.l];omega)
    rw [tset] at w1
    have xb:=s.x.len
    repeat' (first | refine Qh ?_ | refine Qb ?_ | refine Qt ?_ | refine Qn ?_ | refine Qf ?_ | ((refine Qg ?_);refine Qk rfl ?_) | ((refine Qe ?_);first | refine X0 rfl rfl rfl rfl rfl rfl rfl rfl rfl rfl rfl rfl rfl rfl rfl ?_ | refine XK rfl rfl rfl rfl rfl rfl rfl rfl rfl rfl rfl rfl rfl rfl rfl rfl ?_ | refine X5 rfl rfl rfl rfl rfl rfl rfl rfl rfl rfl rfl rfl rfl rfl rfl rfl rfl rfl ?_) | ((refine Qc ?_);first | refine QD (esz:=1) rfl rfl (by omega) ?_ | refine Xx rfl rd0 ?_ | refine QA rfl ld ?_ | (refine Uy rfl rfl (by omega) ?_;intro h1 x1 b1) | refine Jk rfl rfl (w1 _ x1) ?_ | refine Qp rfl ?_ | refine Qx rfl rfl (by omega) ?_))
    have hne:q≠h.length:=by omega
    have top2:(h1.set q (.cells (ms.map (Yg n)++.slc h.length 0 n (some n)::List.replicate (n-(i+1)) .nilS) true 1))[q]?=some (.cells (ms.map (Yg n)++.slc h.length 0 n (some n)::List.replicate (n-(i+1)) .nilS) true 1):=by
      rw [List.getElem?_set_self (by have:=x1.len;omega)]
    have b2:=b1.other hne (.cells (ms.map (Yg n)++.slc h.length 0 n (some n)::List.replicate (n-(i+1)) .nilS) true 1)
    have x2:=Ext.setF (s.x.trans x1) s.ql (.cells (ms.map (Yg n)++.slc h.length 0 n (some n)::List.replicate (n-(i+1)) .nilS) true 1)
    have rows2:∀ m∈ms,Bu (h1.set q (.cells (ms.map (Yg n)++.slc h.length 0 n (some n)::List.replicate (n-(i+1)) .nilS) true 1)) m.1 m.2:=fun m hm=>((s.row m hm).ext x1).other (Ne.symm (s.lo m hm).2) _
    generalize h1.set q (.cells (ms.map (Yg n)++.slc h.length 0 n (some n)::List.replicate (n-(i+1)) .nilS) true 1)=h2 at *
    have hat:(ms.map (Yg n)++SV.slc h.length 0 n (some n)::List.replicate (n-(i+1)) SV.nilS)[i]?=some (.slc h.length 0 n (some n)):=by
      rw [List.getElem?_append_right (by simp [s.l]),List.length_map,s.l,Nat.sub_self];rfl
    generalize htop:ms.map (Yg n)++SV.slc h.length 0 n (some n)::List.replicate (n-(i+1)) SV.nilS=top at *
    refine Q2 (QfI p g q3 N t pid q h.length n i pws top r rs a1 a2 a8 a12 a64 a65 (.sc (.slc id off ss.length cap)) (.sc (.int .i64 (n:Nat))) (.sc (.int .i64 (i:Nat))) hb h2) n (Qia p g q3 N t pid q h.length n i pws top r a1 a2 a8 a12 a64 a65 (.sc (.slc id off ss.length cap)) (.sc (.int .i64 (n:Nat))) (.sc (.int .i64 (i:Nat))) hb h2)
      ⟨0,Nat.zero_le _,rfl,⟨x2,Chg.refl _,top2,by rw [Za];exact b2,by omega,hne⟩,rfl⟩
      (QcG p g q3 N t pid q h.length n i pws top r rs a1 a2 a8 a12 a64 a65 (.sc (.slc id off ss.length cap)) (.sc (.int .i64 (n:Nat))) (.sc (.int .i64 (i:Nat))) hb h2 hp hN ht hlt hn c3 bp lp pp er lr lt hat) ?_
    rintro ex E' h3 ⟨rfl,s3,_,_,_,_,_,rfl⟩
    repeat' (first | refine Qb ?_ | refine QC ?_ | refine QE ?_ | refine Qf ?_ | ((refine Qe ?_);refine XO rfl rfl rfl rfl rfl rfl rfl rfl rfl rfl rfl rfl rfl rfl ?_) | ((refine Qc ?_);first | refine Qp rfl ?_ | refine QK rfl rfl (by omega) ?_))
    refine Qu (j:=n-(i+1)) (by omega) ⟨i+1,ms++[(h.length,qF p N t pws r)],by omega,rfl,⟨s3.x,?_,by simp [s.l],?_,s.ql,?_,?_,?_⟩,rfl⟩
    · rw [s3.t,← htop];simp [Yg]
    · rw [List.map_append,List.nodup_append]
      refine ⟨s.nd,by simp,fun a ha b hb'=>?_⟩
      obtain ⟨m,hm,rfl⟩:=List.mem_map.1 ha
      simp at hb'
      subst hb'
      have:=(s.row m hm).lt
      omega
    · intro m hm
      rcases List.mem_append.1 hm with hm | hm
      · exact s.lo m hm
      · simp at hm;subst hm;exact ⟨by show hb.length≤h.length;omega,Ne.symm hne⟩
    · intro m hm
      rcases List.mem_append.1 hm with hm | hm
      · exact s3.c.bu (rows2 m hm) (by have:=(s.row m hm).lt;omega)
      · simp at hm;subst hm;exact s3.b
    · rw [List.map_append,s.v,List.take_add_one,hr];simp
  · have:i=n:=by omega
    subst this
    repeat' (first | refine Qh ?_ | refine Qb ?_ | refine QP ?_ | refine QL ?_ | refine Qf ?_ | ((refine Qg ?_);refine Qj rfl ?_) | ((refine Qe ?_);refine X0 rfl rfl rfl rfl rfl rfl rfl rfl rfl rfl rfl rfl rfl rfl rfl ?_) | ((refine Qc ?_);refine QH rfl rfl (by omega) ?_))
    exact QG ⟨rfl,ms,s,_,_,_,_,rfl⟩
end Go.Proofs.YtofknpknogfijaaGreatDoor


namespace Go.Proofs.YtofknpknogfijaaGreatDoor
open Go.Ab
set_option linter.unusedVariables false
set_option linter.unusedSimpArgs false
set_option maxRecDepth 20000
set_option maxHeartbeats 4000000
attribute [local irreducible] Qi wA Xk Xj Qz Qo QS QV
set_option linter.unusedSectionVars false
variable [HB]
section
variable {FT:FuncId→Option AFun} {HK:FuncId→Option Xc} {E:Env} {h:Qa} {K:Env→Qa→Prop} {d:Option Nat} {r:List AOp} {x y:AO}
theorem repN {v:SV}:∀ n:Nat,rep [v] n=List.replicate n v
  | 0=>rfl
  | n+1=>by rw [rep,repN n];rfl
theorem Qhw {n:Nat} (hx:evS E x=some (.int .i64 (n:Nat))) (hy:evS E y=some (.int .i64 (n:Nat))) (hb:n≤10000000) (hw:∀ h1,Ext h h1→h1[h.length]?=some (.cells (List.replicate n .nilS) true 1)→Qi FT HK r (Qq d (some (.sc (.slc h.length 0 n (some n)))) E) h1 K) :
    Qi FT HK (⟨d,.mk 1 24 [.nilS] x y,none⟩::r) E h K:=by
  refine Q8 (v:=some (.sc (.slc h.length 0 n (some n)))) (h':=h++[.cells (rep [.nilS] n) true 1]) rfl rfl ?_ (hw _ ⟨_,rfl⟩ ?_)
  · simp only [Ql,hx,hy]
    rw [if_pos ⟨by omega,by omega,by unfold YV;omega⟩,Int.toNat_natCast]
  · rw [List.getElem?_append_right (Nat.le_refl _),Nat.sub_self,repN];rfl
end
theorem Chg.ext' {S:Nat→Prop} {a b c:Qa} (x:Ext a b) (y:Chg S b c) (hs:∀ j,S j→a.length≤j):Ext a c :=
  Chg.toExt ⟨Nat.le_trans x.len y.len,fun j hj _=>by
    rw [y.same j (Nat.lt_of_lt_of_le hj x.len) fun h=>by have:=hs j h;omega]
    obtain ⟨t,rfl⟩:=x
    rw [List.getElem?_append_left hj]⟩
theorem P108.mx {p N t q n:Nat} {pws:List Nat} {es:List (List (List Tm))} {ms:List X2} {hb h:Qa} (s:P108 p N t q n pws es n ms hb h):Mx h q n ms:=by
  refine ⟨by rw [s.tp,Nat.sub_self];simp,s.nd,fun hm=>?_,s.row⟩
  obtain ⟨m,h1,h2⟩:=List.mem_map.1 hm
  exact (s.lo m h1).2 h2
def JA (p N n:Nat) (pws:List Nat) (es:List (List (List Tm))) (t:Nat):Nat:=qr p (XR p) n 0 (es.map (qF p N t pws)) 1
def QfK (p g q3 N pid vid n:Nat) (pws:List Nat) (es:List (List (List Tm))) (esl:SV) (a2 a8:AV) (hb:Qa) (m:Nat) (E:Env) (h:Qa):Prop:=∃ t,t≤N∧m=N-t∧Ext hb h∧Bu h vid (fill (JA p N n pws es) N t) ∧
  E.keep [1,2,3,7,8,10,12,64,65]=[(1,some (.sc esl)),(2,some a2),(3,some (.sc (.ptr q3 0))),(7,some (.sc (.int .i64 (N:Nat)))),(8,some a8),(10,some (.sc (.slc pid 0 N (some N)))),(12,some (.sc (.slc vid 0 N (some N)))),(64,some (.sc (.int .i64 (N:Nat)))),(65,some (.sc (.int .i64 (t:Nat))))]
def Qic (p g q3 N pid vid n:Nat) (pws:List Nat) (es:List (List (List Tm))) (a2 a8:AV) (hb:Qa) (ex:Ex) (E:Env) (h:Qa):Prop:=ex=.ex 6∧Ext hb h∧Bu h vid ((List.range N).map (JA p N n pws es)) ∧
  ∃ b c d e f,E=[(1,b),(2,some a2),(3,some (.sc (.ptr q3 0))),(7,some (.sc (.int .i64 (N:Nat)))),(8,some a8),(10,c),(12,some (.sc (.slc vid 0 N (some N)))),(64,d),(65,e),(66,f)]
theorem QcI (p g q3 N pid vid n:Nat) (pws:List Nat) (es:List (List (List Tm))) (esl:SV) (a2 a8:AV) (hb:Qa) (hp:2≤p∧p < 9223372036854775808) (hN:0 < N∧N≤131072) (hn:n < 1000000)
    (c3:Cel hb q3 (.int .u64 (p:Nat)) (.int .u64 (g:Nat))) (bp:Bu hb pid pws) (lp:pws.length=N) (pp:∀ x∈pws,x < p) (ee:Ents hb esl es) (he:es.length=n) (tok:∀ r∈es,r.length=n∧∀ l∈r,l.length≤1000000∧∀ m∈l,Ub p m) (hv:hb.length≤vid) (m:Nat) (E:Env) (h:Qa) (hI:QfK p g q3 N pid vid n pws es esl a2 a8 hb m E h) :
    wA FT HKt Qfa (E.keep [1,2,3,7,8,10,12,64,65]) h (Qo (QfK p g q3 N pid vid n pws es esl a2 a8 hb) m (Qic p g q3 N pid vid n pws es a2 a8 hb)):=by
  obtain ⟨t,ht,rfl,x,bv,hE⟩:=hI
  rw [hE]
  by_cases hlt:t < N
  · have ls:Yq false esl=some (n:Int):=by
      obtain ⟨ss,l1,l2,-⟩:=ee
      rw [← he,← l1];exact IsSl.len l2
    have c3h:=c3.ext x
    have wv:=fun h' (y:Ext h h')=>(bv.ext y).wr (i:=t) (y:=JA p N n pws es t) (by rw [YF];exact hlt)
    have fs:=Zi (f:=JA p N n pws es) hlt
    rw [fs] at wv
    repeat' (first | refine Qh ?_ | refine Qb ?_ | refine QP ?_ | refine QF ?_ | refine Qt ?_ | refine QC ?_ | refine QE ?_ | refine Xg ?_ | refine Qn ?_ | refine Qs ?_ | refine QL ?_ | refine Qf ?_ | refine Q9 ?_ | refine Xs ?_ | refine Xt ?_ | (refine YC ?_ ?_;rfl) | ((refine Qg ?_);first | refine Qk rfl ?_ | refine Qj rfl ?_) | ((refine Qe ?_);first | refine Xb ?_ | refine XP ?_ | refine Xi ⟨_,rfl⟩ ?_ | refine Xi (extA _ _ _) ?_ | refine Xi (by assumption) ?_ | refine w_end0 ?_ | refine Qr rfl ?_ | refine Qv rfl rfl ?_ | refine Qy rfl rfl rfl ?_ | refine QQ rfl rfl rfl rfl ?_ | refine QU rfl rfl rfl rfl rfl ?_ | refine QM rfl rfl rfl rfl rfl rfl ?_ | refine Q7 rfl rfl rfl rfl rfl rfl rfl ?_ | refine Q5 rfl rfl rfl rfl rfl rfl rfl rfl ?_ | refine Q6 rfl rfl rfl rfl rfl rfl rfl rfl rfl ?_ | refine Xf rfl rfl rfl rfl rfl rfl rfl rfl rfl rfl ?_ | refine XC rfl rfl rfl rfl rfl rfl rfl rfl rfl rfl rfl ?_ | refine Xh rfl rfl rfl rfl rfl rfl rfl rfl rfl rfl rfl rfl ?_ | refine Xo rfl rfl rfl rfl rfl rfl rfl rfl rfl rfl rfl rfl rfl ?_ | refine XO rfl rfl rfl rfl rfl rfl rfl rfl rfl rfl rfl rfl rfl rfl ?_ | refine X0 rfl rfl rfl rfl rfl rfl rfl rfl rfl rfl rfl rfl rfl rfl rfl ?_ | refine XK rfl rfl rfl rfl rfl rfl rfl rfl rfl rfl rfl rfl rfl rfl rfl rfl ?_ | refine XZ rfl rfl rfl rfl rfl rfl rfl rfl rfl rfl rfl rfl rfl rfl rfl rfl rfl ?_ | refine X5 rfl rfl rfl rfl rfl rfl rfl rfl rfl rfl rfl rfl rfl rfl rfl rfl rfl rfl ?_ | refine Yv rfl rfl rfl rfl rfl rfl rfl rfl rfl rfl rfl rfl rfl rfl rfl rfl rfl rfl rfl ?_ | refine YI rfl rfl rfl rfl rfl rfl rfl rfl rfl rfl rfl rfl rfl rfl rfl rfl rfl rfl rfl rfl ?_ | refine w_end21 rfl rfl rfl rfl rfl rfl rfl rfl rfl rfl rfl rfl rfl rfl rfl rfl rfl rfl rfl rfl rfl ?_ | refine Yu rfl rfl rfl rfl rfl rfl rfl rfl rfl rfl rfl rfl rfl rfl rfl rfl rfl rfl rfl rfl rfl rfl ?_ | refine Yt rfl rfl rfl rfl rfl rfl rfl rfl rfl rfl rfl rfl rfl rfl rfl rfl rfl rfl rfl rfl rfl rfl rfl ?_ | refine YH rfl rfl rfl rfl rfl rfl rfl rfl rfl rfl rfl rfl rfl rfl rfl rfl rfl rfl rfl rfl rfl rfl rfl rfl ?_) | ((refine Qc ?_);first | refine QA rfl ls ?_ | (refine Qhw rfl rfl (by omega) ?_;intro h1 x1 t1) | refine Xn rfl ?_ | refine k_skipU rfl ?_ | refine QY rfl ?_ | refine Qp rfl ?_ | refine Q1 rfl rfl ?_ | refine QT rfl rfl ?_ | refine XQ rfl ?_ | refine XW rfl ?_ | refine QK rfl rfl (by omega) ?_ | refine YY rfl rfl (by omega) ?_ | refine YR rfl rfl (by omega) ?_ | refine YZ rfl (by omega) ?_ | refine Zz rfl rfl (by omega) ?_ | refine Y8 rfl rfl (by omega) ?_ | refine XM rfl (by omega) ?_ | refine Zh rfl rfl ?_ | refine ZA rfl rfl ?_ | refine Qx rfl rfl (by omega) ?_ | refine QH rfl rfl (by omega) ?_ | refine ZM rfl rfl (fun hc=>?_) (fun hc=>?_) | refine YM rfl rfl (by omega) ?_ | refine YD rfl rfl (by omega) ?_ | refine ZN rfl rfl (fun hc=>?_) (fun hc=>?_) | refine XA rfl rfl (by omega) ?_ | refine Xq rfl rfl (by omega) ?_ | refine ZO rfl rfl (fun hc=>?_) (fun hc=>?_) | refine XH rfl rfl (by omega) ?_ | refine Xv rfl rfl (by omega) ?_ | refine ZP rfl rfl (fun hc=>?_) (fun hc=>?_) | refine Xw rfl rfl (by omega) ?_ | refine Xa rfl rfl (by omega) ?_ | refine ZQ rfl rfl (fun hc=>?_) (fun hc=>?_) | refine XX rfl rfl (by omega) ?_ | refine XJ rfl rfl (by omega) ?_ | refine ZL rfl rfl (fun hc=>?_) (fun hc=>?_) | refine QA rfl rfl ?_ | refine XF rfl rfl ?_))
    refine Q2 (QfF p g q3 N t pid h.length n pws es esl (.sc esl) a2 a8 (.sc (.slc vid 0 N (some N))) (.sc (.int .i64 (N:Nat))) (.sc (.int .i64 (t:Nat))) h) n (Qh7 p g q3 N t pid h.length n pws es (.sc esl) a2 a8 (.sc (.slc vid 0 N (some N))) (.sc (.int .i64 (N:Nat))) (.sc (.int .i64 (t:Nat))) h)
      ⟨0,[],Nat.zero_le _,rfl,⟨x1,by simpa using t1,rfl,by simp,Nat.le_refl _,by simp,by simp,by simp⟩,rfl⟩
      (QcD p g q3 N t pid h.length n pws es esl (.sc esl) a2 a8 (.sc (.slc vid 0 N (some N))) (.sc (.int .i64 (N:Nat))) (.sc (.int .i64 (t:Nat))) h ⟨by omega,hp.2⟩ hN hlt (by omega) c3h (bp.ext x) lp pp (ee.ext x) he tok) ?_
    rintro ex E' h2 ⟨rfl,ms,s2,_,_,_,_,rfl⟩
    have c32:=c3h.ext s2.x
    have ev:ms.map (·.2)=es.map (qF p N t pws):=by
      have:=s2.v
      rwa [List.take_of_length_le (by omega)] at this
    have ro:yH p n ms:=fun m hm=>by
      have:m.2∈es.map (qF p N t pws):=by rw [← ev];exact List.mem_map.2 ⟨m,hm,rfl⟩
      obtain ⟨r,hr,e⟩:=List.mem_map.1 this
      rw [← e]
      refine ⟨by show (r.map _).length=n;rw [List.length_map];exact (tok r hr).1,fun y hy=>?_⟩
      obtain ⟨l,hl,rfl⟩:=List.mem_map.1 hy
      exact Qbh (by omega)
    have k130:=QgY p g h.length n ms h2 hp hn s2.mx ro s2.l
    rw [ev] at k130
    have eV:qr p (XR p) n 0 (es.map (qF p N t pws)) 1=JA p N n pws es t:=rfl
    rw [eV] at k130
    have lo:=s2.lo
    have x2:=s2.x
    clear s2
    repeat' (first | refine Qh ?_ | refine Qb ?_ | refine QP ?_ | refine QF ?_ | refine Qt ?_ | refine QC ?_ | refine QE ?_ | refine Xg ?_ | refine Qn ?_ | refine Qs ?_ | refine QL ?_ | refine Qf ?_ | refine Q9 ?_ | refine Xs ?_ | refine Xt ?_ | (refine YC ?_ ?_;rfl) | ((refine Qg ?_);first | refine Qk rfl ?_ | refine Qj rfl ?_) | ((refine Qe ?_);first | refine Xb ?_ | refine XP ?_ | refine Xi ⟨_,rfl⟩ ?_ | refine Xi (extA _ _ _) ?_ | refine Xi (by assumption) ?_ | refine w_end0 ?_ | refine Qr rfl ?_ | refine Qv rfl rfl ?_ | refine Qy rfl rfl rfl ?_ | refine QQ rfl rfl rfl rfl ?_ | refine QU rfl rfl rfl rfl rfl ?_ | refine QM rfl rfl rfl rfl rfl rfl ?_ | refine Q7 rfl rfl rfl rfl rfl rfl rfl ?_ | refine Q5 rfl rfl rfl rfl rfl rfl rfl rfl ?_ | refine Q6 rfl rfl rfl rfl rfl rfl rfl rfl rfl ?_ | refine Xf rfl rfl rfl rfl rfl rfl rfl rfl rfl rfl ?_ | refine XC rfl rfl rfl rfl rfl rfl rfl rfl rfl rfl rfl ?_ | refine Xh rfl rfl rfl rfl rfl rfl rfl rfl rfl rfl rfl rfl ?_ | refine Xo rfl rfl rfl rfl rfl rfl rfl rfl rfl rfl rfl rfl rfl ?_ | refine XO rfl rfl rfl rfl rfl rfl rfl rfl rfl rfl rfl rfl rfl rfl ?_ | refine X0 rfl rfl rfl rfl rfl rfl rfl rfl rfl rfl rfl rfl rfl rfl rfl ?_ | refine XK rfl rfl rfl rfl rfl rfl rfl rfl rfl rfl rfl rfl rfl rfl rfl rfl ?_ | refine XZ rfl rfl rfl rfl rfl rfl rfl rfl rfl rfl rfl rfl rfl rfl rfl rfl rfl ?_ | refine X5 rfl rfl rfl rfl rfl rfl rfl rfl rfl rfl rfl rfl rfl rfl rfl rfl rfl rfl ?_ | refine Yv rfl rfl rfl rfl rfl rfl rfl rfl rfl rfl rfl rfl rfl rfl rfl rfl rfl rfl rfl ?_ | refine YI rfl rfl rfl rfl rfl rfl rfl rfl rfl rfl rfl rfl rfl rfl rfl rfl rfl rfl rfl rfl ?_ | refine w_end21 rfl rfl rfl rfl rfl rfl rfl rfl rfl rfl rfl rfl rfl rfl rfl rfl rfl rfl rfl rfl rfl ?_ | refine Yu rfl rfl rfl rfl rfl rfl rfl rfl rfl rfl rfl rfl rfl rfl rfl rfl rfl rfl rfl rfl rfl rfl ?_ | refine Yt rfl rfl rfl rfl rfl rfl rfl rfl rfl rfl rfl rfl rfl rfl rfl rfl rfl rfl rfl rfl rfl rfl rfl ?_ | refine YH rfl rfl rfl rfl rfl rfl rfl rfl rfl rfl rfl rfl rfl rfl rfl rfl rfl rfl rfl rfl rfl rfl rfl rfl ?_) | ((refine Qc ?_);first | refine QN rfl c32 ?_ | (refine Qm rfl k130 ?_;rintro v3 h3 ⟨ch,rfl⟩;have x3:Ext h h3:=Chg.ext' x2 ch (by rintro j (rfl | ⟨m,hm,rfl⟩);exact Nat.le_refl _;exact (lo m hm).1)) | refine QD (esz:=1) rfl rfl (by omega) ?_ | refine Jk rfl rfl (wv _ x3) ?_ | refine Xn rfl ?_ | refine k_skipU rfl ?_ | refine QY rfl ?_ | refine Qp rfl ?_ | refine Q1 rfl rfl ?_ | refine QT rfl rfl ?_ | refine XQ rfl ?_ | refine XW rfl ?_ | refine QK rfl rfl (by omega) ?_ | refine YY rfl rfl (by omega) ?_ | refine YR rfl rfl (by omega) ?_ | refine YZ rfl (by omega) ?_ | refine Zz rfl rfl (by omega) ?_ | refine Y8 rfl rfl (by omega) ?_ | refine XM rfl (by omega) ?_ | refine Zh rfl rfl ?_ | refine ZA rfl rfl ?_ | refine Qx rfl rfl (by omega) ?_ | refine QH rfl rfl (by omega) ?_ | refine ZM rfl rfl (fun hc=>?_) (fun hc=>?_) | refine YM rfl rfl (by omega) ?_ | refine YD rfl rfl (by omega) ?_ | refine ZN rfl rfl (fun hc=>?_) (fun hc=>?_) | refine XA rfl rfl (by omega) ?_ | refine Xq rfl rfl (by omega) ?_ | refine ZO rfl rfl (fun hc=>?_) (fun hc=>?_) | refine XH rfl rfl (by omega) ?_ | refine Xv rfl rfl (by omega) ?_ | refine ZP rfl rfl (fun hc=>?_) (fun hc=>?_) | refine Xw rfl rfl (by omega) ?_ | refine Xa rfl rfl (by omega) ?_ | refine ZQ rfl rfl (fun hc=>?_) (fun hc=>?_) | refine XX rfl rfl (by omega) ?_ | refine XJ rfl rfl (by omega) ?_ | refine ZL rfl rfl (fun hc=>?_) (fun hc=>?_) | refine QA rfl rfl ?_ | refine XF rfl rfl ?_))
    refine Qu (j:=N-(t+1)) (by omega) ⟨t+1,by omega,rfl,Ext.setF (x.trans x3) hv _,(bv.ext x3).set,rfl⟩
  · have:t=N:=by omega
    subst this
    rw [Zb] at bv
    repeat' (first | refine Qh ?_ | refine Qb ?_ | refine QP ?_ | refine QF ?_ | refine Qt ?_ | refine QC ?_ | refine QE ?_ | refine Xg ?_ | refine Qn ?_ | refine Qs ?_ | refine QL ?_ | refine Qf ?_ | refine Q9 ?_ | refine Xs ?_ | refine Xt ?_ | (refine YC ?_ ?_;rfl) | ((refine Qg ?_);first | refine Qk rfl ?_ | refine Qj rfl ?_) | ((refine Qe ?_);first | refine Xb ?_ | refine XP ?_ | refine Xi ⟨_,rfl⟩ ?_ | refine Xi (extA _ _ _) ?_ | refine Xi (by assumption) ?_ | refine w_end0 ?_ | refine Qr rfl ?_ | refine Qv rfl rfl ?_ | refine Qy rfl rfl rfl ?_ | refine QQ rfl rfl rfl rfl ?_ | refine QU rfl rfl rfl rfl rfl ?_ | refine QM rfl rfl rfl rfl rfl rfl ?_ | refine Q7 rfl rfl rfl rfl rfl rfl rfl ?_ | refine Q5 rfl rfl rfl rfl rfl rfl rfl rfl ?_ | refine Q6 rfl rfl rfl rfl rfl rfl rfl rfl rfl ?_ | refine Xf rfl rfl rfl rfl rfl rfl rfl rfl rfl rfl ?_ | refine XC rfl rfl rfl rfl rfl rfl rfl rfl rfl rfl rfl ?_ | refine Xh rfl rfl rfl rfl rfl rfl rfl rfl rfl rfl rfl rfl ?_ | refine Xo rfl rfl rfl rfl rfl rfl rfl rfl rfl rfl rfl rfl rfl ?_ | refine XO rfl rfl rfl rfl rfl rfl rfl rfl rfl rfl rfl rfl rfl rfl ?_ | refine X0 rfl rfl rfl rfl rfl rfl rfl rfl rfl rfl rfl rfl rfl rfl rfl ?_ | refine XK rfl rfl rfl rfl rfl rfl rfl rfl rfl rfl rfl rfl rfl rfl rfl rfl ?_ | refine XZ rfl rfl rfl rfl rfl rfl rfl rfl rfl rfl rfl rfl rfl rfl rfl rfl rfl ?_ | refine X5 rfl rfl rfl rfl rfl rfl rfl rfl rfl rfl rfl rfl rfl rfl rfl rfl rfl rfl ?_ | refine Yv rfl rfl rfl rfl rfl rfl rfl rfl rfl rfl rfl rfl rfl rfl rfl rfl rfl rfl rfl ?_ | refine YI rfl rfl rfl rfl rfl rfl rfl rfl rfl rfl rfl rfl rfl rfl rfl rfl rfl rfl rfl rfl ?_ | refine w_end21 rfl rfl rfl rfl rfl rfl rfl rfl rfl rfl rfl rfl rfl rfl rfl rfl rfl rfl rfl rfl rfl ?_ | refine Yu rfl rfl rfl rfl rfl rfl rfl rfl rfl rfl rfl rfl rfl rfl rfl rfl rfl rfl rfl rfl rfl rfl ?_ | refine Yt rfl rfl rfl rfl rfl rfl rfl rfl rfl rfl rfl rfl rfl rfl rfl rfl rfl rfl rfl rfl rfl rfl rfl ?_ | refine YH rfl rfl rfl rfl rfl rfl rfl rfl rfl rfl rfl rfl rfl rfl rfl rfl rfl rfl rfl rfl rfl rfl rfl rfl ?_) | ((refine Qc ?_);first | refine Xn rfl ?_ | refine k_skipU rfl ?_ | refine QY rfl ?_ | refine Qp rfl ?_ | refine Q1 rfl rfl ?_ | refine QT rfl rfl ?_ | refine XQ rfl ?_ | refine XW rfl ?_ | refine QK rfl rfl (by omega) ?_ | refine YY rfl rfl (by omega) ?_ | refine YR rfl rfl (by omega) ?_ | refine YZ rfl (by omega) ?_ | refine Zz rfl rfl (by omega) ?_ | refine Y8 rfl rfl (by omega) ?_ | refine XM rfl (by omega) ?_ | refine Zh rfl rfl ?_ | refine ZA rfl rfl ?_ | refine Qx rfl rfl (by omega) ?_ | refine QH rfl rfl (by omega) ?_ | refine ZM rfl rfl (fun hc=>?_) (fun hc=>?_) | refine YM rfl rfl (by omega) ?_ | refine YD rfl rfl (by omega) ?_ | refine ZN rfl rfl (fun hc=>?_) (fun hc=>?_) | refine XA rfl rfl (by omega) ?_ | refine Xq rfl rfl (by omega) ?_ | refine ZO rfl rfl (fun hc=>?_) (fun hc=>?_) | refine XH rfl rfl (by omega) ?_ | refine Xv rfl rfl (by omega) ?_ | refine ZP rfl rfl (fun hc=>?_) (fun hc=>?_) | refine Xw rfl rfl (by omega) ?_ | refine Xa rfl rfl (by omega) ?_ | refine ZQ rfl rfl (fun hc=>?_) (fun hc=>?_) | refine XX rfl rfl (by omega) ?_ | refine XJ rfl rfl (by omega) ?_ | refine ZL rfl rfl (fun hc=>?_) (fun hc=>?_) | refine QA rfl rfl ?_ | refine XF rfl rfl ?_))
    exact QG ⟨rfl,x,bv,_,_,_,_,_,rfl⟩
end Go.Proofs.YtofknpknogfijaaGreatDoor

