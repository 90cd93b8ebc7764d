/- The law's arguments as they lie in memory: entries,rows of entries,matrices of entries. -/
import Derived.Test.YtofknpknogfijaaGreatDoorLW3
import Derived.Test.YtofknpknogfijaaGreatDoorAb51
import Derived.Test.YtofknpknogfijaaGreatDoorRD
import Derived.Test.YtofknpknogfijaaGreatDoorMN2
import Derived.Test.YtofknpknogfijaaGreatDoorO5
import Derived.Test.YtofknpknogfijaaGreatDoorRows
import Derived.Test.YtofknpknogfijaaGreatDoorCards
import Derived.Test.YtofknpknogfijaaGreatDoorTie
import Derived.MakeChecks
import Derived.Lay
import Derived.Shelf.Vars
import Derived.WalkKit
import Derived.ProofKit
import Derived.OpenShut
import Derived.ShutString
import Derived.ChangeOld
import Derived.Below
import Derived.LaidMore
import Derived.Stop.Joined
import Derived.SevenTiedAt
namespace Go.Proofs.YtofknpknogfijaaGreatDoor
open Go.Ab
set_option linter.unusedVariables false
set_option linter.unusedSimpArgs false
set_option linter.unusedSectionVars false
abbrev Qit:Int→Qa→List SV→Prop:=fun n _ ss=>ss=[.int .i64 n]∧(Lit.int .i64 n).wf=true
abbrev RIs:List Int→Qa→List SV→Prop:=fun ds h ss=>∃ s l,ss=[s]∧IsSl h s ⟨1,none⟩ ds.length l∧RL Qit ds h l
abbrev Qiu:Ent→Qa→List SV→Prop:=fun d h ss=>∃ l1 l2,ss=l1++l2∧Qit d.1 h l1∧RIs d.2 h l2
abbrev RRow:List Ent→Qa→List SV→Prop:=fun ds h ss=>∃ s l,ss=[s]∧IsSl h s ⟨2,none⟩ ds.length l∧RL Qiu ds h l
abbrev RMx:List (List Ent)→Qa→List SV→Prop:=fun ds h ss=>∃ s l,ss=[s]∧IsSl h s ⟨1,none⟩ ds.length l∧RL RRow ds h l
theorem Qcf:∀ {ds:List Int} {h:Qa} {l:List SV},RL Qit ds h l→l=ds.map (.int .i64)
  | [],h,l,e=>e
  | d::ds,h,l,⟨l1,l2,e,⟨a,_⟩,b⟩=>by rw [e,a,Qcf b];rfl
theorem RIs.ok {ds:List Int} {h:Qa} {ss:List SV} (a:RIs ds h ss):∃ s,ss=[s]∧IsInts h s ds:=by
  obtain ⟨s,l,e,q,r⟩:=a
  rw [Qcf r] at q
  exact ⟨s,e,q⟩
theorem Qcg:∀ {ds:List Ent} {h:Qa} {l:List SV},RL Qiu ds h l→∃ ts:List SV,ts.length=ds.length∧l=prs (List.zipWith (fun (p:Ent) t=>(SV.int .i64 p.1,t)) ds ts)∧∀ (i:Nat) (p:Ent) (t:SV),ds[i]?=some p→ts[i]?=some t→IsInts h t p.2
  | [],h,l,e=>⟨[],rfl,e,fun i p t a=>by simp at a⟩
  | d::ds,h,l,⟨l1,l2,e,⟨m1,m2,e2,⟨e3,_⟩,r⟩,b⟩=>by
    obtain ⟨ts,q1,q2,q3⟩:=Qcg b
    obtain ⟨s,e4,hs⟩:=r.ok
    refine ⟨s::ts,by simp [q1],?_,fun i p t hi ht=>?_⟩
    · rw [e,e2,e3,e4,q2];rfl
    · cases i with
      | zero=>simp at hi ht;subst hi ht;exact hs
      | succ i=>exact q3 i p t (by simpa using hi) (by simpa using ht)
theorem RRow.ok {ds:List Ent} {h:Qa} {ss:List SV} (a:RRow ds h ss):∃ s,ss=[s]∧ERow h s ds:=by
  obtain ⟨s,l,e,q,r⟩:=a
  obtain ⟨ts,q1,q2,q3⟩:=Qcg r
  refine ⟨s,e,ts,q1,?_,q3⟩
  unfold IsD
  rw [List.length_zipWith,q1,Nat.min_self,← q2]
  exact q
theorem Qce:∀ {ds:List (List Ent)} {h:Qa} {l:List SV},RL RRow ds h l→l.length=ds.length∧∀ (i:Nat) (t:SV) (r:List Ent),l[i]?=some t→ds[i]?=some r→ERow h t r
  | [],h,l,e=>by
    have:l=[]:=e
    subst this
    exact ⟨rfl,fun i t r a=>by simp at a⟩
  | d::ds,h,l,⟨l1,l2,e,a,b⟩=>by
    obtain ⟨q1,q2⟩:=Qce b
    obtain ⟨s,e1,hs⟩:=a.ok
    subst e1
    subst e
    refine ⟨by simp [q1],fun i t r hi hr=>?_⟩
    cases i with
    | zero=>simp at hi hr;subst hi hr;exact hs
    | succ i=>exact q2 i t r (by simpa using hi) (by simpa using hr)
theorem RMx.ok {ds:List (List Ent)} {h:Qa} {ss:List SV} (a:RMx ds h ss):∃ s,ss=[s]∧EMx h s ds:=by
  obtain ⟨s,l,e,q,r⟩:=a
  obtain ⟨q1,q2⟩:=Qce r
  refine ⟨s,e,l,q1,?_,q2⟩
  rw [q1]
  exact q
section
variable {H:Type} {enc:TypeId × Value→H} {P:Program} {w:World} {base:Nat} {held:Bool}
theorem QgY {te ti tl:TypeId} {f0 f1:Field} (he:P.underlying te=some (.struct #[f0,f1])) (h0:f0.type=ti∧f0.offset=0) (h1:f1.type=tl∧f1.offset=1) (hi:P.underlying ti=some (.int .i64)) (hl:P.underlying tl=some (.slice ti))
    (ci:P.cellsOf ti=1) (cl:P.cellsOf tl=1) (ce:P.cellsOf te=2):TOk enc P w base held te 2 Ent Qiu:=by
  have a:TOk enc P w base held ti 1 Int Qit:=TOk.int hi
  have b:TOk enc P w base held tl 1 (List Int) RIs:=TOk.slice hl ci (by decide) a
  exact TOk.struct2 (c0:=1) (c1:=1) he ⟨h0.2,by rw [h0.1];exact ci⟩ ⟨h1.2,by rw [h1.1];exact cl⟩ ce (by rw [h0.1];exact a) (by rw [h1.1];exact b)
theorem QgX {te tr:TypeId} (hr:P.underlying tr=some (.slice te)) (ce:P.cellsOf te=2) (a:TOk enc P w base held te 2 Ent Qiu):TOk enc P w base held tr 1 (List Ent) RRow:=TOk.slice hr ce (by decide) a
theorem QjX {tr tm:TypeId} (hm:P.underlying tm=some (.slice tr)) (cr:P.cellsOf tr=1) (a:TOk enc P w base held tr 1 (List Ent) RRow):TOk enc P w base held tm 1 (List (List Ent)) RMx:=TOk.slice hm cr (by decide) a
end
end Go.Proofs.YtofknpknogfijaaGreatDoor


namespace Go.Proofs.YtofknpknogfijaaGreatDoor
open Go.Ab
set_option linter.unusedVariables false
set_option linter.unusedSimpArgs false
set_option maxRecDepth 20000
set_option maxHeartbeats 8000000
attribute [local irreducible] Qj wA Xm Xk QI Qo QW QV
set_option linter.unusedSectionVars false
section
variable [HB]
theorem eok {e:Ent} (h:smE e):EOk (PE e):=by
  obtain ⟨h1,h2,h3,h4⟩:=h
  obtain ⟨r,e1,can,hr,-⟩:=UU (low:=e.1) (xs:=e.2) (fun x hx=>by have:=h4 x hx;simp only [cM];omega) (by simp only [eM];omega) (fun i hi=>by simp only [eM];omega)
  have hv:∀ t∈r,t.2.natAbs≤4:=fun t ht=>by
    have hc:=Vx (low:=e.1) (xs:=e.2) (i:=e.2.length) (r:=r) (by
      unfold ofP at e1
      cases h:ofN e.1 e.2 e.2.length with
      | none=>rw [h] at e1;cases e1
      | some q=>rw [h] at e1;simp at e1;rw [e1])
    have h5:=Uq hc.1 ht
    have h6:=hr t ht
    rw [hc.2.2,if_pos ⟨h6.1,h6.2.1⟩] at h5
    have hm:e.2.getD (t.1-e.1).toNat 0∈e.2:=by
      rw [List.getD_eq_getElem?_getD,List.getElem?_eq_getElem (by omega)];exact List.getElem_mem _
    have:=h4 _ hm
    omega
  unfold PE
  rw [e1]
  refine ⟨rfl,can,?_,fun t ht=>⟨?_,hv t ht⟩⟩
  · have:=zy can (lo:=e.1) (n:=e.2.length) fun t ht=>⟨(hr t ht).1,(hr t ht).2.1⟩
    simp only;omega
  · have:=hr t ht
    simp only at *;omega
abbrev mxE (l:List (List Ent)):List (List Pol):=l.map fun r=>r.map PE
theorem rokE {l:List (List Ent)} (h:smM 4 l) (hs:sqE l):ROk l.length (mxE l) :=
  ⟨h.1,fun r hr=>by
    obtain ⟨q,hq,rfl⟩:=List.mem_map.1 hr
    rw [List.length_map];exact hs q hq,fun r hr p hp=>by
    obtain ⟨q,hq,rfl⟩:=List.mem_map.1 hr
    obtain ⟨e,he,rfl⟩:=List.mem_map.1 hp
    exact eok ((h.2 q hq).2 e he)⟩
theorem sqmE {l:List (List Ent)} (h:smM 4 l) (hs:sqE l):SqM 6 (mxE l):=by
  have k:=rokE h hs
  have ln:(mxE l).length=l.length:=List.length_map _
  refine ⟨by have:=h.1;omega,fun r hr=>by rw [ln];exact k.len r hr,fun r hr p hp=>?_,⟨by decide,by have:=h.1;omega⟩,fun r hr=>?_⟩
  · have:=k.ok r hr p hp
    exact ⟨this.can,this.nb,by have:=this.len;omega,fun t ht=>by have:=this.bd t ht;simp only [cM];omega⟩
  · have:=V4 (k.ok r hr)
    rw [k.len r hr] at this
    have:=h.1
    omega
theorem Qd1 {n:Nat} {m:List (List Pol)} (h:∀ r∈m,r.length=n):J7 m (List.range' 0 n)=m:=by
  unfold J7
  conv=>rhs;rw [← List.map_id m]
  refine List.map_congr_left fun r hr=>?_
  have:=h r hr
  refine List.ext_getElem? fun i=>?_
  rw [List.getElem?_map]
  rcases Nat.lt_or_ge i n with hi | hi
  · rw [List.getElem?_range' hi]
    simp [List.getD_eq_getElem?_getD,List.getElem?_eq_getElem (show i < r.length by omega)]
  · rw [List.getElem?_eq_none (by simpa using hi)]
    simp [List.getElem?_eq_none (show r.length≤i by omega)]
theorem Qh1 {n:Nat} {m:List (List Pol)} (k:ROk n m) (hn:m.length=n):FB 48 5308416 (Uo m):=by
  have:=k.fb (cs:=List.range' 0 m.length) (by rw [hn];exact List.Sublist.refl _)
  have h4:=k.n4
  have h48:48 ^ m.length≤48 ^ 4:=Nat.pow_le_pow_right (by decide) (by omega)
  exact this.mono (by omega) (by omega)
theorem Qli (aw:∀ h:Qa,∃ v h',Cal FT HKt 9 [] h v h'∧v=.sc (.bool true)∧h'=h) (h0:Qa) (ls:SV) (l:List (List Ent)) (em:EMx h0 ls l) :
    ∃ v h',Cal FT HKt 3 [.sc ls] h0 v h'∧v=.sc (.bool true):=by
  refine Cal.of (F:=a3) rfl rfl rfl ?_
  have k10:=Qlt h0 l ls 4 (by decide) em
  by_cases hs:smM 4 l
  case neg =>
    simp only [decide_eq_false hs,smN] at k10
    repeat' (first | refine Qg ?_ | refine Qb ?_ | refine QK ?_ | refine QL ?_ | refine Qt ?_ | refine QG ?_ | refine QC ?_ | refine Q9 ?_ | refine Qp ?_ | refine Qv ?_ | refine QH ?_ | refine Qf ?_ | refine Xb ?_ | refine Xq ?_ | refine Xr ?_ | (refine Zf ?_ ?_;rfl) | ((refine Qh ?_);first | refine Qk rfl ?_ | refine Qi rfl ?_) | ((refine Qe ?_);first | refine Xd ?_ | refine XI ?_ | refine XD ⟨_,rfl⟩ ?_ | refine XD (extA _ _ _) ?_ | refine XD (by assumption) ?_ | refine Jt ?_ | refine Qq rfl ?_ | refine Qy rfl rfl ?_ | refine QB rfl rfl rfl ?_ | refine QS rfl rfl rfl rfl ?_ | refine QO rfl rfl rfl rfl rfl ?_ | refine QD rfl rfl rfl rfl rfl rfl ?_ | refine Q4 rfl rfl rfl rfl rfl rfl rfl ?_ | refine Q8 rfl rfl rfl rfl rfl rfl rfl rfl ?_ | refine Xj rfl rfl rfl rfl rfl rfl rfl rfl rfl ?_ | refine Xu rfl rfl rfl rfl rfl rfl rfl rfl rfl rfl ?_ | refine XX rfl rfl rfl rfl rfl rfl rfl rfl rfl rfl rfl ?_ | refine XB rfl rfl rfl rfl rfl rfl rfl rfl rfl rfl rfl rfl ?_ | refine Ye rfl rfl rfl rfl rfl rfl rfl rfl rfl rfl rfl rfl rfl ?_ | refine ZE rfl rfl rfl rfl rfl rfl rfl rfl rfl rfl rfl rfl rfl rfl ?_ | refine Zo rfl rfl rfl rfl rfl rfl rfl rfl rfl rfl rfl rfl rfl rfl rfl ?_ | refine YM rfl rfl rfl rfl rfl rfl rfl rfl rfl rfl rfl rfl rfl rfl rfl rfl ?_) | ((refine Qc ?_);first | (refine Qn rfl (aw _) ?_;rintro v h0 ⟨rfl,rfl⟩) | (refine Qn rfl k10 ?_;rintro v h1 ⟨e1,rfl⟩) | refine Xt rfl rfl rfl ?_ | refine Xo rfl ?_ | refine k_skipU rfl ?_ | refine QX rfl ?_ | refine Qm rfl ?_ | refine QY rfl rfl ?_ | refine QU rfl rfl ?_ | refine XZ rfl ?_ | refine Yh rfl ?_ | refine QM rfl rfl (by omega) ?_ | refine ZI rfl rfl (by omega) ?_ | refine ZJ rfl rfl (by omega) ?_ | refine Y1 rfl (by omega) ?_ | refine Jn rfl rfl (by omega) ?_ | refine Zw rfl rfl (by omega) ?_ | refine Yi rfl (by omega) ?_ | refine J4 rfl rfl ?_ | refine yb rfl rfl ?_ | refine Qw rfl rfl (by omega) ?_ | refine QE rfl rfl (by omega) ?_ | refine JA rfl rfl (fun hc=>?_) (fun hc=>?_) | refine Zj rfl rfl (by omega) ?_ | refine Y4 rfl rfl (by omega) ?_ | refine yc rfl rfl (fun hc=>?_) (fun hc=>?_) | refine XG rfl rfl (by omega) ?_ | refine XA rfl rfl (by omega) ?_ | refine JC rfl rfl (fun hc=>?_) (fun hc=>?_) | refine XK rfl rfl (by omega) ?_ | refine XH rfl rfl (by omega) ?_ | refine yd rfl rfl (fun hc=>?_) (fun hc=>?_) | refine Xt rfl rfl (by omega) ?_ | refine Xh rfl rfl (by omega) ?_ | refine JD rfl rfl (fun hc=>?_) (fun hc=>?_) | refine Yc rfl rfl (by omega) ?_ | refine X3 rfl rfl (by omega) ?_ | refine Jz rfl rfl (fun hc=>?_) (fun hc=>?_) | refine Qu rfl rfl ?_ | refine X6 rfl rfl ?_))
    exact ⟨.inr rfl,rfl⟩
  simp only [decide_eq_true hs,smN] at k10
  have hl:l.length≤1000:=by have:=hs.1;omega
  have hr:∀ r∈l,r.length≤1000∧∀ e∈r,smE e:=fun r hr=>by have:=hs.2 r hr;exact ⟨by have:=this.1;omega,this.2⟩
  have k12:=fun H (e:Ext h0 H)=>Qlr H l ls hl (em.ext e) hr
  have k13:=fun H (e:Ext h0 H)=>Qlq H l ls (by omega) (em.ext e) fun r h=>by have:=(hr r h).1;omega
  have ln:(mxE l).length=l.length:=List.length_map _
  by_cases hq:sqE l
  · have kr:=rokE hs hq
    have ks:=sqmE hs hq
    have fb:=Qh1 kr ln
    have k11:=fun H ms (e:PolMx H ms (mxE l))=>Qls 6 (mxE l) ms H e ks
    simp only [decide_eq_true hq] at k13
    have k18:=fun H (e:Ext h0 H)=>Qln H l ls hl (em.ext e) hr
    have k17:=fun H ms (e:MxF fR H ms (mxE l))=>QfK (n:=l.length) l.length (mxE l) (List.range' 0 l.length) kr (List.Sublist.refl _) ln (by simp) ms H (by rw [Qd1 kr.len];exact e)
    have nobig:¬ ∃ e,cM < (Uo (mxE l) e).natAbs:=by
      rintro ⟨e,he⟩
      have:=(fb e (fun h=>by rw [h] at he;simp at he)).2
      simp only [cM] at he;omega
    repeat' (first | refine Qg ?_ | refine Qb ?_ | refine QK ?_ | refine QL ?_ | refine Qt ?_ | refine QG ?_ | refine QC ?_ | refine Q9 ?_ | refine Qp ?_ | refine Qv ?_ | refine QH ?_ | refine Qf ?_ | refine Xb ?_ | refine Xq ?_ | refine Xr ?_ | (refine Zf ?_ ?_;rfl) | ((refine Qh ?_);first | refine Qk rfl ?_ | refine Qi rfl ?_) | ((refine Qe ?_);first | refine Xd ?_ | refine XI ?_ | refine XD ⟨_,rfl⟩ ?_ | refine XD (extA _ _ _) ?_ | refine XD (by assumption) ?_ | refine Jt ?_ | refine Qq rfl ?_ | refine Qy rfl rfl ?_ | refine QB rfl rfl rfl ?_ | refine QS rfl rfl rfl rfl ?_ | refine QO rfl rfl rfl rfl rfl ?_ | refine QD rfl rfl rfl rfl rfl rfl ?_ | refine Q4 rfl rfl rfl rfl rfl rfl rfl ?_ | refine Q8 rfl rfl rfl rfl rfl rfl rfl rfl ?_ | refine Xj rfl rfl rfl rfl rfl rfl rfl rfl rfl ?_ | refine Xu rfl rfl rfl rfl rfl rfl rfl rfl rfl rfl ?_ | refine XX rfl rfl rfl rfl rfl rfl rfl rfl rfl rfl rfl ?_ | refine XB rfl rfl rfl rfl rfl rfl rfl rfl rfl rfl rfl rfl ?_ | refine Ye rfl rfl rfl rfl rfl rfl rfl rfl rfl rfl rfl rfl rfl ?_ | refine ZE rfl rfl rfl rfl rfl rfl rfl rfl rfl rfl rfl rfl rfl rfl ?_ | refine Zo rfl rfl rfl rfl rfl rfl rfl rfl rfl rfl rfl rfl rfl rfl rfl ?_ | refine YM rfl rfl rfl rfl rfl rfl rfl rfl rfl rfl rfl rfl rfl rfl rfl rfl ?_) | ((refine Qc ?_);first | (refine Qn rfl (aw _) ?_;rintro v h0 ⟨rfl,rfl⟩) | (refine Qn rfl k10 ?_;rintro v h1 ⟨e1,rfl⟩) | refine Xh rfl rfl (by decide) ?_ | (refine Qn rfl (k12 _ e1) ?_;rintro v h2 ⟨e2,s2,rfl,sm2⟩;have x:=e1.trans e2) | (refine Qn rfl (k11 _ _ sm2.mx.pol) ?_;rintro v h3 ⟨e3,dr⟩;rcases dr with ⟨s3,ts,rfl,d3,can,bd,hcf⟩ | ⟨hbig,rfl⟩;rotate_left;exact absurd hbig nobig;replace x:=x.trans e3;have g3:GP (Uo (mxE l)) ⟨false,ts⟩:=⟨rfl,can,hcf⟩) | refine k_ext rfl rfl ?_ | (refine Xz ?_;intro h4 e4 c4;have nx:=x.len;replace d3:=d3.ext e4;replace x:=x.trans e4) | (refine Xw rfl rfl c4 ?_;intro h5 w5;replace c4:=w5.cel;replace d3:=d3.wrC w5;replace x:=w5.ext x nx) | refine Xo rfl ?_ | refine k_skipU rfl ?_ | refine QX rfl ?_ | refine Qm rfl ?_ | refine QY rfl rfl ?_ | refine QU rfl rfl ?_ | refine XZ rfl ?_ | refine Yh rfl ?_ | refine QM rfl rfl (by omega) ?_ | refine ZI rfl rfl (by omega) ?_ | refine ZJ rfl rfl (by omega) ?_ | refine Y1 rfl (by omega) ?_ | refine Jn rfl rfl (by omega) ?_ | refine Zw rfl rfl (by omega) ?_ | refine Yi rfl (by omega) ?_ | refine J4 rfl rfl ?_ | refine yb rfl rfl ?_ | refine Qw rfl rfl (by omega) ?_ | refine QE rfl rfl (by omega) ?_ | refine JA rfl rfl (fun hc=>?_) (fun hc=>?_) | refine Zj rfl rfl (by omega) ?_ | refine Y4 rfl rfl (by omega) ?_ | refine yc rfl rfl (fun hc=>?_) (fun hc=>?_) | refine XG rfl rfl (by omega) ?_ | refine XA rfl rfl (by omega) ?_ | refine JC rfl rfl (fun hc=>?_) (fun hc=>?_) | refine XK rfl rfl (by omega) ?_ | refine XH rfl rfl (by omega) ?_ | refine yd rfl rfl (fun hc=>?_) (fun hc=>?_) | refine Xt rfl rfl (by omega) ?_ | refine Xh rfl rfl (by omega) ?_ | refine JD rfl rfl (fun hc=>?_) (fun hc=>?_) | refine Yc rfl rfl (by omega) ?_ | refine X3 rfl rfl (by omega) ?_ | refine Jz rfl rfl (fun hc=>?_) (fun hc=>?_) | refine Qu rfl rfl ?_ | refine X6 rfl rfl ?_))
    have b3:=g3.bd fb
    have l3:=g3.len fb
    have k15:=fun H (e:IsD H s3 (tms ts))=>Qlp H s3 [116] (by decide) ⟨false,ts⟩ e (by omega) (fun t ht=>by have:=(b3 t ht).2;simp only [cM];omega) (fun t ht=>by have:=(b3 t ht).1;simp only [eM];omega)
    have k16:=fun H p s (g:GP (Uo (mxE l)) p) (e:IsD H s (tms p.ts))=>Qlo H false s [116] (by decide) p g.nb e (by have:=g.len fb;omega) (fun t ht=>by have:=(g.bd fb t ht).2;simp only [cM];omega) (fun t ht=>by have:=(g.bd fb t ht).1;simp only [eM];omega)
    have hdet:dL ((mxE l).map rT) (List.range' 0 l.length)=Uo (mxE l):=by unfold Uo;rw [ln]
    rw [hdet] at k17
    have heq:decide (JX [116] ⟨false,ts⟩=JX [116] ⟨false,ts⟩)=true:=by simp
    repeat' (first | refine Qg ?_ | refine Qb ?_ | refine QK ?_ | refine QL ?_ | refine Qt ?_ | refine QG ?_ | refine QC ?_ | refine Q9 ?_ | refine Qp ?_ | refine Qv ?_ | refine QH ?_ | refine Qf ?_ | refine Xb ?_ | refine Xq ?_ | refine Xr ?_ | (refine Zf ?_ ?_;rfl) | ((refine Qh ?_);first | refine Qk rfl ?_ | refine Qi rfl ?_) | ((refine Qe ?_);first | refine Xd ?_ | refine XI ?_ | refine XD ⟨_,rfl⟩ ?_ | refine XD (extA _ _ _) ?_ | refine XD (by assumption) ?_ | refine Jt ?_ | refine Qq rfl ?_ | refine Qy rfl rfl ?_ | refine QB rfl rfl rfl ?_ | refine QS rfl rfl rfl rfl ?_ | refine QO rfl rfl rfl rfl rfl ?_ | refine QD rfl rfl rfl rfl rfl rfl ?_ | refine Q4 rfl rfl rfl rfl rfl rfl rfl ?_ | refine Q8 rfl rfl rfl rfl rfl rfl rfl rfl ?_ | refine Xj rfl rfl rfl rfl rfl rfl rfl rfl rfl ?_ | refine Xu rfl rfl rfl rfl rfl rfl rfl rfl rfl rfl ?_ | refine XX rfl rfl rfl rfl rfl rfl rfl rfl rfl rfl rfl ?_ | refine XB rfl rfl rfl rfl rfl rfl rfl rfl rfl rfl rfl rfl ?_ | refine Ye rfl rfl rfl rfl rfl rfl rfl rfl rfl rfl rfl rfl rfl ?_ | refine ZE rfl rfl rfl rfl rfl rfl rfl rfl rfl rfl rfl rfl rfl rfl ?_ | refine Zo rfl rfl rfl rfl rfl rfl rfl rfl rfl rfl rfl rfl rfl rfl rfl ?_ | refine YM rfl rfl rfl rfl rfl rfl rfl rfl rfl rfl rfl rfl rfl rfl rfl rfl ?_) | ((refine Qc ?_);first | (refine Qn rfl (k13 _ x) ?_;rintro v h6 ⟨rfl,rfl⟩) | refine Xt rfl rfl rfl ?_ | refine Xa rfl c4 ?_ | (refine Qn rfl (k15 _ d3) ?_;rintro v h7 ⟨e7,rfl⟩;replace x:=x.trans e7) | (refine Qn rfl (k18 _ x) ?_;rintro v h8 ⟨e8,s8,rfl,sm8⟩;replace x:=x.trans e8) | (refine Qn rfl (k17 _ _ sm8.mx) ?_;rintro v h9 ⟨e9,p9,s9,rfl,d9,g9⟩;have g9e:=g9.eq g3) | (refine Qn rfl (k16 _ _ _ g9 d9) ?_;rintro v h10 ⟨e10,rfl⟩;rw [g9e]) | refine QkI rfl rfl heq ?_ | refine Xo rfl ?_ | refine k_skipU rfl ?_ | refine QX rfl ?_ | refine Qm rfl ?_ | refine QY rfl rfl ?_ | refine QU rfl rfl ?_ | refine XZ rfl ?_ | refine Yh rfl ?_ | refine QM rfl rfl (by omega) ?_ | refine ZI rfl rfl (by omega) ?_ | refine ZJ rfl rfl (by omega) ?_ | refine Y1 rfl (by omega) ?_ | refine Jn rfl rfl (by omega) ?_ | refine Zw rfl rfl (by omega) ?_ | refine Yi rfl (by omega) ?_ | refine J4 rfl rfl ?_ | refine yb rfl rfl ?_ | refine Qw rfl rfl (by omega) ?_ | refine QE rfl rfl (by omega) ?_ | refine JA rfl rfl (fun hc=>?_) (fun hc=>?_) | refine Zj rfl rfl (by omega) ?_ | refine Y4 rfl rfl (by omega) ?_ | refine yc rfl rfl (fun hc=>?_) (fun hc=>?_) | refine XG rfl rfl (by omega) ?_ | refine XA rfl rfl (by omega) ?_ | refine JC rfl rfl (fun hc=>?_) (fun hc=>?_) | refine XK rfl rfl (by omega) ?_ | refine XH rfl rfl (by omega) ?_ | refine yd rfl rfl (fun hc=>?_) (fun hc=>?_) | refine Xt rfl rfl (by omega) ?_ | refine Xh rfl rfl (by omega) ?_ | refine JD rfl rfl (fun hc=>?_) (fun hc=>?_) | refine Yc rfl rfl (by omega) ?_ | refine X3 rfl rfl (by omega) ?_ | refine Jz rfl rfl (fun hc=>?_) (fun hc=>?_) | refine Qu rfl rfl ?_ | refine X6 rfl rfl ?_))
    exact ⟨.inr rfl,rfl⟩
  · simp only [decide_eq_false hq] at k13
    have hq2:¬ (yg (mxE l)∧(mxE l).length=Y2 (mxE l)):=fun ⟨h1,h2⟩=>hq fun r hr2=>by
      have h3:=h1 (r.map PE) (List.mem_map.2 ⟨r,hr2,rfl⟩)
      rw [← h2,ln,List.length_map] at h3
      exact h3
    have k11:=fun H ms (e:PolMx H ms (mxE l))=>Qie (mxE l) ms H e (by have:=hs.1;omega) (fun r hr2=>by
      obtain ⟨q,hq,rfl⟩:=List.mem_map.1 hr2
      rw [List.length_map];have:=(hs.2 q hq).1;omega) hq2
    have k14:=fun H=>QfL H false .nilS [] (IsD.nil H)
    repeat' (first | refine Qg ?_ | refine Qb ?_ | refine QK ?_ | refine QL ?_ | refine Qt ?_ | refine QG ?_ | refine QC ?_ | refine Q9 ?_ | refine Qp ?_ | refine Qv ?_ | refine QH ?_ | refine Qf ?_ | refine Xb ?_ | refine Xq ?_ | refine Xr ?_ | (refine Zf ?_ ?_;rfl) | ((refine Qh ?_);first | refine Qk rfl ?_ | refine Qi rfl ?_) | ((refine Qe ?_);first | refine Xd ?_ | refine XI ?_ | refine XD ⟨_,rfl⟩ ?_ | refine XD (extA _ _ _) ?_ | refine XD (by assumption) ?_ | refine Jt ?_ | refine Qq rfl ?_ | refine Qy rfl rfl ?_ | refine QB rfl rfl rfl ?_ | refine QS rfl rfl rfl rfl ?_ | refine QO rfl rfl rfl rfl rfl ?_ | refine QD rfl rfl rfl rfl rfl rfl ?_ | refine Q4 rfl rfl rfl rfl rfl rfl rfl ?_ | refine Q8 rfl rfl rfl rfl rfl rfl rfl rfl ?_ | refine Xj rfl rfl rfl rfl rfl rfl rfl rfl rfl ?_ | refine Xu rfl rfl rfl rfl rfl rfl rfl rfl rfl rfl ?_ | refine XX rfl rfl rfl rfl rfl rfl rfl rfl rfl rfl rfl ?_ | refine XB rfl rfl rfl rfl rfl rfl rfl rfl rfl rfl rfl rfl ?_ | refine Ye rfl rfl rfl rfl rfl rfl rfl rfl rfl rfl rfl rfl rfl ?_ | refine ZE rfl rfl rfl rfl rfl rfl rfl rfl rfl rfl rfl rfl rfl rfl ?_ | refine Zo rfl rfl rfl rfl rfl rfl rfl rfl rfl rfl rfl rfl rfl rfl rfl ?_ | refine YM rfl rfl rfl rfl rfl rfl rfl rfl rfl rfl rfl rfl rfl rfl rfl rfl ?_) | ((refine Qc ?_);first | (refine Qn rfl (aw _) ?_;rintro v h0 ⟨rfl,rfl⟩) | (refine Qn rfl k10 ?_;rintro v h1 ⟨e1,rfl⟩) | refine Xh rfl rfl (by decide) ?_ | (refine Qn rfl (k12 _ e1) ?_;rintro v h2 ⟨e2,s2,rfl,sm2⟩;have x:=e1.trans e2) | (refine Qn rfl (k11 _ _ sm2.mx.pol) ?_;rintro v h3 ⟨e3,rfl⟩;replace x:=x.trans e3) | refine k_ext rfl rfl ?_ | (refine Xz ?_;intro h4 e4 c4;have nx:=x.len;replace x:=x.trans e4) | (refine Xw rfl rfl c4 ?_;intro h5 w5;replace c4:=w5.cel;replace x:=w5.ext x nx) | (refine Qn rfl (k13 _ x) ?_;rintro v h6 ⟨rfl,rfl⟩) | refine Xt rfl rfl rfl ?_ | refine Xa rfl c4 ?_ | (refine Qn rfl (k14 _) ?_;rintro v h7 ⟨e7,rfl⟩) | refine Xo rfl ?_ | refine k_skipU rfl ?_ | refine QX rfl ?_ | refine Qm rfl ?_ | refine QY rfl rfl ?_ | refine QU rfl rfl ?_ | refine XZ rfl ?_ | refine Yh rfl ?_ | refine QM rfl rfl (by omega) ?_ | refine ZI rfl rfl (by omega) ?_ | refine ZJ rfl rfl (by omega) ?_ | refine Y1 rfl (by omega) ?_ | refine Jn rfl rfl (by omega) ?_ | refine Zw rfl rfl (by omega) ?_ | refine Yi rfl (by omega) ?_ | refine J4 rfl rfl ?_ | refine yb rfl rfl ?_ | refine Qw rfl rfl (by omega) ?_ | refine QE rfl rfl (by omega) ?_ | refine JA rfl rfl (fun hc=>?_) (fun hc=>?_) | refine Zj rfl rfl (by omega) ?_ | refine Y4 rfl rfl (by omega) ?_ | refine yc rfl rfl (fun hc=>?_) (fun hc=>?_) | refine XG rfl rfl (by omega) ?_ | refine XA rfl rfl (by omega) ?_ | refine JC rfl rfl (fun hc=>?_) (fun hc=>?_) | refine XK rfl rfl (by omega) ?_ | refine XH rfl rfl (by omega) ?_ | refine yd rfl rfl (fun hc=>?_) (fun hc=>?_) | refine Xt rfl rfl (by omega) ?_ | refine Xh rfl rfl (by omega) ?_ | refine JD rfl rfl (fun hc=>?_) (fun hc=>?_) | refine Yc rfl rfl (by omega) ?_ | refine X3 rfl rfl (by omega) ?_ | refine Jz rfl rfl (fun hc=>?_) (fun hc=>?_) | refine Qu rfl rfl ?_ | refine X6 rfl rfl ?_))
    exact ⟨.inr rfl,rfl⟩
end
theorem call3 (h0:Qa) (ls:SV) (l:List (List Ent)) (em:EMx h0 ls l):∃ v h',Cal FT (@HKt ⟨true⟩) 3 [.sc ls] h0 v h'∧v=.sc (.bool true):=@Qli ⟨true⟩ Qa7 h0 ls l em
end Go.Proofs.YtofknpknogfijaaGreatDoor



namespace Go.Proofs.YtofknpknogfijaaGreatDoor.polymatrixDet
open Go.ChangeShapes Go.WideShapes Go.ChangeAt Go.RowKit
open Go.ChangeMaps (open_string shut_string)
set_option linter.unusedVariables false
theorem own:ownKnob Tryz.prog.godebug=none:=by kernel_rfl
theorem QhM:laidOutB Tryz.prog=true:=by kernel_rfl
theorem walk (a0:Option Addr) (len0 cap0:Nat) (d0:List (List Ent)) (w:World) (w0:Go.Ab.CsOK w (RMx d0) [.slice a0 len0 cap0]) (hF:Facts w) :
    Calls Tryz.prog 3 #[.slice a0 len0 cap0] w fun e w'=>e=.returned (.bool true)∧Below w.heap.size w w':=by
  letI:Go.Ab.Base:=⟨w.heap.size,w⟩
  obtain ⟨Ls,H,ss,hl,hf,hb,hr⟩:=Go.Ab.CsOK.top w0
  have r0:=hr
  obtain ⟨s0,es0,x0⟩:=RMx.ok r0
  subst es0
  rcases hf with _ | ⟨q0,hf⟩
  obtain ⟨v,h',⟨N,hN⟩,rfl⟩:=call3 H s0 d0 x0
  exact Go.Ab.top_belowR yf (Qmo w hF) (Ls:=Ls) (h:=H) hl ⟨Nat.le_refl _,fun _ _=>rfl⟩ hb (.cons (.sc q0) .nil) (hN N (Nat.le_refl _))
def UX:List (String × DataW Unit):=[("math/bits.deBruijn32tab", Rows.laid_math_bits_deBruijn32tab),("math/bits.deBruijn64tab", Rows.laid_math_bits_deBruijn64tab),("internal/strconv.uint64pow10", Rows.laid_internal_strconv_uint64pow10)]
theorem Qfv (os:Os) (args:Array Value):laidMetH Tryz.prog UX ((World.laidAll Tryz.prog os UX).forCall (fun _ _=>0) ⟨#[],args,[]⟩).memory:=by
  rw [MakeChecks.laidMetH_plain _ _ _ (by kernel_rfl)];exact laidMet_laidAll _ (by kernel_rfl) (by kernel_rfl)
theorem facts {W:World} (hsh:W.ShapedOpen Tryz.prog) (hL:laidMetH Tryz.prog UX W):Facts W:=by
  rw [MakeChecks.laidMetH_plain _ _ _ (by kernel_rfl)] at hL
  have hl:laidMet Tryz.prog [("math/bits.deBruijn32tab", Rows.laid_math_bits_deBruijn32tab),("math/bits.deBruijn64tab", Rows.laid_math_bits_deBruijn64tab),("internal/strconv.uint64pow10", Rows.laid_internal_strconv_uint64pow10)] W:=hL
  refine ⟨?_,?_⟩
  · have e:Rows.laid_internal_strconv_uint64pow10=(Lib.tabData .u64 Lib.pow10Tab:DataW Unit):=by kernel_rfl
    have h3:=hl.tail.tail
    rw [e] at h3
    exact Lib.tabIs_of_head (g:=2) (by kernel_rfl) (by kernel_rfl) Tryz.underlying193 Tryz.underlying99 (by kernel_rfl) (by kernel_rfl) h3
  · have e:Rows.laid_math_bits_deBruijn64tab=(Lib.tabData .u8 Qc2:DataW Unit):=by kernel_rfl
    have h3:=hl.tail
    rw [e] at h3
    exact Lib.tabIs_of_head (g:=3) (by kernel_rfl) (by kernel_rfl) Tryz.underlying202 Tryz.underlying5 (by kernel_rfl) (by kernel_rfl) h3
set_option maxRecDepth 100000 in
theorem QeS (os:Os) (started:os.Started) (H:Type) (enc:TypeId × Value→H) :
    ReturnsInHanded {} Tryz.checked os 3 .any (fun w args=>(Rows.polymatrixDetSpec.pre enc Tryz.prog Tryz.f3 [] false w args∧laidMetH Tryz.prog UX w)∧sizedMet enc Tryz.prog Tryz.f3 (OpenSpec.ofChange Rows.polymatrixDetSpec) false w args)
      (Rows.polymatrixDetSpec.post enc Tryz.prog Tryz.f3 false true false false):=by
  refine returnsInHanded_of_calls (C:=Tryz.checked) own started (by kernel_rfl)
    (ChangeSpec.witness_shaped (enc:=enc) (C:=Tryz.checked) (os:=os) (X:=fun w _=>laidMetH Tryz.prog UX w) false (World.laidAll Tryz.prog os UX) #[.slice none 0 0] 8 (World.laidAll_os _ _ _) (World.shaped_of_ZipB (by kernel_rfl) (by kernel_rfl)) (by kernel_rfl) (by kernel_rfl) (by kernel_rfl) (Qfv os _)) ?_
  intro w0 tape i0 _ hsh _ hok hpre _
  obtain ⟨_,_,_,fn',hfn',_,_,_,_,hval0⟩:=hok
  obtain rfl:fn'=Tryz.f3:=Option.some.inj (hfn'.symm.trans Tryz.func3)
  obtain ⟨⟨⟨ds,gs,before,hw0,hc⟩,hx⟩,hz⟩:=hpre
  have hW:=DataW.Whole.of_heap (w':=w0.forCall tape i0) (by rfl) hw0
  have hP:=facts hsh (laidMetH.of_heap (w':=w0.forCall tape i0) (by rfl) hx)
  generalize w0.heap.size=base at hval0
  clear hw0 hx hz hc hsh
  generalize w0.forCall tape i0=W at *
  generalize i0.args=args at *
  have hval:∀ (j:Nat) t v,Tryz.f3.params[j]?=some t→args[j]?=some v→Value.okWide Tryz.prog W .any base t v:=hval0
  have hW':=hW
  obtain ⟨p,q,hA0,hV,rfl,hfz,hnd⟩:=hW
  have hA:DataW.TrodAll enc Tryz.prog W 0 (fun _=>true) true Tryz.f3.params.toList args.toList ds p:=hA0
  rw [Tryz.params3] at hA hval
  obtain ⟨v0,vs0,d0,ds0,p0,q0,hargs,rfl,rfl,h0,r0⟩:=trodAll_cons hA
  obtain ⟨rfl,rfl,rfl⟩:=trodAll_nil r0
  obtain rfl:args=#[v0]:=by cases args;simp_all
  obtain ⟨rfl,rfl⟩:=trodVars_none hV
  have k0:=h0
  have lt0:∀ x∈p0,x.block < W.heap.size:=by obtain ⟨m,hm⟩:=k0;exact DataW.trod_lt m _ _ _ hm
  obtain ⟨a0,len0,cap0,rfl⟩:=okWide_slice Tryz.underlying22 (hval 0 22 v0 rfl rfl)
  obtain ⟨d0,w0⟩:∃ d,Go.Ab.CsOK W (RMx d) [.slice a0 len0 cap0]:=by
    obtain ⟨fuel,hf⟩:=k0
    have:=((QjX Tryz.underlying22 (by kernel_rfl) (QgX Tryz.underlying52 (by kernel_rfl) (QgY Tryz.underlying44 ⟨rfl,rfl⟩ ⟨rfl,rfl⟩ Tryz.underlying3 Tryz.underlying42 (by kernel_rfl) (by kernel_rfl) (by kernel_rfl)))) fuel _ _ hf).2
    simpa [Value.cells] using this
  clear hA0 hval0
  refine (walk a0 len0 cap0 d0 W w0 hP).mono fun e W' ⟨he,bel⟩=>?_
  subst he
  refine ChangeSpec.post_blind ?_
  exact ⟨_,_,_,[],_,[],hW',trodAll_mk1 (shut_bool Tryz.underlying4 _),(trodAll_cons_mk (Below.trod QhM (by kernel_rfl) (of_decide_eq_true (by kernel_rfl)) k0 bel lt0) trodAll_mk0),rfl,bel.frame _,fun h=>by cases h⟩
theorem Qbs:Rows.polymatrixDetRow.holds Tryz.pinned (OpenSpec.ofChange Rows.polymatrixDetSpec) :=
  OpenClaim.holds_of_wide 3 Tryz.f3 rfl rfl rfl rfl rfl rfl rfl ⟨rfl,rfl,rfl,rfl,rfl⟩ rfl rfl rfl rfl rfl (by kernel_rfl) Tryz.func3 (by kernel_rfl)
    (of_decide_eq_true (by kernel_rfl)) (by unfold Func.isWrapper;first | (rw [if_pos (by decide +kernel)];kernel_rfl) | (rw [if_neg (by decide +kernel)];exact ⟨rfl,rfl⟩))
    (fun os started H enc _=>QeS os started H enc)
theorem polymatrixDet_proved:Rows.PolymatrixDetCardSaid :=
  Claim7.holds_tied_plain_at .later [] [.data,.data,.data] true (true, "3a1cc6b549df5b98f0eda777768ad5c0d60734d5a6a34ceb246611653118709d") false
    Qbs (fun _ h=>by cases h) (by kernel_rfl) (fun _ h=>by cases h) polymatrixDet_row_tie rfl ⟨rfl,rfl⟩ (by kernel_rfl) rfl
    (fun f fn hf hfn=>by
      obtain rfl:f=3:=Option.some.inj ((show Tryz.prog.funcNamed "unravel/unravellaw24.PolymatrixDet" = some 3 by kernel_rfl).symm.trans hf) |>.symm
      obtain rfl:fn=Tryz.f3:=(Option.some.inj (Tryz.func3.symm.trans hfn)).symm
      exact ⟨by kernel_rfl,fun j t ht=>by
        rw [Tryz.params3] at ht
        have hm:t∈[22]:=by simpa using Array.mem_of_getElem? ht
        have hall:([22].all fun u=>!Tryz.prog.wantsStandIn u)=true:=by kernel_rfl
        exact (show Tryz.prog.wantsStandIn t=false by simpa using List.all_eq_true.1 hall t hm)⟩)
    (by kernel_rfl)
#print axioms polymatrixDet_proved
end Go.Proofs.YtofknpknogfijaaGreatDoor.polymatrixDet

