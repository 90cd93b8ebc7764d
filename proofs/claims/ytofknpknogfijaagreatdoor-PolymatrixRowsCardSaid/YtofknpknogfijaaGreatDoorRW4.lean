/- PolymatrixRows: its loop. -/
import Derived.Test.YtofknpknogfijaaGreatDoorRW2
import Derived.Test.YtofknpknogfijaaGreatDoorSP3
import Derived.Test.YtofknpknogfijaaGreatDoorC3
import Derived.Test.YtofknpknogfijaaGreatDoorAb50
import Derived.Test.YtofknpknogfijaaGreatDoorLW1
import Derived.Test.YtofknpknogfijaaGreatDoorAb51
import Derived.Test.YtofknpknogfijaaGreatDoorPE
import Derived.Test.YtofknpknogfijaaGreatDoorMN2
namespace Go.Proofs.YtofknpknogfijaaGreatDoor
open Go.Ab
set_option linter.all false
set_option maxHeartbeats 16000000
set_option maxRecDepth 20000
attribute [local irreducible] Ql wA Xr Xp QA Qp QW QY
variable [HB]
structure L4 (n q12 q19:Nat) (t12 t19:SV) (P F:Pol) (s:Nat→SV) (lo:Nat→Nat) (M:Nat→Nat→Nat→Pol) (h:Qa):Prop where
 mx:∀ t,t < 5→MX (lo t) (lo (t+1)) h (s t) n (M t)
 mo:∀ a b,a≤b→lo a≤lo b
 c12:Cel h q12 (.bool P.big) t12
 d12:IsD h t12 (tms P.ts)
 c19:Cel h q19 (.bool F.big) t19
 d19:IsD h t19 (tms F.ts)
section
variable {n q12 q19:Nat} {t12 t19:SV} {P F:Pol} {s:Nat→SV} {lo:Nat→Nat} {M M':Nat→Nat→Nat→Pol} {h h':Qa}
theorem L4.ext (L:L4 n q12 q19 t12 t19 P F s lo M h) (e:Ext h h'):L4 n q12 q19 t12 t19 P F s lo M h' :=
 ⟨fun t ht=>(L.mx t ht).ext e,L.mo,L.c12.ext e,L.d12.ext e,L.c19.ext e,L.d19.ext e⟩
theorem L4.cong (L:L4 n q12 q19 t12 t19 P F s lo M h) (e:∀ t,t < 5→M t=M' t):L4 n q12 q19 t12 t19 P F s lo M' h :=
 ⟨fun t ht=>by rw [← e t ht];exact L.mx t ht,L.mo,L.c12,L.d12,L.c19,L.d19⟩
theorem Cel.oth {q id:Nat} {a b:SV} {b0 b':Blk} (c:Cel h q a b) (hb:h[id]?=some b0) (h2:b0.esz≠0):Cel (h.set id b') q a b:=by
 have hne:id≠q:=fun e=>by
  subst e
  unfold Cel at c
  rw [c] at hb
  obtain rfl:=Option.some.inj hb
  exact h2 rfl
 unfold Cel at c ⊢
 rw [Gj hne];exact c
theorem L4.set (L:L4 n q12 q19 t12 t19 P F s lo M h) {i0:Nat} (hi0:i0 < 5) {ids:Nat→Nat} {caps:Nat→Option Nat} {U:Nat→Nat→SV} (sl:IsSl h (s i0) 1 n ((List.range n).map (hdR n ids caps))) (r:RX (lo i0) (lo (i0+1)) h n n (M i0) ids U) {a c:Nat} (ha:a < n) {p:Pol} {t:SV} (d:IsD h t (tms p.ts)) :
  L4 n q12 q19 t12 t19 P F s lo (fun x=>if x=i0 then upd (M i0) a c p else M x) (h.set (ids a) (.cells (prs ((rwC n (M i0 a) (U a)).set c (fL p t))) true 2)):=by
 have ki:=r.ki ha (prs ((rwC n (M i0 a) (U a)).set c (fL p t)))
 obtain ⟨b1,b2,b3⟩:=r.b a ha
 refine ⟨fun t ht=>?_,L.mo,Cel.oth L.c12 b3 (show (2:ESz)≠0 by decide),IsD.ki L.d12 ki,Cel.oth L.c19 b3 (show (2:ESz)≠0 by decide),IsD.ki L.d19 ki⟩
 by_cases e:t=i0
 ·subst e
  simp only [if_pos]
  exact MX.set sl r ha d
 ·simp only [if_neg e]
  refine (L.mx t ht).oth b3 (show (2:ESz)≠1 by decide) (.inr ?_) ki
  rcases Gw t i0 with h1 | h1
  ·have:=L.mo (t+1) i0 (by omega);omega
  ·have:=L.mo (i0+1) t (by omega);omega
end
def cJ (M:Nat→Nat→Pol) (i k j:Nat):Nat→Nat→Pol:=fun a=>if a < j then fun c=>M a (sw i k c) else M a
def gJ (M:Nat→Nat→Pol) (i:Nat) (g:Nat→Pol) (j:Nat):Nat→Nat→Pol:=fun a=>if a=i then fun c=>if c < j then g c else M i c else M a
noncomputable def Mv (M:Nat→Nat→Pol) (i k:Nat) (F:Pol) (b1 b2 b3 b4:Nat):Nat→Nat→Nat→Pol
 | 0=>fun a=>M (sw i k a)
 | 1=>cJ M i k b1
 | 2=>gJ M i (fun c=>Je (M i c) (M k c)) b2
 | 3=>gJ M i (M k) b3
 | _=>gJ M i (fun c=>Yl (M i c) F) b4
theorem Qfk {M:Nat→Nat→Pol} {i k j:Nat} (hik:i≠k):upd (upd (cJ M i k j) j i (M j k)) j k (M j i)=cJ M i k (j+1):=by
 funext a c
 by_cases e:a=j
 ·subst e
  simp only [upd,cJ,if_pos,if_neg (Nat.lt_irrefl a),if_pos (Nat.lt_succ_self a),sw]
  by_cases e1:c=k
  ·subst e1;rw [if_pos rfl,if_neg (Ne.symm hik)];simp
  ·rw [if_neg e1]
   by_cases e2:c=i
   ·rw [if_pos e2,if_pos e2]
   ·rw [if_neg e2,if_neg e2,if_neg e1]
 ·simp only [upd,cJ,if_neg e]
  by_cases e1:a < j
  ·rw [if_pos e1,if_pos (by omega)]
  ·rw [if_neg e1,if_neg (by omega)]
theorem VV {M:Nat→Nat→Pol} {i j:Nat} {g:Nat→Pol}:upd (gJ M i g j) i j (g j)=gJ M i g (j+1):=by
 funext a c
 by_cases e:a=i
 ·subst e
  simp only [upd,gJ,if_pos]
  by_cases e1:c=j
  ·subst e1;rw [if_pos rfl,if_pos (by omega)]
  ·rw [if_neg e1]
   by_cases e2:c < j
   ·rw [if_pos e2,if_pos (by omega)]
   ·rw [if_neg e2,if_neg (by omega)]
 ·simp only [upd,gJ,if_neg e]
def I4 (n i k q12 q19:Nat) (t12 t19:SV) (P F:Pol) (s:Nat→SV) (lo:Nat→Nat) (M:Nat→Nat→Pol) (kk:Nat) (E:Env) (h:Qa):Prop:=∃ j,j≤n∧kk=n-j∧L4 n q12 q19 t12 t19 P F s lo (Mv M i k F j j j j) h ∧
 E.keep [9,10,11,12,13,14,15,16,17,18,19,20]=[(9,some (.sc (.int .i64 (n:Nat)))),(10,some (.sc (.int .i64 (i:Nat)))),(11,some (.sc (.int .i64 (k:Nat)))),(12,some (.sc (.ptr q12 0))),(13,some (.sc (.int .i64 0))),(14,some (.sc (s 0))),(15,some (.sc (s 1))),(16,some (.sc (s 2))),(17,some (.sc (s 3))),(18,some (.sc (s 4))),(19,some (.sc (.ptr q19 0))),(20,some (.sc (.int .i64 (j:Nat))))]
def R4 (n i k q12 q19:Nat) (t12 t19:SV) (P F:Pol) (s:Nat→SV) (lo:Nat→Nat) (M:Nat→Nat→Pol) (ex:Ex) (E:Env) (h:Qa):Prop:=ex=.ex 0∧L4 n q12 q19 t12 t19 P F s lo (Mv M i k F n n n n) h∧∃ (a9 a10 a11 a20 QhZ:Option AV),
 E=[(9,a9),(10,a10),(11,a11),(12,some (.sc (.ptr q12 0))),(13,some (.sc (.int .i64 0))),(14,some (.sc (s 0))),(15,some (.sc (s 1))),(16,some (.sc (s 2))),(17,some (.sc (s 3))),(18,some (.sc (s 4))),(19,some (.sc (.ptr q19 0))),(20,a20),(103,QhZ)]
theorem QlD (n i k q12 q19:Nat) (t12 t19:SV) (P F:Pol) (s:Nat→SV) (lo:Nat→Nat) (M:Nat→Nat→Pol) (hn:n≤4) (hi:i < n) (hk:k < n) (hik:i≠k) (ok:∀ a c,a < n→c < n→EOk (M a c)) (okF:EOk F) (kk:Nat) (E:Env) (h:Qa) (hI:I4 n i k q12 q19 t12 t19 P F s lo M kk E h) :
  wA FT HKt b4L0 (E.keep [9,10,11,12,13,14,15,16,17,18,19,20]) h (Qp (I4 n i k q12 q19 t12 t19 P F s lo M) kk (R4 n i k q12 q19 t12 t19 P F s lo M)):=by
 obtain ⟨j,hj,rfl,L,hE⟩:=hI
 rw [hE]
 by_cases hlt:j < n
 ·
  obtain ⟨ids,caps,U,sl,r⟩:=L.mx 1 (by decide)
  obtain ⟨oid,off,cap,e1,rdo⟩:=UK sl hlt
  have rd1:=r.rd hlt hk
  have rd2:=r.rd hlt hi
  have eM:Mv M i k F j j j j 1 j=M j:=by show cJ M i k j j=_;unfold cJ;rw [if_neg (Nat.lt_irrefl _)]
  rw [eM] at rd1 rd2
  have d1:=r.d j k hlt hk
  have d2:=r.d j i hlt hi
  rw [eM] at d1 d2
  have hb:=(r.b j hlt).2.2
  have r1:=r.set (c:=i) hlt d1
  have sl1:=IsSl.setB sl (Qay sl hb (show (2:ESz)≠1 by decide)) (.cells (prs ((rwC n (Mv M i k F j j j j 1 j) (U j)).set i (fL (M j k) (U j k)))) true 2)
  have L1:=L.set (by decide) sl r (c:=i) hlt d1
  have d2':=IsD.ki d2 (r.ki hlt (prs ((rwC n (Mv M i k F j j j j 1 j) (U j)).set i (fL (M j k) (U j k)))))
  have hb1:=(r1.b j hlt).2.2
  have L2:=(L1.set (i0:=1) (by decide) sl1 (by simpa using r1) (c:=k) hlt d2').cong (M':=Mv M i k F (j+1) j j j) fun t ht=>by
   by_cases et:t=1
   ·subst et;simp only [if_pos];exact Qfk hik
   ·simp only [if_neg et]
    match t,ht,et with
    | 0,_,_=>rfl
    | 2,_,_=>rfl
    | 3,_,_=>rfl
    | 4,_,_=>rfl
  simp only [if_pos] at L2
  generalize hs1:s 1=S1 at *
  subst e1
  repeat' (first | refine Qg ?_ | refine Qb ?_ | refine Qv ?_ | refine Qn ?_ | refine Qf ?_ | refine Q2 ?_ | refine Xk ?_ | refine Xl ?_ | ((refine Qh ?_);refine Qj rfl ?_) | ((refine Qe ?_);first | refine Q1 ?_ | refine Xw ?_ | refine XC rfl rfl rfl rfl rfl rfl rfl rfl rfl rfl rfl rfl ?_ | refine Yy rfl rfl rfl rfl rfl rfl rfl rfl rfl rfl rfl rfl rfl ?_) | ((refine Qc ?_);first | (refine Qw (esz:=1) rfl rfl (by omega) ?_) | (refine Qw (esz:=2) rfl rfl (by omega) ?_) | refine Q4 rfl rdo ?_ | refine XX rfl rd1 ?_ | refine XX rfl rd2 ?_ | (refine Qbx rfl rfl hb (by rw [Zo];omega) ?_;intro h1 eh1) | (refine Qbx rfl rfl (by rw [eh1];exact hb1) (by rw [Zo];omega) ?_;intro h2 eh2) | refine Qo rfl ?_ | refine Qy rfl rfl (by omega) ?_))
  have L2h:L4 n q12 q19 t12 t19 P F s lo (Mv M i k F (j+1) j j j) h2:=by rw [eh2,eh1];exact L2
  clear L2 L1 hb1 d2' sl1 r1 hb rd1 rd2 d1 d2 eM
  obtain ⟨ids2,caps2,U2,sl2,r2⟩:=L2h.mx 2 (by decide)
  obtain ⟨oid2,off2,cap2,e2,rdi2⟩:=UK sl2 hi
  obtain ⟨oi2,of2,ca2,f2,rdk2⟩:=UK sl2 hk
  rw [e2] at f2
  obtain ⟨rfl,rfl,-,rfl⟩:=SV.slc.inj f2
  have ei2:Mv M i k F (j+1) j j j 2 i j=M i j:=by show gJ M i _ j i j=_;unfold gJ;rw [if_pos rfl,if_neg (Nat.lt_irrefl _)]
  have ek2:Mv M i k F (j+1) j j j 2 k j=M k j:=by show gJ M i _ j k j=_;unfold gJ;rw [if_neg (Ne.symm hik)]
  have ri2:=r2.rd hi hlt
  have rk2:=r2.rd hk hlt
  have di2:=r2.d i j hi hlt
  have dk2:=r2.d k j hk hlt
  rw [ei2] at ri2 di2
  rw [ek2] at rk2 dk2
  have hb2:=(r2.b i hi).2.2
  have k2:=QmG h2 (U2 i j) (U2 k j) (M i j) (M k j) di2 dk2 (ok i j hi hlt).pok (ok k j hk hlt).pok
  generalize hs2:s 2=S2 at *
  subst e2
  repeat' (first | refine Qg ?_ | refine Qb ?_ | refine Q2 ?_ | refine Xk ?_ | refine Xl ?_ | ((refine Qe ?_);first | refine Q1 ?_ | refine Xw ?_ | refine XZ (by assumption) ?_ | refine XC rfl rfl rfl rfl rfl rfl rfl rfl rfl rfl rfl rfl ?_) | ((refine Qc ?_);first | (refine Qw (esz:=1) rfl rfl (by omega) ?_) | (refine Qw (esz:=2) rfl rfl (by omega) ?_) | refine Q4 rfl rdi2 ?_ | refine Q4 rfl rdk2 ?_ | refine XX rfl ri2 ?_ | refine XX rfl rk2 ?_ | (refine Qi rfl k2 ?_;rintro v h2a ⟨x2,t2,rfl,d2⟩) | (refine Qbx rfl rfl (x2.get _ _ hb2) (by rw [Zo];omega) ?_;intro h2b eh2) | refine Qo rfl ?_))
  rw [← hs2] at sl2
  have L2b:=(L2h.ext x2).set (i0:=2) (by decide) (sl2.ext x2) (r2.ext x2 (Gf _)) (c:=j) hi d2
  have L2c:=L2b.cong (M':=Mv M i k F (j+1) (j+1) j j) fun t ht=>by
   by_cases et:t=2
   ·subst et;simp only [if_pos];exact VV
   ·simp only [if_neg et]
    match t,ht,et with
    | 0,_,_=>rfl
    | 1,_,_=>rfl
    | 3,_,_=>rfl
    | 4,_,_=>rfl
  have L2d:L4 n q12 q19 t12 t19 P F s lo (Mv M i k F (j+1) (j+1) j j) h2b:=by rw [eh2];exact L2c
  try rw [hs2]
  obtain ⟨ids3,caps3,U3,sl3,r3⟩:=L2d.mx 3 (by decide)
  obtain ⟨oid3,off3,cap3,e3,rdi3⟩:=UK sl3 hi
  obtain ⟨oi3,of3,ca3,f3,rdk3⟩:=UK sl3 hk
  rw [e3] at f3
  obtain ⟨rfl,rfl,-,rfl⟩:=SV.slc.inj f3
  have ei3:Mv M i k F (j+1) (j+1) j j 3 i j=M i j:=by show gJ M i _ j i j=_;unfold gJ;rw [if_pos rfl,if_neg (Nat.lt_irrefl _)]
  have ek3:Mv M i k F (j+1) (j+1) j j 3 k j=M k j:=by show gJ M i _ j k j=_;unfold gJ;rw [if_neg (Ne.symm hik)]
  have ri3:=r3.rd hi hlt
  have rk3:=r3.rd hk hlt
  have di3:=r3.d i j hi hlt
  have dk3:=r3.d k j hk hlt
  rw [ei3] at ri3 di3
  rw [ek3] at rk3 dk3
  have hb3:=(r3.b i hi).2.2
  generalize hs3:s 3=S3 at *
  subst e3
  repeat' (first | refine Qb ?_ | refine Q2 ?_ | refine Xk ?_ | refine Xl ?_ | ((refine Qe ?_);first | refine Q1 ?_ | refine Xw ?_ | refine XC rfl rfl rfl rfl rfl rfl rfl rfl rfl rfl rfl rfl ?_) | ((refine Qc ?_);first | (refine Qw (esz:=1) rfl rfl (by omega) ?_) | (refine Qw (esz:=2) rfl rfl (by omega) ?_) | refine Q4 rfl rdi3 ?_ | refine Q4 rfl rdk3 ?_ | refine XX rfl rk3 ?_ | (refine Qbx rfl rfl hb3 (by rw [Zo];omega) ?_;intro h3b eh3) | refine Qo rfl ?_))
  rw [← hs3] at sl3
  have L3b:=L2d.set (i0:=3) (by decide) sl3 r3 (c:=j) hi dk3
  have L3c:=L3b.cong (M':=Mv M i k F (j+1) (j+1) (j+1) j) fun t ht=>by
   by_cases et:t=3
   ·subst et;simp only [if_pos];exact VV
   ·simp only [if_neg et]
    match t,ht,et with
    | 0,_,_=>rfl
    | 1,_,_=>rfl
    | 2,_,_=>rfl
    | 4,_,_=>rfl
  have L3d:L4 n q12 q19 t12 t19 P F s lo (Mv M i k F (j+1) (j+1) (j+1) j) h3b:=by rw [eh3];exact L3c
  try rw [hs3]
  obtain ⟨ids4,caps4,U4,sl4,r4⟩:=L3d.mx 4 (by decide)
  obtain ⟨oid4,off4,cap4,e4,rdi4⟩:=UK sl4 hi
  obtain ⟨oi4,of4,ca4,f4,rdk4⟩:=UK sl4 hk
  rw [e4] at f4
  obtain ⟨rfl,rfl,-,rfl⟩:=SV.slc.inj f4
  have ei4:Mv M i k F (j+1) (j+1) (j+1) j 4 i j=M i j:=by show gJ M i _ j i j=_;unfold gJ;rw [if_pos rfl,if_neg (Nat.lt_irrefl _)]
  have ek4:Mv M i k F (j+1) (j+1) (j+1) j 4 k j=M k j:=by show gJ M i _ j k j=_;unfold gJ;rw [if_neg (Ne.symm hik)]
  have ri4:=r4.rd hi hlt
  have rk4:=r4.rd hk hlt
  have di4:=r4.d i j hi hlt
  have dk4:=r4.d k j hk hlt
  rw [ei4] at ri4 di4
  rw [ek4] at rk4 dk4
  have hb4:=(r4.b i hi).2.2
  have k4:=QdN h3b (U4 i j) t19 (M i j) F di4 L3d.d19 (ok i j hi hlt).pok okF.pok
  have c19:=L3d.c19
  generalize hs4:s 4=S4 at *
  subst e4
  repeat' (first | refine Qb ?_ | refine QJ ?_ | refine Qf ?_ | refine Xk ?_ | refine Xl ?_ | ((refine Qe ?_);first | refine Q1 ?_ | refine Xw ?_ | refine XZ (by assumption) ?_ | refine XC rfl rfl rfl rfl rfl rfl rfl rfl rfl rfl rfl rfl ?_) | ((refine Qc ?_);first | (refine Qw (esz:=1) rfl rfl (by omega) ?_) | (refine Qw (esz:=2) rfl rfl (by omega) ?_) | refine Q4 rfl rdi4 ?_ | refine XX rfl ri4 ?_ | refine QI rfl c19 ?_ | (refine Qi rfl k4 ?_;rintro v h4a ⟨x4,t4,rfl,d4⟩) | (refine Qbx rfl rfl (x4.get _ _ hb4) (by rw [Zo];omega) ?_;intro h4b eh4) | refine Qo rfl ?_ | refine QK rfl rfl (by omega) ?_))
  rw [← hs4] at sl4
  have L4b:=(L3d.ext x4).set (i0:=4) (by decide) (sl4.ext x4) (r4.ext x4 (Gf _)) (c:=j) hi d4
  have L4c:=L4b.cong (M':=Mv M i k F (j+1) (j+1) (j+1) (j+1)) fun t ht=>by
   by_cases et:t=4
   ·subst et;simp only [if_pos];exact VV
   ·simp only [if_neg et]
    match t,ht,et with
    | 0,_,_=>rfl
    | 1,_,_=>rfl
    | 2,_,_=>rfl
    | 3,_,_=>rfl
    | 4,_,et=>exact absurd rfl et
  have L4d:L4 n q12 q19 t12 t19 P F s lo (Mv M i k F (j+1) (j+1) (j+1) (j+1)) h4b:=by rw [eh4];exact L4c
  rw [← hs1,← hs2,← hs3,← hs4]
  exact QB (j:=n-(j+1)) (by omega) ⟨j+1,by omega,rfl,L4d,rfl⟩
 ·have:j=n:=by omega
  subst this
  repeat' (first | refine Qg ?_ | refine Qb ?_ | refine Q0 ?_ | refine QX ?_ | refine Qf ?_ | ((refine Qh ?_);refine Qk rfl ?_) | ((refine Qe ?_);refine Yy rfl rfl rfl rfl rfl rfl rfl rfl rfl rfl rfl rfl rfl ?_) | ((refine Qc ?_);first | refine Qo rfl ?_ | refine QM rfl rfl (by omega) ?_))
  exact QN ⟨rfl,L,_,_,_,_,_,rfl⟩
end Go.Proofs.YtofknpknogfijaaGreatDoor
namespace Go.Proofs.YtofknpknogfijaaGreatDoor
open Go.Ab
set_option linter.all false
abbrev Qj2:Int→Qa→List SV→Prop:=fun n _ ss=>ss=[.int .i64 n]∧(Lit.int .i64 n).wf=true
abbrev RIs:List Int→Qa→List SV→Prop:=fun ds h ss=>∃ s l,ss=[s]∧IsSl h s ⟨1,none⟩ ds.length l∧RL Qj2 ds h l
abbrev Qfa:Ent→Qa→List SV→Prop:=fun d h ss=>∃ l1 l2,ss=l1++l2∧Qj2 d.1 h l1∧RIs d.2 h l2
abbrev RRow:List Ent→Qa→List SV→Prop:=fun ds h ss=>∃ s l,ss=[s]∧IsSl h s ⟨2,none⟩ ds.length l∧RL Qfa ds h l
abbrev RMx:List (List Ent)→Qa→List SV→Prop:=fun ds h ss=>∃ s l,ss=[s]∧IsSl h s ⟨1,none⟩ ds.length l∧RL RRow ds h l
theorem Qc7:∀ {ds:List Int} {h:Qa} {l:List SV},RL Qj2 ds h l→l=ds.map (.int .i64)
 | [],h,l,e=>e
 | d::ds,h,l,⟨l1,l2,e,⟨a,_⟩,b⟩=>by rw [e,a,Qc7 b];rfl
theorem RIs.ok {ds:List Int} {h:Qa} {ss:List SV} (a:RIs ds h ss):∃ s,ss=[s]∧IsInts h s ds:=by
 obtain ⟨s,l,e,q,r⟩:=a
 rw [Qc7 r] at q
 exact ⟨s,e,q⟩
theorem Qc8:∀ {ds:List Ent} {h:Qa} {l:List SV},RL Qfa ds h l→∃ ts:List SV,ts.length=ds.length∧l=prs (List.zipWith (fun (p:Ent) t=>(SV.int .i64 p.1,t)) ds ts)∧∀ (i:Nat) (p:Ent) (t:SV),ds[i]?=some p→ts[i]?=some t→IsInts h t p.2
 | [],h,l,e=>⟨[],rfl,e,fun i p t a=>by simp at a⟩
 | d::ds,h,l,⟨l1,l2,e,⟨m1,m2,e2,⟨e3,_⟩,r⟩,b⟩=>by
  obtain ⟨ts,q1,q2,q3⟩:=Qc8 b
  obtain ⟨s,e4,hs⟩:=r.ok
  refine ⟨s::ts,by simp [q1],?_,fun i p t hi ht=>?_⟩
  ·rw [e,e2,e3,e4,q2];rfl
  ·cases i with
   | zero=>simp at hi ht;subst hi ht;exact hs
   | succ i=>exact q3 i p t (by simpa using hi) (by simpa using ht)
theorem RRow.ok {ds:List Ent} {h:Qa} {ss:List SV} (a:RRow ds h ss):∃ s,ss=[s]∧ERow h s ds:=by
 obtain ⟨s,l,e,q,r⟩:=a
 obtain ⟨ts,q1,q2,q3⟩:=Qc8 r
 refine ⟨s,e,ts,q1,?_,q3⟩
 unfold IsD
 rw [Hv,q1,Nat.min_self,← q2]
 exact q
theorem Qc6:∀ {ds:List (List Ent)} {h:Qa} {l:List SV},RL RRow ds h l→l.length=ds.length∧∀ (i:Nat) (t:SV) (r:List Ent),l[i]?=some t→ds[i]?=some r→ERow h t r
 | [],h,l,e=>by
  have:l=[]:=e
  subst this
  exact ⟨rfl,fun i t r a=>by simp at a⟩
 | d::ds,h,l,⟨l1,l2,e,a,b⟩=>by
  obtain ⟨q1,q2⟩:=Qc6 b
  obtain ⟨s,e1,hs⟩:=a.ok
  subst e1
  subst e
  refine ⟨by simp [q1],fun i t r hi hr=>?_⟩
  cases i with
  | zero=>simp at hi hr;subst hi hr;exact hs
  | succ i=>exact q2 i t r (by simpa using hi) (by simpa using hr)
theorem RMx.ok {ds:List (List Ent)} {h:Qa} {ss:List SV} (a:RMx ds h ss):∃ s,ss=[s]∧EMx h s ds:=by
 obtain ⟨s,l,e,q,r⟩:=a
 obtain ⟨q1,q2⟩:=Qc6 r
 refine ⟨s,e,l,q1,?_,q2⟩
 rw [q1]
 exact q
section
variable {H:Type} {enc:TypeId × Value→H} {P:Program} {w:World} {base:Nat} {held:Bool}
theorem QcS {te ti tl:TypeId} {f0 f1:Field} (he:P.underlying te=some (.struct #[f0,f1])) (h0:f0.type=ti∧f0.offset=0) (h1:f1.type=tl∧f1.offset=1) (hi:P.underlying ti=some (.int .i64)) (hl:P.underlying tl=some (.slice ti))
  (ci:P.cellsOf ti=1) (cl:P.cellsOf tl=1) (ce:P.cellsOf te=2):TOk enc P w base held te 2 Ent Qfa:=by
 have a:TOk enc P w base held ti 1 Int Qj2:=TOk.int hi
 have b:TOk enc P w base held tl 1 (List Int) RIs:=TOk.slice hl ci (by decide) a
 exact TOk.struct2 (c0:=1) (c1:=1) he ⟨h0.2,by rw [h0.1];exact ci⟩ ⟨h1.2,by rw [h1.1];exact cl⟩ ce (by rw [h0.1];exact a) (by rw [h1.1];exact b)
theorem Qiy {te tr:TypeId} (hr:P.underlying tr=some (.slice te)) (ce:P.cellsOf te=2) (a:TOk enc P w base held te 2 Ent Qfa):TOk enc P w base held tr 1 (List Ent) RRow:=TOk.slice hr ce (by decide) a
theorem Qle {tr tm:TypeId} (hm:P.underlying tm=some (.slice tr)) (cr:P.cellsOf tr=1) (a:TOk enc P w base held tr 1 (List Ent) RRow):TOk enc P w base held tm 1 (List (List Ent)) RMx:=TOk.slice hm cr (by decide) a
end
set_option maxHeartbeats 16000000
set_option maxRecDepth 20000
attribute [local irreducible] Ql wA Xr Xp QA Qp QW QY
section
variable [HB]
theorem UT {n:Nat} {M M':Nat→Nat→Pol} (h:∀ a c,a < n→c < n→M a c=M' a c):XY n M=XY n M':=by
 have:lst n M=lst n M':=by
  unfold lst
  exact GO fun a ha=>GO fun c hc=>h a c (by simpa using ha) (by simpa using hc)
 unfold XY
 rw [this]
theorem mE_ok {l:List (List Ent)} (h:smM 4 l) (a c:Nat):EOk (mE l a c):=by
 have:smE ((l.getD a []).getD c (0,[])):=by
  have h0:smE (0,[]):=⟨by decide,by decide,by decide,by simp⟩
  rw [Ge (l:=l)]
  rcases hr:l[a]? with _ | r
  ·exact h0
  ·simp only [Option.getD_some]
   rw [Ge]
   rcases he:r[c]? with _ | e
   ·exact h0
   ·exact (h.2 r (Gh hr)).2 e (Gh he)
 exact eok this
theorem Qg0 {n:Nat} {m:List (List Pol)} (k:ROk n m) (hn:m.length=n):FB 48 5308416 (QaD m):=by
 have:=k.fb (cs:=List.range' 0 m.length) (by rw [hn];exact List.Sublist.refl _)
 have h4:=k.n4
 have h48:48 ^ m.length≤48 ^ 4:=GM (by decide) (by omega)
 exact this.mono (by omega) (by omega)
theorem QlW {n:Nat} {M:Nat→Nat→Pol} (hn:n≤4) (h:∀ a c,EOk (M a c)):FB 48 5308416 (XY n M):=by
 refine Qg0 (n:=n) ⟨hn,fun r hr=>?_,fun r hr p hp=>?_⟩ ZM
 ·obtain ⟨a,ha,rfl⟩:=Gu.1 hr
  simp
 ·obtain ⟨a,ha,rfl⟩:=Gu.1 hr
  obtain ⟨c,hc,rfl⟩:=Gu.1 hp
  exact h a c
theorem Jb {lo hi n K B:Nat} {h:Qa} {s:SV} {M:Nat→Nat→Pol} {f:Int→Int} (m:MX lo hi h s n M) (hn:n≤4) (eg:∀ a c,a < n→c < n→EG (M a c)) (hf:∀ e,XY n M e=f e) (fb:FB K B f) (hB:B≤cM) :
  ∃ r h',Cal FT HKt 11 [.sc s] h r h'∧(Ext h h'∧∃ t ts,r=.tup [.agg [.bool false,t],.sc (.int .i64 0)]∧IsD h' t (tms ts)∧GP f ⟨false,ts⟩):=by
 obtain ⟨r,h',c,e,dr⟩:=QmJ 14 (lst n M) s h m.pol (sqmG hn eg)
 refine ⟨r,h',c,e,?_⟩
 rcases dr with ⟨t,ts,rfl,d,can,bd,hcf⟩ | ⟨⟨e,he⟩,rfl⟩
 ·exact ⟨t,ts,rfl,d,rfl,can,fun e=>(hcf e).trans (hf e)⟩
 ·exfalso
  have h1:=hf e
  unfold XY at h1
  rw [h1] at he
  have:=(fb e (fun h=>by rw [h] at he;simp at he)).2
  omega
theorem Qeb {α:Type} {n i k:Nat} (f:Nat→α) (hi:i < n) (hk:k < n) (hik:i≠k):(((List.range n).map f).set i (f k)).set k (f i)=(List.range n).map fun a=>f (sw i k a):=by
 refine Gr fun j=>?_
 rw [GH,GH,Gi,Gi]
 unfold sw
 by_cases h1:k=j
 ·subst h1
  rw [if_pos rfl,if_pos (by simpa using hk),Gq hk]
  simp [Ne.symm hik]
 ·rw [if_neg h1]
  by_cases h2:i=j
  ·subst h2
   rw [if_pos rfl,if_pos (by simpa using hi),Gq hi]
   simp
  ·rw [if_neg h2]
   rcases Gw j n with h3 | h3
   ·rw [Gq h3];simp [Ne.symm h1,Ne.symm h2]
   ·rw [Gp (by simpa using h3)];rfl
theorem Qlh {i k a b:Nat} (h:sw i k a=sw i k b):a=b:=by
 unfold sw at h
 split at h <;> split at h <;> (try split at h) <;> (try split at h) <;> omega
theorem RX.sw {lo hi n i k:Nat} {h:Qa} {M:Nat→Nat→Pol} {ids:Nat→Nat} {U:Nat→Nat→SV} (r:RX lo hi h n n M ids U) (hI:i < n) (hK:k < n):RX lo hi h n n (fun a=>M (sw i k a)) (fun a=>ids (sw i k a)) fun a=>U (sw i k a) :=
 ⟨fun a ha=>r.b _ (Vh hI hK ha),fun a c ha hc=>r.d _ c (Vh hI hK ha) hc,fun a b ha hb hab=>r.ne _ _ (Vh hI hK ha) (Vh hI hK hb) fun e=>hab (Qlh e)⟩
theorem RX.outw {lo hi n:Nat} {h h':Qa} {s s':SV} {z:Nat} {vs:List SV} {M:Nat→Nat→Pol} {ids:Nat→Nat} {U:Nat→Nat→SV} (r:RX lo hi h n n M ids U) (o:IsSl h s 1 z vs) (fr:Fram h h' s s') (ki:KI h h'):RX lo hi h' n n M ids U :=
 ⟨fun a ha=>let ⟨x,y,w⟩:=r.b a ha;⟨x,y,(fr _ _ w (Qay o w (show (2:ESz)≠1 by decide))).1⟩,fun a c ha hc=>IsD.ki (r.d a c ha hc) ki,r.ne⟩
theorem MX.outw {lo hi n:Nat} {h h':Qa} {s s' t:SV} {z:Nat} {vs:List SV} {M:Nat→Nat→Pol} (m:MX lo hi h t n M) (o:IsSl h s 1 z vs) (fr:Fram h h' s s') (ki:KI h h') (ap:Apart s t):MX lo hi h' t n M:=by
 obtain ⟨ids,caps,U,sl,r⟩:=m
 exact ⟨ids,caps,U,IsSl.away sl fr ap,r.outw o fr ki⟩
theorem Own.wrK {h0 h h':Qa} {s:SV} {vs:List SV} {id off:Nat} {cap:Option Nat} {n:Nat} {vs2:List SV} (o:Own h0 h s vs) (es:s=.slc id 0 n cap) (w:Xx h id off vs2=some h'):KI h h':=by
 rcases o with ⟨rfl,-⟩ | ⟨id',cap',cs,rfl,h1,h2,-⟩
 ·cases es
 ·cases es
  unfold Xx at w
  rw [h2] at w
  simp only at w
  split at w
  ·obtain rfl:=Option.some.inj w
   exact KI.set h2 rfl (.inl (show (1:ESz)≠2 by decide))
  ·cases w
theorem Own.apOwn {h0 h1 h:Qa} {s t:SV} {vs ws:List SV} (o:IsSl h1 s 1 vs.length vs) (q:Own h0 h t ws) (hl:h1.length≤h0.length):Apart s t:=by
 intro j
 rcases o with ⟨rfl,-⟩ | ⟨id,off,cap,b,rfl,h2,-⟩
 ·exact .inl fun o n c e=>by cases e
 ·rcases q with ⟨rfl,-⟩ | ⟨id',cap',cs,rfl,h3,h4,-⟩
  ·exact .inr fun o n c e=>by cases e
  ·by_cases e:id=j
   ·right
    intro o n c e2
    cases e2
    have:=(Gb.1 h2).1
    omega
   ·exact .inl fun o n c e2=>by cases e2;exact e rfl
end
