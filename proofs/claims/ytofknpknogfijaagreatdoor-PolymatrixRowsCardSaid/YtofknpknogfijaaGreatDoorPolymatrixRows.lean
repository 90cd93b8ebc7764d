/- The law PolymatrixRows,reckoned. -/
import Derived.Test.YtofknpknogfijaaGreatDoorRW4
import Derived.Test.YtofknpknogfijaaGreatDoorAb50
import Derived.Test.YtofknpknogfijaaGreatDoorRows
import Derived.Test.YtofknpknogfijaaGreatDoorCards
import Derived.Test.YtofknpknogfijaaGreatDoorTie
import Derived.MakeChecks
import Derived.Lay
import Derived.Shelf.Vars
import Derived.Lib.SmallJoins
import Derived.WalkKit
import Derived.ProofKit
import Derived.OpenShut
import Derived.ShutString
import Derived.ChangeOld
import Derived.Below
import Derived.LaidMore
import Derived.Stop.Joined
import Derived.SevenTiedAt
namespace Go.Proofs.YtofknpknogfijaaGreatDoor
open Go.Ab
set_option linter.all false
set_option maxHeartbeats 16000000
set_option maxRecDepth 20000
attribute [local irreducible] Ql wA Xr Xp QA Qp QW QY
section
variable [HB]
def QgG {α:Type} (a b c d e:α):Nat→α
 | 0=>a
 | 1=>b
 | 2=>c
 | 3=>d
 | _=>e
def six (a b c d e f:Nat) (t:Nat):Nat:=if t=0 then a else if t=1 then b else if t=2 then c else if t=3 then d else if t=4 then e else f
theorem QfA {a b c d e f:Nat} (h:a≤b∧b≤c∧c≤d∧d≤e∧e≤f):∀ x y,x≤y→six a b c d e f x≤six a b c d e f y:=by
 intro x y hxy
 unfold six
 repeat' split
 all_goals omega
theorem Mv0 (M:Nat→Nat→Pol) (i k:Nat) (F:Pol):∀ t,t < 5→QgG (fun a=>M (sw i k a)) M M M M t=Mv M i k F 0 0 0 0 t:=fun t ht=>by
 have hg:∀ g:Nat→Pol,M=gJ M i g 0:=fun g=>by
  funext a c
  unfold gJ
  by_cases e:a=i
  ·subst e;simp
  ·simp [e]
 have hc:M=cJ M i k 0:=by funext a;unfold cJ;simp
 match t,ht with
 | 0,_=>rfl
 | 1,_=>exact hc
 | 2,_=>exact hg _
 | 3,_=>exact hg _
 | 4,_=>exact hg _
theorem L4.wrN {n q12 q19:Nat} {t12 t19:SV} {P F:Pol} {s:Nat→SV} {lo:Nat→Nat} {M:Nat→Nat→Nat→Pol} {h h':Qa} (L:L4 n q12 q19 t12 t19 P F s lo M h) {q:Nat} {a b:SV} (w:Wr h h' q a b) (h1:q12≠q) (h2:q19≠q):L4 n q12 q19 t12 t19 P F s lo M h' :=
 ⟨fun t ht=>(L.mx t ht).wr w,L.mo,w.keep L.c12 h1,IsD.wrC L.d12 w,w.keep L.c19 h2,IsD.wrC L.d19 w⟩
theorem QgF {n i k:Nat} {M:Nat→Nat→Pol} {F:Pol} (hi:i < n) (hk:k < n) (hik:i≠k) (ok:∀ a c,EOk (M a c)) (okF:EOk F) :
  (∀ e,XY n (Mv M i k F n n n n 0) e = - XY n M e)∧(∀ e,XY n (Mv M i k F n n n n 1) e = - XY n M e)∧(∀ e,XY n (Mv M i k F n n n n 2) e=XY n M e)∧(∀ e,XY n (Mv M i k F n n n n 3) e=0)∧(∀ e,XY n (Mv M i k F n n n n 4) e=YJ F.ts (XY n M) e):=by
 have bd:∀ {k:Nat},12≤k→BdM n k M:=fun hk a c _ _ t ht=>by have:=((ok a c).bd t ht).1;omega
 have hg:∀ g:Nat→Pol,XY n (gJ M i g n)=XY n fun a=>if a=i then g else M a:=fun g=>UT fun a c ha hc=>by
  unfold gJ
  by_cases e:a=i
  ·rw [if_pos e,if_pos e,if_pos hc]
  ·rw [if_neg e,if_neg e]
 refine ⟨fun e=>QgY (bd (Gf _)) hi hk hik e,fun e=>?_,fun e=>?_,fun e=>?_,fun e=>?_⟩
 ·rw [← QgZ (bd (Gf _)) hi hk hik e]
  refine congrFun (UT fun a c ha hc=>?_) e
  show cJ M i k n a c=_
  unfold cJ;rw [if_pos ha]
 ·show XY n (gJ M i (fun c=>Je (M i c) (M k c)) n) e=_
  rw [hg]
  refine QjA (k:=12) (j:=k) (bd (Gf _)) (fun a c _ _ t ht=>?_) hi hk hik (fun a ha=>if_neg ha) (fun x c=>?_) e
  ·by_cases ea:a=i
   ·simp only [if_pos ea] at ht
    exact (QaL (ok i c) (ok k c)).2.1 t ht
   ·simp only [if_neg ea] at ht
    exact ((ok a c).bd t ht).1
  ·simp only [if_pos]
   exact (QaL (ok i c) (ok k c)).2.2 x
 ·show XY n (gJ M i (M k) n) e=_
  rw [hg]
  refine QgX (M:=M) (k:=12) (j:=k) (fun a c _ _ t ht=>?_) hi hk hik ?_ e
  ·by_cases ea:a=i
   ·simp only [if_pos ea] at ht
    exact ((ok k c).bd t ht).1
   ·simp only [if_neg ea] at ht
    exact ((ok a c).bd t ht).1
  ·simp only [if_pos,if_neg (Ne.symm hik)]
 ·show XY n (gJ M i (fun c=>Yl (M i c) F) n) e=_
  rw [hg]
  refine Qe1 (k:=24) (k2:=12) (i:=i) (bd (by decide)) (fun a c _ _ t ht=>?_) (fun t ht=>(okF.bd t ht).1) hi (fun a ha=>if_neg ha) (fun x c _=>?_) e
  ·by_cases ea:a=i
   ·simp only [if_pos ea] at ht
    exact ((Qaj (ok i c) okF).1.bd t ht).1
   ·simp only [if_neg ea] at ht
    have:=((ok a c).bd t ht).1
    omega
  ·simp only [if_pos]
   exact (Qaj (ok i c) okF).2 x
theorem yt {n i k:Nat} {M:Nat→Nat→Pol} {F:Pol} (ok:∀ a c,EOk (M a c)) (okF:EOk F) (t a c:Nat):EG (Mv M i k F n n n n t a c):=by
 have hg:∀ (g:Nat→Pol),(∀ c,EG (g c))→EG (gJ M i g n a c):=fun g h=>by
  unfold gJ
  by_cases e:a=i
  ·rw [if_pos e]
   by_cases e2:c < n
   ·simp only [if_pos e2];exact h c
   ·simp only [if_neg e2];exact (ok i c).eg
  ·rw [if_neg e];exact (ok a c).eg
 match t with
 | 0=>exact (ok _ c).eg
 | 1 =>
  show EG (cJ M i k n a c)
  unfold cJ
  split
  ·exact (ok a _).eg
  ·exact (ok a c).eg
 | 2=>exact hg _ fun c=>(QaL (ok i c) (ok k c)).1
 | 3=>exact hg _ fun c=>(ok k c).eg
 | _+4=>exact hg _ fun c=>(Qaj (ok i c) okF).1
theorem Qmy (aw:∀ h:Qa,∃ v h',Cal FT HKt 9 [] h v h'∧v=.sc (.bool true)∧h'=h) (h0:Qa) (ls:SV) (l:List (List Ent)) (em:EMx h0 ls l) (a:Int) (ha:0≤a∧a≤255) (b:Int) (hb:0≤b∧b≤255) (sx:SV) (x:Ent) (hx:IsInts h0 sx x.2) :
  ∃ v h',Cal FT HKt 4 [.sc ls,.sc (.int .u8 a),.sc (.int .u8 b),.agg [.int .i64 x.1,sx]] h0 v h'∧v=.sc (.bool true):=by
 refine Cal.of (F:=a4) rfl rfl rfl ?_
 have lm:=em.len
 have k10:=fun H (e:Ext h0 H)=>QmK H l ls 4 (by decide) (em.ext e)
 by_cases hs:smM 4 l
 case neg =>
  simp only [decide_eq_false hs,smN] at k10
  repeat' (first | refine Qg ?_ | refine Qb ?_ | refine QD ?_ | refine Qn ?_ | refine Qt ?_ | refine Qf ?_ | ((refine Qh ?_);first | refine Qj rfl ?_ | refine Qk rfl ?_) | ((refine Qe ?_);first | refine Qq rfl ?_ | refine QG rfl rfl rfl rfl ?_ | refine QU rfl rfl rfl rfl rfl ?_ | refine QT rfl rfl rfl rfl rfl rfl ?_) | ((refine Qc ?_);first | (refine Qx rfl ?_;intro h1 e1 c7) | (refine Qi rfl (aw _) ?_;rintro v h2 ⟨rfl,rfl⟩) | refine Qs rfl lm ?_ | (refine Qi rfl (k10 _ e1) ?_;rintro v h3 ⟨e3,rfl⟩) | refine XD rfl rfl rfl ?_ | refine Xd rfl ?_ | refine Qo rfl ?_ | refine QS rfl rfl ?_ | refine XR rfl ?_))
  exact ⟨.inr rfl,rfl⟩
 simp only [decide_eq_true hs,smN] at k10
 have hl:l.length≤1000:=by have:=hs.1;omega
 have k13:=fun H (e:Ext h0 H)=>QmI H l ls (by omega) (em.ext e) fun r h=>by have:=(hs.2 r h).1;omega
 by_cases hq:sqE l
 case neg =>
  simp only [decide_eq_false hq] at k13
  repeat' (first | refine Qg ?_ | refine Qb ?_ | refine QD ?_ | refine Qn ?_ | refine Qt ?_ | refine Qf ?_ | ((refine Qh ?_);first | refine Qj rfl ?_ | refine Qk rfl ?_) | ((refine Qe ?_);first | refine Qq rfl ?_ | refine QG rfl rfl rfl rfl ?_ | refine QU rfl rfl rfl rfl rfl ?_ | refine QT rfl rfl rfl rfl rfl rfl ?_) | ((refine Qc ?_);first | (refine Qx rfl ?_;intro h1 e1 c7;have y:=e1) | (refine Qi rfl (aw _) ?_;rintro v h2 ⟨rfl,rfl⟩) | refine Qs rfl lm ?_ | (refine Qi rfl (k10 _ y) ?_;rintro v h3 ⟨e3,rfl⟩;replace y:=y.trans e3) | refine Xf rfl rfl (by decide) ?_ | (refine Qi rfl (k13 _ y) ?_;rintro v h4 ⟨rfl,rfl⟩) | refine Xd rfl ?_ | refine QL rfl ?_ | refine Qo rfl ?_ | refine QS rfl rfl ?_ | refine QC rfl rfl ?_ | refine XR rfl ?_ | refine Yw rfl ?_))
  exact ⟨.inr rfl,rfl⟩
 simp only [decide_eq_true hq] at k13
 by_cases hn2:l.length < 2
 ·repeat' (first | refine Qg ?_ | refine Qb ?_ | refine QD ?_ | refine Qn ?_ | refine Qt ?_ | refine Qf ?_ | ((refine Qh ?_);first | refine Qj rfl ?_ | refine Qk rfl ?_) | ((refine Qe ?_);first | refine Qq rfl ?_ | refine QG rfl rfl rfl rfl ?_ | refine QU rfl rfl rfl rfl rfl ?_ | refine QT rfl rfl rfl rfl rfl rfl ?_) | ((refine Qc ?_);first | (refine Qx rfl ?_;intro h1 e1 c7;have y:=e1) | (refine Qi rfl (aw _) ?_;rintro v h2 ⟨rfl,rfl⟩) | refine Qs rfl lm ?_ | (refine Qi rfl (k10 _ y) ?_;rintro v h3 ⟨e3,rfl⟩;replace y:=y.trans e3) | refine Xf rfl rfl (by decide) ?_ | (refine Qi rfl (k13 _ y) ?_;rintro v h4 ⟨rfl,rfl⟩) | refine Xd rfl ?_ | refine QL rfl ?_ | refine Qo rfl ?_ | refine QS rfl rfl ?_ | refine QC rfl rfl ?_ | refine XR rfl ?_ | refine Qy rfl rfl (by omega) ?_))
  exact ⟨.inr rfl,rfl⟩
 have k19:=fun H (e:Ext h0 H)=>Qhf H x sx (IsSl.ext hx e)
 by_cases hxs:smE x
 case neg =>
  simp only [decide_eq_false hxs,smN] at k19
  repeat' (first | refine Qg ?_ | refine Qb ?_ | refine QD ?_ | refine Qn ?_ | refine Qt ?_ | refine Qf ?_ | ((refine Qh ?_);first | refine Qj rfl ?_ | refine Qk rfl ?_) | ((refine Qe ?_);first | refine Qq rfl ?_ | refine QG rfl rfl rfl rfl ?_ | refine QU rfl rfl rfl rfl rfl ?_ | refine QT rfl rfl rfl rfl rfl rfl ?_) | ((refine Qc ?_);first | (refine Qx rfl ?_;intro h1 e1 c7;have y:=e1) | (refine Qi rfl (aw _) ?_;rintro v h2 ⟨rfl,rfl⟩) | refine Qs rfl lm ?_ | (refine Qi rfl (k10 _ y) ?_;rintro v h3 ⟨e3,rfl⟩;replace y:=y.trans e3;replace c7:=c7.ext e3) | (have z:=y5;refine XD rfl rfl rfl ?_) | refine Xf rfl rfl (by decide) ?_ | (refine Qi rfl (k13 _ y) ?_;rintro v h4 ⟨rfl,rfl⟩) | refine QI rfl c7 ?_ | (refine Qi rfl (k19 _ y) ?_;rintro v h5 ⟨e5,rfl⟩;have y5:=True.intro) | refine QL rfl ?_ | refine Qo rfl ?_ | refine QC rfl rfl ?_ | refine XR rfl ?_ | refine QM rfl rfl (by omega) ?_))
  exact ⟨.inr rfl,rfl⟩
 simp only [decide_eq_true hxs,smN] at k19
 generalize hn:l.length=n at *
 obtain ⟨I,hI⟩:∃ I:Nat,a%(n:Int)=(I:Int):=⟨(a%(n:Int)).toNat,(Hm (Int.emod_nonneg _ (by omega))).symm⟩
 obtain ⟨Rr,hR⟩:∃ R:Nat,b%((n:Int)-1)=(R:Int):=⟨(b%((n:Int)-1)).toNat,(Hm (Int.emod_nonneg _ (by omega))).symm⟩
 have hI2:(I:Int) < n:=by rw [← hI];exact Int.emod_lt_of_pos _ (by omega)
 have hR2:(Rr:Int) < (n:Int)-1:=by rw [← hR];exact Int.emod_lt_of_pos _ (by omega)
 obtain ⟨K,hK⟩:∃ K:Nat,((I:Int)+1+(Rr:Int))%(n:Int)=(K:Int):=⟨(((I:Int)+1+(Rr:Int))%(n:Int)).toNat,(Hm (Int.emod_nonneg _ (by omega))).symm⟩
 have hK2:(K:Int) < n:=by rw [← hK];exact Int.emod_lt_of_pos _ (by omega)
 have hn4:n≤4:=by have:=hs.1;omega
 have hIK:I≠K:=by
  intro e
  have h3:n=2∨n=3∨n=4:=by omega
  rcases h3 with h3 | h3 | h3 <;> subst h3 <;> omega
 have hi:I < n:=by omega
 have hk:K < n:=by omega
 have okM:=mE_ok hs
 have okF:=eok hxs
 have k12:=fun H (e:Ext h0 H)=>QjK H l ls n (by omega) (em.ext e) fun r hr=>⟨by rw [hq r hr,hn],by have:=(hs.2 r hr).1;omega,(hs.2 r hr).2⟩
 rw [hn] at k12
 have fbM:=QlW hn4 okM
 have k20:=fun H (e:Ext h0 H)=>QdO H x.1 (by have:=hxs;unfold smE at this;omega) sx x.2 (by have:=hxs.1;omega) (IsSl.ext hx e) (fun y hy=>by have:=hxs.2.2.2 y hy;omega)
 rw [show ofP x.1 x.2=PE x from rfl] at k20
 have tok0:True:=trivial
 have tokd:True:=trivial
 repeat' (first | refine Qg ?_ | refine Qb ?_ | refine Qn ?_ | refine Qf ?_ | refine Q2 ?_ | refine Xk ?_ | ((refine Qh ?_);refine Qk rfl ?_) | ((refine Qe ?_);first | refine Q1 ?_ | refine QG rfl rfl rfl rfl ?_ | refine QU rfl rfl rfl rfl rfl ?_ | refine QT rfl rfl rfl rfl rfl rfl ?_ | refine Xn rfl rfl rfl rfl rfl rfl rfl ?_ | refine X6 rfl rfl rfl rfl rfl rfl rfl rfl rfl rfl rfl ?_) | ((refine Qc ?_);first | (refine Qx rfl ?_;intro h1 e1 c7;have y:=e1) | (refine Qi rfl (aw _) ?_;rintro v h2 ⟨rfl,rfl⟩) | refine Qs rfl lm ?_ | (refine Qi rfl (k10 _ y) ?_;rintro v h3 ⟨e3,rfl⟩;replace y:=y.trans e3;replace c7:=c7.ext e3) | refine Xf rfl rfl (by decide) ?_ | (refine Qi rfl (k13 _ y) ?_;rintro v h4 ⟨rfl,rfl⟩) | (refine Qi rfl (k19 _ y) ?_;rintro v h5 ⟨e5,rfl⟩;replace y:=y.trans e5;replace c7:=c7.ext e5) | (refine UG rfl rfl (by omega) ?_;rw [hI]) | (refine UG rfl rfl (by omega) ?_;rw [hR]) | (refine UG rfl rfl (by omega) ?_;rw [hK]) | (have z:=tok1;refine Qi rfl (k12 _ y) ?_;rintro v g1 ⟨x1,s1,rfl,bx1⟩;clear z tok1;have tok2:True:=trivial;have len1:=x1.len;replace y:=y.trans x1;have m1:MX g0.length g1.length g1 s1 n (mE l):=bx1.mx;obtain ⟨_,ids1,caps1,U1,o1,r1⟩:=bx1;have sl1:=o1.sl;skip) | (have z:=tok2;refine Qi rfl (k12 _ y) ?_;rintro v g2 ⟨x2,s2,rfl,bx2⟩;clear z tok2;have tok3:True:=trivial;have len2:=x2.len;replace y:=y.trans x2;replace o1:=o1.ext x2;replace r1:=r1.ext x2 (Gf _);have m2:MX g1.length g2.length g2 s2 n (mE l):=bx2.mx;obtain ⟨_,ids2,caps2,U2,o2,r2⟩:=bx2;have ap2:=Own.apOwn sl1 o2 (by omega);skip) | (have z:=tok3;refine Qi rfl (k12 _ y) ?_;rintro v g3 ⟨x3,s3,rfl,bx3⟩;clear z tok3;have tok4:True:=trivial;have len3:=x3.len;replace y:=y.trans x3;replace o1:=o1.ext x3;replace r1:=r1.ext x3 (Gf _);replace m2:=m2.ext x3;have m3:MX g2.length g3.length g3 s3 n (mE l):=bx3.mx;obtain ⟨_,ids3,caps3,U3,o3,r3⟩:=bx3;have ap3:=Own.apOwn sl1 o3 (by omega);skip) | (have z:=tok4;refine Qi rfl (k12 _ y) ?_;rintro v g4 ⟨x4,s4,rfl,bx4⟩;clear z tok4;have tok5:True:=trivial;have len4:=x4.len;replace y:=y.trans x4;replace o1:=o1.ext x4;replace r1:=r1.ext x4 (Gf _);replace m2:=m2.ext x4;replace m3:=m3.ext x4;have m4:MX g3.length g4.length g4 s4 n (mE l):=bx4.mx;obtain ⟨_,ids4,caps4,U4,o4,r4⟩:=bx4;have ap4:=Own.apOwn sl1 o4 (by omega);skip) | (have z:=tok5;refine Qi rfl (k12 _ y) ?_;rintro v g5 ⟨x5,s5,rfl,bx5⟩;clear z tok5;have tok6:True:=trivial;have len5:=x5.len;replace y:=y.trans x5;replace o1:=o1.ext x5;replace r1:=r1.ext x5 (Gf _);replace m2:=m2.ext x5;replace m3:=m3.ext x5;replace m4:=m4.ext x5;have m5:MX g4.length g5.length g5 s5 n (mE l):=bx5.mx;obtain ⟨_,ids5,caps5,U5,o5,r5⟩:=bx5;have ap5:=Own.apOwn sl1 o5 (by omega);skip) | (have z:=tok0;refine Qi rfl (k12 _ y) ?_;rintro v h6 ⟨e6,sd,rfl,bxd⟩;clear z tok0;replace y:=y.trans e6;replace c7:=c7.ext e6) | (have z:=tokd;refine Qi rfl (Jb bxd.mx hn4 (fun a c _ _=>(okM a c).eg) (fun e=>rfl) fbM (by decide)) ?_;rintro v h7 ⟨e7,td,tsd,rfl,dd,gd⟩;clear z tokd;replace y:=y.trans e7;replace c7:=c7.ext e7) | (have z:=gd;refine Xb ?_;intro h8 e8 c12;have ny:=y.len;have m7:=c7.lt;replace y:=y.trans e8;replace c7:=c7.ext e8;replace dd:=dd.ext e8) | (refine Xm rfl rfl c12 ?_;intro g0 w12;replace c12:=w12.cel;replace y:=w12.ext y ny;replace c7:=w12.keep c7 (by omega);replace dd:=IsD.wrC dd w12;have y0:=y;have tok1:True:=trivial) | refine QI rfl c7 ?_ | refine QL rfl ?_ | refine Qo rfl ?_ | refine QC rfl rfl ?_ | refine XR rfl ?_ | refine QK rfl rfl (by omega) ?_ | refine Z8 rfl rfl (by omega) ?_ | refine Yx rfl (by omega) ?_ | refine QM rfl rfl (by omega) ?_ | refine Xt rfl rfl ?_))
 obtain ⟨oid,ocap,hA,es1,wA,oA,xA,frA,lA⟩:=Own.wr (i:=I) (((((x1.trans x2).trans x3).trans x4).trans x5)) o1 (by simpa using hi) (hdR n ids1 caps1 K)
 obtain ⟨oid',ocap',hB,es2,wB,oB,xB,frB,lB⟩:=Own.wr (i:=K) xA oA (by simpa using hk) (hdR n ids1 caps1 I)
 have kiA:=Own.wrK o1 es1 wA
 have kiB:=Own.wrK oA es1 (by
  have e3:=es1.symm.trans es2
  obtain ⟨rfl,-⟩:=SV.slc.inj e3
  exact wB)
 have slA:=o1.sl
 have slB:=oA.sl
 obtain ⟨ri,rci,esI,rdI⟩:=o1.rd (i:=I) (v:=hdR n ids1 caps1 I) (by rw [Gi,Gq hi];rfl)
 obtain ⟨rk,rck,esK,rdK⟩:=o1.rd (i:=K) (v:=hdR n ids1 caps1 K) (by rw [Gi,Gq hk];rfl)
 rw [Qeb (hdR n ids1 caps1) hi hk hIK] at oB
 have slC:=oB.sl
 simp only [Gt,List.length_range,G1] at es1 es2 esI esK slC
 subst es1
 obtain ⟨rfl,-,-,rfl⟩:=SV.slc.inj es2
 obtain ⟨rfl,-,-,rfl⟩:=SV.slc.inj esI
 obtain ⟨rfl,-,-,rfl⟩:=SV.slc.inj esK
 have mB1:MX g0.length g1.length hB (.slc oid 0 n ocap) n (fun a=>mE l (sw I K a)):=⟨_,_,_,slC,((r1.outw slA frA kiA).outw slB frB kiB).sw hi hk⟩
 have mB2:=(m2.outw slA frA kiA ap2).outw slB frB kiB ap2
 have mB3:=(m3.outw slA frA kiA ap3).outw slB frB kiB ap3
 have mB4:=(m4.outw slA frA kiA ap4).outw slB frB kiB ap4
 have mB5:=(m5.outw slA frA kiA ap5).outw slB frB kiB ap5
 have yB:=y0.trans xB
 have cB7:=c7.ext xB
 have cB12:=c12.ext xB
 have ddB:=dd.ext xB
 have l5:=cB12.lt
 clear bxd
 repeat' (first | refine Qg ?_ | refine Qb ?_ | refine Qv ?_ | refine Qf ?_ | refine Xk ?_ | refine Xl ?_ | ((refine Qe ?_);first | refine Q1 ?_ | refine Xw ?_ | refine X6 rfl rfl rfl rfl rfl rfl rfl rfl rfl rfl rfl ?_ | refine XC rfl rfl rfl rfl rfl rfl rfl rfl rfl rfl rfl rfl ?_) | ((refine Qc ?_);first | (refine Qw (esz:=1) rfl rfl (by omega) ?_) | refine Q4 rfl rdI ?_ | refine Q4 rfl rdK ?_ | refine ZX rfl rfl wA ?_ | refine ZX rfl rfl wB ?_ | refine Xi rfl ?_ | refine QQ rfl cB7 ?_ | refine Qz rfl cB7 ?_ | (refine Qi rfl (k20 _ yB) ?_;rintro w q1 ⟨u1,t19,rfl,o19⟩;have d19:=o19.is) | (refine Xb ?_;intro q2 u2 c19) | (refine Xm rfl rfl c19 ?_;intro q3 w19;replace c19:=w19.cel) | refine Qo rfl ?_))
 have L:L4 n h7.length q1.length td t19 ⟨false,tsd⟩ (PE x) (QgG (.slc oid 0 n ocap) s2 s3 s4 s5) (six g0.length g1.length g2.length g3.length g4.length g5.length) (Mv (mE l) I K (PE x) 0 0 0 0) q3:=by
  refine L4.cong (M:=QgG (fun a=>mE l (sw I K a)) (mE l) (mE l) (mE l) (mE l)) ⟨fun t ht=>?_,QfA ⟨len1,len2,len3,len4,len5⟩,w19.keep ((cB12.ext u1).ext u2) (by have:=u1.len;omega),IsD.wrC ((ddB.ext u1).ext u2) w19,c19,IsD.wrC (d19.ext u2) w19⟩ (Mv0 _ _ _ _)
  match t,ht with
  | 0,_=>exact ((mB1.ext u1).ext u2).wr w19
  | 1,_=>exact ((mB2.ext u1).ext u2).wr w19
  | 2,_=>exact ((mB3.ext u1).ext u2).wr w19
  | 3,_=>exact ((mB4.ext u1).ext u2).wr w19
  | 4,_=>exact ((mB5.ext u1).ext u2).wr w19
 refine Q9 (I4 n I K h7.length q1.length td t19 ⟨false,tsd⟩ (PE x) (QgG (.slc oid 0 n ocap) s2 s3 s4 s5) (six g0.length g1.length g2.length g3.length g4.length g5.length) (mE l)) n (R4 n I K h7.length q1.length td t19 ⟨false,tsd⟩ (PE x) (QgG (.slc oid 0 n ocap) s2 s3 s4 s5) (six g0.length g1.length g2.length g3.length g4.length g5.length) (mE l)) ⟨0,Gs _,rfl,L,rfl⟩ (QlD n I K h7.length q1.length td t19 ⟨false,tsd⟩ (PE x) _ _ (mE l) hn4 hi hk hIK (fun a c _ _=>okM a c) okF) ?_
 clear L
 rintro ex E' q4 ⟨rfl,L,_,_,_,_,_,rfl⟩
 have hf:=QgF hi hk hIK okM okF
 have fbN:FB 48 5308416 fun e => - XY n (mE l) e:=fun e he=>by
  have:=fbM e (fun h=>he (by show-XY n (mE l) e=0;rw [h];rfl))
  simp only;omega
 have fbZ:FB 0 0 fun _:Int=>(0:Int):=fun e he=>absurd rfl he
 have fbS:FB 60 63700992 (YJ (PE x).ts (XY n (mE l))):=fun e he=>by
  obtain ⟨t,ht,h2⟩:=Qdp he
  have h3:=(fbM _ h2).1
  have h4:=(okF.bd t ht).1
  refine ⟨by omega,?_⟩
  have:=zV (B:=5308416) (f:=XY n (mE l)) (fun e=>by
   by_cases h:XY n (mE l) e=0
   ·rw [h];exact Gs _
   ·exact (fbM _ h).2) (l:=(PE x).ts) (e:=e)
  have:=okF.sum
  have:Yr (PE x).ts*5308416≤12*5308416:=GE _ this
  omega
 have td0:True:=trivial
 repeat' (first | refine Qg ?_ | refine Qb ?_ | refine QP ?_ | refine Qn ?_ | refine Qf ?_ | refine Q2 ?_ | refine Xk ?_ | ((refine Qh ?_);refine Qk rfl ?_) | ((refine Qe ?_);first | refine Q5 rfl rfl rfl rfl rfl rfl rfl rfl rfl ?_ | refine Xy rfl rfl rfl rfl rfl rfl rfl rfl rfl rfl ?_ | refine X6 rfl rfl rfl rfl rfl rfl rfl rfl rfl rfl rfl ?_ | refine XC rfl rfl rfl rfl rfl rfl rfl rfl rfl rfl rfl rfl ?_ | refine Yy rfl rfl rfl rfl rfl rfl rfl rfl rfl rfl rfl rfl rfl ?_) | ((refine Qc ?_);first | (have z:=td0;refine Qi rfl (Jb (L.mx 0 (by decide)) hn4 (fun a c _ _=>yt okM okF 0 a c) hf.1 fbN (by decide)) ?_;rintro w j0 ⟨v0,t0,ts0,rfl,p0,gp0⟩;clear z td0;replace L:=L.ext v0;have tn0:True:=trivial) | (have z:=tn0;refine Xb ?_;intro b0 e0x c20;clear z tn0;have m19:=L.c19.lt;have m12:=L.c12.lt;replace L:=L.ext e0x;replace p0:=p0.ext e0x;have ns0:True:=trivial) | (have z:=ns0;refine Xm rfl rfl c20 ?_;intro a0 w0;clear z ns0;replace c20:=w0.cel;replace p0:=IsD.wrC p0 w0;replace L:=L.wrN w0 (by omega) (by omega);have td1:True:=trivial) | (have z:=td1;refine Qi rfl (Jb (L.mx 1 (by decide)) hn4 (fun a c _ _=>yt okM okF 1 a c) hf.2.1 fbN (by decide)) ?_;rintro w j1 ⟨v1,t1,ts1,rfl,p1,gp1⟩;clear z td1;replace L:=L.ext v1;replace p0:=p0.ext v1;replace c20:=c20.ext v1;have tn1:True:=trivial) | (have z:=tn1;refine Xb ?_;intro b1 e1x c21;clear z tn1;have m19:=L.c19.lt;have m12:=L.c12.lt;replace L:=L.ext e1x;replace p1:=p1.ext e1x;replace p0:=p0.ext e1x;have u10:=c20.lt;replace c20:=c20.ext e1x;have ns1:True:=trivial) | (have z:=ns1;refine Xm rfl rfl c21 ?_;intro a1 w1;clear z ns1;replace c21:=w1.cel;replace p1:=IsD.wrC p1 w1;replace L:=L.wrN w1 (by omega) (by omega);replace p0:=IsD.wrC p0 w1;replace c20:=w1.keep c20 (by omega);have td2:True:=trivial) | (have z:=td2;refine Qi rfl (Jb (L.mx 2 (by decide)) hn4 (fun a c _ _=>yt okM okF 2 a c) hf.2.2.1 fbM (by decide)) ?_;rintro w j2 ⟨v2,t2,ts2,rfl,p2,gp2⟩;clear z td2;replace L:=L.ext v2;replace p0:=p0.ext v2;replace c20:=c20.ext v2;replace p1:=p1.ext v2;replace c21:=c21.ext v2;have tn2:True:=trivial) | (have z:=tn2;refine Xb ?_;intro b2 e2x c22;clear z tn2;have m19:=L.c19.lt;have m12:=L.c12.lt;replace L:=L.ext e2x;replace p2:=p2.ext e2x;replace p0:=p0.ext e2x;have u20:=c20.lt;replace c20:=c20.ext e2x;replace p1:=p1.ext e2x;have u21:=c21.lt;replace c21:=c21.ext e2x;have ns2:True:=trivial) | (have z:=ns2;refine Xm rfl rfl c22 ?_;intro a2 w2;clear z ns2;replace c22:=w2.cel;replace p2:=IsD.wrC p2 w2;replace L:=L.wrN w2 (by omega) (by omega);replace p0:=IsD.wrC p0 w2;replace c20:=w2.keep c20 (by omega);replace p1:=IsD.wrC p1 w2;replace c21:=w2.keep c21 (by omega);have td3:True:=trivial) | (have z:=td3;refine Qi rfl (Jb (L.mx 3 (by decide)) hn4 (fun a c _ _=>yt okM okF 3 a c) hf.2.2.2.1 fbZ (by decide)) ?_;rintro w j3 ⟨v3,t3,ts3,rfl,p3,gp3⟩;clear z td3;replace L:=L.ext v3;replace p0:=p0.ext v3;replace c20:=c20.ext v3;replace p1:=p1.ext v3;replace c21:=c21.ext v3;replace p2:=p2.ext v3;replace c22:=c22.ext v3;have tn3:True:=trivial) | (have z:=tn3;refine Xb ?_;intro b3 e3x c23;clear z tn3;have m19:=L.c19.lt;have m12:=L.c12.lt;replace L:=L.ext e3x;replace p3:=p3.ext e3x;replace p0:=p0.ext e3x;have u30:=c20.lt;replace c20:=c20.ext e3x;replace p1:=p1.ext e3x;have u31:=c21.lt;replace c21:=c21.ext e3x;replace p2:=p2.ext e3x;have u32:=c22.lt;replace c22:=c22.ext e3x;have ns3:True:=trivial) | (have z:=ns3;refine Xm rfl rfl c23 ?_;intro a3 w3;clear z ns3;replace c23:=w3.cel;replace p3:=IsD.wrC p3 w3;replace L:=L.wrN w3 (by omega) (by omega);replace p0:=IsD.wrC p0 w3;replace c20:=w3.keep c20 (by omega);replace p1:=IsD.wrC p1 w3;replace c21:=w3.keep c21 (by omega);replace p2:=IsD.wrC p2 w3;replace c22:=w3.keep c22 (by omega);have td4:True:=trivial) | (have z:=td4;refine Qi rfl (Jb (L.mx 4 (by decide)) hn4 (fun a c _ _=>yt okM okF 4 a c) hf.2.2.2.2 fbS (by decide)) ?_;rintro w j4 ⟨v4,t4,ts4,rfl,p4,gp4⟩;clear z td4;replace L:=L.ext v4;replace p0:=p0.ext v4;replace c20:=c20.ext v4;replace p1:=p1.ext v4;replace c21:=c21.ext v4;replace p2:=p2.ext v4;replace c22:=c22.ext v4;replace p3:=p3.ext v4;replace c23:=c23.ext v4;have tn4:True:=trivial) | (have z:=tn4;refine Xb ?_;intro b4 e4x c24;clear z tn4;have m19:=L.c19.lt;have m12:=L.c12.lt;replace L:=L.ext e4x;replace p4:=p4.ext e4x;replace p0:=p0.ext e4x;have u40:=c20.lt;replace c20:=c20.ext e4x;replace p1:=p1.ext e4x;have u41:=c21.lt;replace c21:=c21.ext e4x;replace p2:=p2.ext e4x;have u42:=c22.lt;replace c22:=c22.ext e4x;replace p3:=p3.ext e4x;have u43:=c23.lt;replace c23:=c23.ext e4x;have ns4:True:=trivial) | (have z:=ns4;refine Xm rfl rfl c24 ?_;intro a4 w4;clear z ns4;replace c24:=w4.cel;replace p4:=IsD.wrC p4 w4;replace L:=L.wrN w4 (by omega) (by omega);replace p0:=IsD.wrC p0 w4;replace c20:=w4.keep c20 (by omega);replace p1:=IsD.wrC p1 w4;replace c21:=w4.keep c21 (by omega);replace p2:=IsD.wrC p2 w4;replace c22:=w4.keep c22 (by omega);replace p3:=IsD.wrC p3 w4;replace c23:=w4.keep c23 (by omega);have td5:True:=trivial) | refine XS rfl rfl rfl ?_ | refine QL rfl ?_ | refine Qo rfl ?_ | refine QC rfl rfl ?_ | refine Xt rfl rfl ?_))
 have kpd:=gd.pok (fbM.mono (by simp only [eM];omega) (by simp only [cM];omega))
 have ld:=gd.len fbM
 have e0:=gp0.eq (Qkm gd)
 have e1':=gp1.eq (Qkm gd)
 have e2':=gp2.eq gd
 have e3':ts3=[]:=congrArg Pol.ts (gp3.eq Qjl)
 have gm:=QdE gd (fbM.mono (by decide) (by simp only [cM];omega)) okF.pok okF.nb (fun t ht=>by have:=(okF.bd t ht).1;omega) (fun e=>by
  by_cases h0:YJ (PE x).ts (XY n (mE l)) e=0
  ·rw [h0];exact Gs _
  ·have:=(fbS e h0).2
   simp only [cM];omega)
 have e4':=gp4.eq gm
 have k24:=fun H (d:IsD H td (tms tsd))=>QmE H td ⟨false,tsd⟩ d kpd
 rw [Qje kpd] at k24
 have l0:=gp0.len fbN
 have l1:=gp1.len fbN
 have l2:=gp2.len fbM
 have l4:=gp4.len fbS
 have k230:=fun H sn (a1:IsD H t0 (tms ts0)) (a2:IsD H sn (tms (ngP ⟨false,tsd⟩).ts))=>QaG H t0 sn ⟨false,ts0⟩ (ngP ⟨false,tsd⟩) a1 a2 (by simp only at l0 ⊢;omega)
 have k231:=fun H sn (a1:IsD H t1 (tms ts1)) (a2:IsD H sn (tms (ngP ⟨false,tsd⟩).ts))=>QaG H t1 sn ⟨false,ts1⟩ (ngP ⟨false,tsd⟩) a1 a2 (by simp only at l1 ⊢;omega)
 have k232:=fun H (a1:IsD H t2 (tms ts2)) (a2:IsD H td (tms tsd))=>QaG H t2 td ⟨false,ts2⟩ ⟨false,tsd⟩ a1 a2 (by simp only at l2 ⊢;omega)
 have k14:=fun H (a1:IsD H t3 (tms ts3))=>Qhg H false t3 ts3 a1
 have k22:=fun H (a1:IsD H td (tms tsd)) (a2:IsD H t19 (tms (PE x).ts))=>QdN H td t19 ⟨false,tsd⟩ (PE x) a1 a2 kpd okF.pok
 have k234:=fun H sn (a1:IsD H t4 (tms ts4)) (a2:IsD H sn (tms (Yl ⟨false,tsd⟩ (PE x)).ts))=>QaG H t4 sn ⟨false,ts4⟩ (Yl ⟨false,tsd⟩ (PE x)) a1 a2 (by simp only at l4 ⊢;omega)
 rw [decide_eq_true e0] at k230
 rw [decide_eq_true e1'] at k231
 rw [decide_eq_true e2'] at k232
 rw [decide_eq_true e3'] at k14
 rw [decide_eq_true e4'] at k234
 have yy:=Ext.refl a4
 have hc12:=L.c12
 have hd12:=L.d12
 have hc19:=L.c19
 have hd19:=L.d19
 repeat' (first | refine Qb ?_ | refine Qt ?_ | refine Xk ?_ | refine Xl ?_ | ((refine Qe ?_);first | refine Q1 ?_ | refine Xw ?_ | refine XZ (by assumption) ?_ | refine Qq rfl ?_) | ((refine Qc ?_);first | refine QI rfl (c20.ext yy) ?_ | refine QI rfl (c21.ext yy) ?_ | refine QI rfl (c22.ext yy) ?_ | refine QI rfl (c23.ext yy) ?_ | refine QI rfl (c24.ext yy) ?_ | refine QI rfl (hc12.ext yy) ?_ | refine QI rfl (hc19.ext yy) ?_ | (refine Qi rfl (k24 _ (hd12.ext yy)) ?_;rintro w z1 ⟨ez,sn,rfl,dn⟩;replace yy:=yy.trans ez) | (refine Qi rfl (k230 _ _ (p0.ext yy) dn) ?_;rintro w z2 ⟨ez2,rfl⟩;replace yy:=yy.trans ez2) | (refine Qi rfl (k231 _ _ (p1.ext yy) dn) ?_;rintro w z3 ⟨ez3,rfl⟩;replace yy:=yy.trans ez3) | (refine Qi rfl (k232 _ (p2.ext yy) (hd12.ext yy)) ?_;rintro w z4 ⟨ez4,rfl⟩;replace yy:=yy.trans ez4) | (refine Qi rfl (k14 _ (p3.ext yy)) ?_;rintro w z5 ⟨ez5,rfl⟩;replace yy:=yy.trans ez5) | (refine Qi rfl (k22 _ (hd12.ext yy) (hd19.ext yy)) ?_;rintro w z6 ⟨ez6,sm,rfl,dm⟩;replace yy:=yy.trans ez6) | (refine Qi rfl (k234 _ _ (p4.ext yy) dm) ?_;rintro w z7 ⟨ez7,rfl⟩;replace yy:=yy.trans ez7) | refine Xf rfl rfl (by decide) ?_ | refine XD rfl rfl rfl ?_ | refine QL rfl ?_ | refine Qo rfl ?_ | refine QS rfl rfl ?_ | refine QC rfl rfl ?_))
 exact ⟨.inr rfl,rfl⟩
end
theorem call4 (h0:Qa) (ls:SV) (l:List (List Ent)) (em:EMx h0 ls l) (a:Int) (ha:0≤a∧a≤255) (b:Int) (hb:0≤b∧b≤255) (sx:SV) (x:Ent) (hx:IsInts h0 sx x.2) (hl : -9223372036854775808≤x.1∧x.1≤9223372036854775807) :
 ∃ v h',Cal FT (@HKt ⟨true⟩) 4 [.sc ls,.sc (.int .u8 a),.sc (.int .u8 b),.agg [.int .i64 x.1,sx]] h0 v h'∧v=.sc (.bool true):=@Qmy ⟨true⟩ Qb1 h0 ls l em a ha b hb sx x hx
end Go.Proofs.YtofknpknogfijaaGreatDoor
namespace Go.Proofs.YtofknpknogfijaaGreatDoor.polymatrixRows
open Go.ChangeShapes Go.WideShapes Go.ChangeAt Go.RowKit
open Go.ChangeMaps (open_string shut_string)
set_option linter.unusedVariables false
theorem own:ownKnob Tryz.prog.godebug=none:=by kernel_rfl
theorem Qdy:laidOutB Tryz.prog=true:=by kernel_rfl
theorem walk (a0:Option Addr) (len0 cap0:Nat) (d0:List (List Ent)) (n1:Int) (n2:Int) (n3a:Int) (a3:Option Addr) (len3 cap3:Nat) (d3:Ent) (w:World) (w0:Go.Ab.CsOK w (RMx d0) [.slice a0 len0 cap0]) (w1:(Lit.int .u8 n1).wf=true) (w2:(Lit.int .u8 n2).wf=true) (w3:Go.Ab.CsOK w (Qfa d3) [.int .i64 n3a,.slice a3 len3 cap3]) (hF:Facts w) :
  Calls Tryz.prog 4 #[.slice a0 len0 cap0,.int .u8 n1,.int .u8 n2,.agg #[.int .i64 n3a,.slice a3 len3 cap3]] w fun e w'=>e=.returned (.bool true)∧Below w.heap.size w w':=by
 letI:Go.Ab.Base:=⟨w.heap.size,w⟩
 obtain ⟨Ls,H,ss,hl,hf,hb,hr⟩:=Go.Ab.CsOK.top (w0.app w3)
 obtain ⟨l0,m0,e0,r0,hr⟩:=hr
 have r3:=hr
 obtain ⟨s0,es0,x0⟩:=RMx.ok r0
 subst es0
 obtain ⟨la3,lb3,eb3,⟨ea3,wa3⟩,rb3⟩:=r3
 obtain ⟨s3,es3,x3⟩:=RIs.ok rb3
 subst ea3 es3 eb3
 subst e0
 rcases hf with _ | ⟨q0,hf⟩
 rcases hf with _ | ⟨q3a,hf⟩
 rcases hf with _ | ⟨q3,hf⟩
 obtain rfl:n3a=d3.1:=by cases q3a;rfl
 obtain ⟨v,h',⟨N,hN⟩,rfl⟩:=call4 H s0 d0 x0 n1 (Go.Ab.lit_u8 w1) n2 (Go.Ab.lit_u8 w2) s3 d3 x3 (Go.Ab.lit_i64 wa3)
 exact Go.Ab.top_belowR yr (QnB w hF) (Ls:=Ls) (h:=H) hl ⟨Nat.le_refl _,fun _ _=>rfl⟩ hb (.cons (.sc q0) (.cons (.sc (.int _ _)) (.cons (.sc (.int _ _)) (.cons (.agg (.cons (.int _ _) (.cons q3 .nil))) .nil)))) (hN N (Nat.le_refl _))
def Vy:List (String × DataW Unit):=[("math/bits.deBruijn32tab", Rows.laid_math_bits_deBruijn32tab),("math/bits.deBruijn64tab", Rows.laid_math_bits_deBruijn64tab),("internal/strconv.uint64pow10", Rows.laid_internal_strconv_uint64pow10)]
theorem QgV (os:Os) (args:Array Value):laidMetH Tryz.prog Vy ((World.laidAll Tryz.prog os Vy).forCall (fun _ _=>0) ⟨#[],args,[]⟩).memory:=by
 rw [MakeChecks.laidMetH_plain _ _ _ (by kernel_rfl)];exact laidMet_laidAll _ (by kernel_rfl) (by kernel_rfl)
theorem facts {W:World} (hsh:W.ShapedOpen Tryz.prog) (hL:laidMetH Tryz.prog Vy W):Facts W:=by
 rw [MakeChecks.laidMetH_plain _ _ _ (by kernel_rfl)] at hL
 have hl:laidMet Tryz.prog [("math/bits.deBruijn32tab", Rows.laid_math_bits_deBruijn32tab),("math/bits.deBruijn64tab", Rows.laid_math_bits_deBruijn64tab),("internal/strconv.uint64pow10", Rows.laid_internal_strconv_uint64pow10)] W:=hL
 refine ⟨?_,?_⟩
 ·have e:Rows.laid_internal_strconv_uint64pow10=(Lib.tabData .u64 Lib.pow10Tab:DataW Unit):=by kernel_rfl
  have h3:=hl.tail.tail
  rw [e] at h3
  exact Lib.tabIs_of_head (g:=2) (by kernel_rfl) (by kernel_rfl) Tryz.underlying193 Tryz.underlying99 (by kernel_rfl) (by kernel_rfl) h3
 ·have e:Rows.laid_math_bits_deBruijn64tab=(Lib.tabData .u8 Qea:DataW Unit):=by kernel_rfl
  have h3:=hl.tail
  rw [e] at h3
  exact Lib.tabIs_of_head (g:=3) (by kernel_rfl) (by kernel_rfl) Tryz.underlying202 Tryz.underlying5 (by kernel_rfl) (by kernel_rfl) h3
set_option maxRecDepth 100000 in
theorem Qgi (os:Os) (started:os.Started) (H:Type) (enc:TypeId × Value→H) :
  ReturnsInHanded {} Tryz.checked os 4 .any (fun w args=>(Rows.polymatrixRowsSpec.pre enc Tryz.prog Tryz.f4 [] false w args∧laidMetH Tryz.prog Vy w)∧sizedMet enc Tryz.prog Tryz.f4 (OpenSpec.ofChange Rows.polymatrixRowsSpec) false w args)
   (Rows.polymatrixRowsSpec.post enc Tryz.prog Tryz.f4 false true false false):=by
 refine returnsInHanded_of_calls (C:=Tryz.checked) own started (by kernel_rfl)
  (ChangeSpec.witness_shaped (enc:=enc) (C:=Tryz.checked) (os:=os) (X:=fun w _=>laidMetH Tryz.prog Vy w) false (World.laidAll Tryz.prog os Vy) #[.slice none 0 0,.int .u8 0,.int .u8 0,.agg #[.int .i64 0,.slice none 0 0]] 8 (World.laidAll_os _ _ _) (World.shaped_of_ZipB (by kernel_rfl) (by kernel_rfl)) (by kernel_rfl) (by kernel_rfl) (by kernel_rfl) (QgV os _)) ?_
 intro w0 tape i0 _ hsh _ hok hpre _
 obtain ⟨_,_,_,fn',hfn',_,_,_,_,hval0⟩:=hok
 obtain rfl:fn'=Tryz.f4:=Option.some.inj (hfn'.symm.trans Tryz.func4)
 obtain ⟨⟨⟨ds,gs,before,hw0,hc⟩,hx⟩,hz⟩:=hpre
 have hW:=DataW.Whole.of_heap (w':=w0.forCall tape i0) (by rfl) hw0
 have hP:=facts hsh (laidMetH.of_heap (w':=w0.forCall tape i0) (by rfl) hx)
 generalize w0.heap.size=base at hval0
 clear hw0 hx hz hc hsh
 generalize w0.forCall tape i0=W at *
 generalize i0.args=args at *
 have hval:∀ (j:Nat) t v,Tryz.f4.params[j]?=some t→args[j]?=some v→Value.okWide Tryz.prog W .any base t v:=hval0
 have hW':=hW
 obtain ⟨p,q,hA0,hV,rfl,hfz,hnd⟩:=hW
 have hA:DataW.TrodAll enc Tryz.prog W 0 (fun _=>true) true Tryz.f4.params.toList args.toList ds p:=hA0
 rw [Tryz.params4] at hA hval
 obtain ⟨v0,vs0,d0,ds0,p0,q0,hargs,rfl,rfl,h0,r0⟩:=trodAll_cons hA
 obtain ⟨v1,vs1,d1,ds1,p1,q1,rfl,rfl,rfl,h1,r1⟩:=trodAll_cons r0
 obtain ⟨v2,vs2,d2,ds2,p2,q2,rfl,rfl,rfl,h2,r2⟩:=trodAll_cons r1
 obtain ⟨v3,vs3,d3,ds3,p3,q3,rfl,rfl,rfl,h3,r3⟩:=trodAll_cons r2
 obtain ⟨rfl,rfl,rfl⟩:=trodAll_nil r3
 obtain rfl:args=#[v0,v1,v2,v3]:=by cases args;simp_all
 obtain ⟨rfl,rfl⟩:=trodVars_none hV
 have k0:=h0
 have lt0:∀ x∈p0,x.block < W.heap.size:=by obtain ⟨m,hm⟩:=k0;exact DataW.trod_lt m _ _ _ hm
 obtain ⟨a0,len0,cap0,rfl⟩:=okWide_slice Tryz.underlying22 (hval 0 22 v0 rfl rfl)
 obtain ⟨d0,w0⟩:∃ d,Go.Ab.CsOK W (RMx d) [.slice a0 len0 cap0]:=by
  obtain ⟨fuel,hf⟩:=k0
  have:=((Qle Tryz.underlying22 (by kernel_rfl) (Qiy Tryz.underlying52 (by kernel_rfl) (QcS Tryz.underlying44 ⟨rfl,rfl⟩ ⟨rfl,rfl⟩ Tryz.underlying3 Tryz.underlying42 (by kernel_rfl) (by kernel_rfl) (by kernel_rfl)))) fuel _ _ hf).2
  simpa [Value.cells] using this
 obtain ⟨n1,rfl,rfl,rfl,w1⟩:=open_int Tryz.underlying5 (hval 1 5 v1 rfl rfl) h1
 obtain ⟨n2,rfl,rfl,rfl,w2⟩:=open_int Tryz.underlying5 (hval 2 5 v2 rfl rfl) h2
 have k3:=h3
 have lt3:∀ x∈p3,x.block < W.heap.size:=by obtain ⟨m,hm⟩:=k3;exact DataW.trod_lt m _ _ _ hm
 obtain ⟨u3a,u3b,y3a,y3b,m3,rfl,rfl,rfl,h3a,h3b⟩:=Go.Joins.open_agg2 Tryz.underlying44 (by kernel_rfl) (by kernel_rfl) (hval 3 44 v3 rfl rfl) h3
 obtain ⟨n3a,e3a,rfl,w3a⟩:=DataW.trod_int Tryz.underlying3 h3a
 simp at e3a
 subst e3a
 obtain ⟨a3,len3,cap3,rfl⟩:∃ a l c,u3b=.slice a l c:=by
  rcases DataW.trod_slice Tryz.underlying42 h3b with ⟨hcs,_⟩ | ⟨a,l,c,_,_,_,_,hcs,_⟩
  ·exact ⟨none,0,0,by simpa using hcs⟩
  ·exact ⟨some a,l,c,by simpa using hcs⟩
 obtain ⟨d3,w3⟩:∃ d,Go.Ab.CsOK W (Qfa d) [.int .i64 n3a,.slice a3 len3 cap3]:=by
  obtain ⟨fuel,hf⟩:=k3
  have:=((QcS Tryz.underlying44 ⟨rfl,rfl⟩ ⟨rfl,rfl⟩ Tryz.underlying3 Tryz.underlying42 (by kernel_rfl) (by kernel_rfl) (by kernel_rfl)) fuel _ _ hf).2
  simpa [Value.cells] using this
 clear hA0 hval0
 refine (walk a0 len0 cap0 d0 n1 n2 n3a a3 len3 cap3 d3 W w0 w1 w2 w3 hP).mono fun e W' ⟨he,bel⟩=>?_
 subst he
 refine ChangeSpec.post_blind ?_
 exact ⟨_,_,_,[],_,[],hW',trodAll_mk1 (shut_bool Tryz.underlying4 _),(trodAll_cons_mk (Below.trod Qdy (by kernel_rfl) (of_decide_eq_true (by kernel_rfl)) k0 bel lt0) (trodAll_cons_mk (shut_int Tryz.underlying5 w1) (trodAll_cons_mk (shut_int Tryz.underlying5 w2) (trodAll_cons_mk (Below.trod Qdy (by kernel_rfl) (of_decide_eq_true (by kernel_rfl)) k3 bel lt3) trodAll_mk0)))),rfl,bel.frame _,fun h=>by cases h⟩
theorem Qab:Rows.polymatrixRowsRow.holds Tryz.pinned (OpenSpec.ofChange Rows.polymatrixRowsSpec) :=
 OpenClaim.holds_of_wide 4 Tryz.f4 rfl rfl rfl rfl rfl rfl rfl ⟨rfl,rfl,rfl,rfl,rfl⟩ rfl rfl rfl rfl rfl (by kernel_rfl) Tryz.func4 (by kernel_rfl)
  (of_decide_eq_true (by kernel_rfl)) (by unfold Func.isWrapper;first | (rw [if_pos (by decide +kernel)];kernel_rfl) | (rw [if_neg (by decide +kernel)];exact ⟨rfl,rfl⟩))
  (fun os started H enc _=>Qgi os started H enc)
theorem polymatrixRows_proved:Rows.PolymatrixRowsCardSaid :=
 Claim7.holds_tied_plain_at .later [] [.data,.data,.data] true (true, "3a1cc6b549df5b98f0eda777768ad5c0d60734d5a6a34ceb246611653118709d") false
  Qab (fun _ h=>by cases h) (by kernel_rfl) (fun _ h=>by cases h) polymatrixRows_row_tie rfl ⟨rfl,rfl⟩ (by kernel_rfl) rfl
  (fun f fn hf hfn=>by
   obtain rfl:f=4:=Option.some.inj ((show Tryz.prog.funcNamed "unravel/unravellaw24.PolymatrixRows" = some 4 by kernel_rfl).symm.trans hf) |>.symm
   obtain rfl:fn=Tryz.f4:=(Option.some.inj (Tryz.func4.symm.trans hfn)).symm
   exact ⟨by kernel_rfl,fun j t ht=>by
    rw [Tryz.params4] at ht
    have hm:t∈[22,5,5,44]:=by simpa using Array.mem_of_getElem? ht
    have hall:([22,5,5,44].all fun u=>!Tryz.prog.wantsStandIn u)=true:=by kernel_rfl
    exact (show Tryz.prog.wantsStandIn t=false by simpa using List.all_eq_true.1 hall t hm)⟩)
  (by kernel_rfl)
#print axioms polymatrixRows_proved
