/- Integers of 128 bits: products,tests,quotients: contracts. -/
import Derived.Test.YtofknpknogfijaaGreatDoorW3
import Derived.Test.YtofknpknogfijaaGreatDoorAb2
import Derived.Test.YtofknpknogfijaaGreatDoorAb41
namespace Go.Proofs.YtofknpknogfijaaGreatDoor
open Go.Ab
set_option linter.all false
set_option maxHeartbeats 16000000
set_option maxRecDepth 20000
attribute [local irreducible] Ql wA Xr Xp QA Qp QW QY
variable [HB]
theorem QcO {v:Int} (h0:0≤v) (h1:v < 340282366920938463463374607431768211456):wd v=[.int .u64 (v / 18446744073709551616),.int .u64 (v%18446744073709551616)]:=by
 unfold wd
 rw [Ht (a:=v / 18446744073709551616) (by omega) (by omega)]
theorem Qmn (h0:Qa) (v:Int) (hv : -170141183460469231731687303715884105728 < v∧v < 170141183460469231731687303715884105728):∃ r h',Cal FT HKt 88 [.agg (wd v)] h0 r h'∧Ext h0 h'∧r=.tup [.agg (wd (v.natAbs:Int)),.sc (.bool (decide (v < 0)))]:=by
 refine Cal.of (F:=a88) rfl rfl rfl ?_
 have k74:=fun H=>QdT H v
 by_cases h:v < 0
 ·rw [decide_eq_true h]
  have e:v / 18446744073709551616%18446744073709551616 / (2 ^ 63:Nat)=1:=by omega
  have ea:(v.natAbs:Int) = -v:=by omega
  rw [ea]
  generalize hw:wd (-v)=W at *
  unfold wd at k74 ⊢
  obtain ⟨w1,w2,rfl⟩:∃ w1 w2,W=[w1,w2]:=⟨_,_,hw.symm⟩
  repeat' (first | refine Qg ?_ | refine Qb ?_ | refine QD ?_ | refine Qt ?_ | refine Qf ?_ | ((refine Qh ?_);refine Qj rfl ?_) | ((refine Qe ?_);first | refine QE rfl rfl ?_ | refine Qu rfl rfl rfl ?_) | ((refine Qc ?_);first | (have z:=e1;refine Xb ?_;intro h2 e2 c2;have d2:=c1.ext e2) | (refine Qx rfl ?_;intro h1 e1 c1) | refine QQ rfl d2 ?_ | refine QI rfl d2 ?_ | (refine XN (q:=63) rfl rfl rfl (by omega) ?_;rw [e]) | (refine Qi rfl (k74 _) ?_;rintro r h3 ⟨e3,rfl⟩;have c3:=c2.ext e3) | (refine Xm rfl rfl c3 ?_;intro h4 w4) | refine Qo rfl ?_ | refine XD rfl rfl (by omega) ?_ | refine Xt rfl rfl ?_))
  exact ⟨.inr rfl,Zb rfl w4.cel.read rfl ⟨w4.ext (e1.trans (e2.trans e3)) e1.len,rfl⟩⟩
 ·rw [decide_eq_false h]
  have e:v / 18446744073709551616%18446744073709551616 / (2 ^ 63:Nat)=0:=by omega
  have ea:(v.natAbs:Int)=v:=by omega
  rw [ea]
  unfold wd
  repeat' (first | refine Qg ?_ | refine Qb ?_ | refine Qn ?_ | refine Qt ?_ | refine Qf ?_ | ((refine Qh ?_);refine Qk rfl ?_) | ((refine Qe ?_);first | refine QE rfl rfl ?_ | refine Qu rfl rfl rfl ?_) | ((refine Qc ?_);first | (have z:=e1;refine Xb ?_;intro h2 e2 c2;have d2:=c1.ext e2) | (refine Qx rfl ?_;intro h1 e1 c1) | refine QQ rfl d2 ?_ | refine QI rfl d2 ?_ | (refine XN (q:=63) rfl rfl rfl (by omega) ?_;rw [e]) | (refine Xm rfl rfl c2 ?_;intro h4 w4) | refine Qo rfl ?_ | refine Xf rfl rfl (by omega) ?_ | refine Xt rfl rfl ?_))
  exact ⟨.inr rfl,Zb rfl w4.cel.read rfl ⟨w4.ext (e1.trans e2) e1.len,rfl⟩⟩
def smV (v:Int):Int:=if v.natAbs≤1125899906842624 then v else 0
theorem Qhc (h0:Qa) (v:Int) (hv : -170141183460469231731687303715884105728 < v∧v < 170141183460469231731687303715884105728):∃ r h',Cal FT HKt 59 [.agg (wd v)] h0 r h'∧Ext h0 h'∧r=.tup [.sc (.int .i64 (smV v)),.sc (.bool (decide (v.natAbs≤1125899906842624)))]:=by
 refine Cal.of (F:=a59) rfl rfl rfl ?_
 have k69:=fun H=>Qmn H v hv
 rw [QcO (v:=(v.natAbs:Int)) (by omega) (by omega)] at k69
 unfold smV
 generalize hW:wd v=W at *
 obtain ⟨w1,w2,rfl⟩:∃ w1 w2,W=[w1,w2]:=⟨_,_,hW.symm⟩
 generalize hm:v.natAbs=m at *
 by_cases h1:m≤1125899906842624
 ·rw [if_pos h1,decide_eq_true h1]
  have e0:((m:Nat):Int) / 18446744073709551616=0:=by omega
  have e1:((m:Nat):Int)%18446744073709551616=m:=by omega
  rw [e0,e1] at k69
  by_cases h3:v < 0
  ·rw [decide_eq_true h3] at k69
   repeat' (first | refine Qg ?_ | refine Qb ?_ | refine QD ?_ | refine Qn ?_ | refine Qt ?_ | refine Qf ?_ | ((refine Qh ?_);first | refine Qj rfl ?_ | refine Qk rfl ?_) | ((refine Qe ?_);first | refine Qq rfl ?_ | refine QE rfl rfl ?_ | refine Qu rfl rfl rfl ?_) | ((refine Qc ?_);first | (refine Qx rfl ?_;intro h1 e1 c1) | refine QI rfl c1 ?_ | (refine Qi rfl (k69 _) ?_;rintro r h3 ⟨e3,rfl⟩) | (refine Yd rfl ?_;intro h4 e4 c4) | refine QQ rfl c4 ?_ | refine Qz rfl c4 ?_ | refine QL rfl ?_ | refine Qo rfl ?_ | refine QC rfl rfl ?_ | refine JR rfl (by omega) ?_ | refine Yx rfl (by omega) ?_ | refine XT rfl rfl (by omega) ?_ | refine XS rfl rfl (by omega) ?_ | refine Xt rfl rfl ?_))
   exact ⟨.inr rfl,e1.trans (e3.trans e4),by rw [show v = -((m:Nat):Int) by omega]⟩
  ·rw [decide_eq_false h3] at k69
   repeat' (first | refine Qg ?_ | refine Qb ?_ | refine Qn ?_ | refine Qt ?_ | refine Qf ?_ | ((refine Qh ?_);refine Qk rfl ?_) | ((refine Qe ?_);first | refine Qq rfl ?_ | refine QE rfl rfl ?_ | refine Qu rfl rfl rfl ?_) | ((refine Qc ?_);first | (refine Qx rfl ?_;intro h1 e1 c1) | refine QI rfl c1 ?_ | (refine Qi rfl (k69 _) ?_;rintro r h3 ⟨e3,rfl⟩) | (refine Yd rfl ?_;intro h4 e4 c4) | refine QQ rfl c4 ?_ | refine Qz rfl c4 ?_ | refine QL rfl ?_ | refine Qo rfl ?_ | refine QC rfl rfl ?_ | refine Yx rfl (by omega) ?_ | refine XT rfl rfl (by omega) ?_ | refine XS rfl rfl (by omega) ?_ | refine Xt rfl rfl ?_))
   exact ⟨.inr rfl,e1.trans (e3.trans e4),by rw [show v=((m:Nat):Int) by omega]⟩
 ·rw [if_neg h1,decide_eq_false h1]
  by_cases h2:((m:Nat):Int) / 18446744073709551616=0
  ·have e1:((m:Nat):Int)%18446744073709551616=m:=by omega
   rw [h2,e1] at k69
   repeat' (first | refine Qg ?_ | refine Qb ?_ | refine QD ?_ | refine Qt ?_ | refine Qf ?_ | ((refine Qh ?_);refine Qj rfl ?_) | ((refine Qe ?_);first | refine Qq rfl ?_ | refine QE rfl rfl ?_ | refine Qu rfl rfl rfl ?_) | ((refine Qc ?_);first | (refine Qx rfl ?_;intro h1 e1 c1) | refine QI rfl c1 ?_ | (refine Qi rfl (k69 _) ?_;rintro r h3 ⟨e3,rfl⟩) | (refine Yd rfl ?_;intro h4 e4 c4) | refine QQ rfl c4 ?_ | refine Qz rfl c4 ?_ | refine QL rfl ?_ | refine Qo rfl ?_ | refine QC rfl rfl ?_ | refine XV rfl rfl (by omega) ?_ | refine XS rfl rfl (by omega) ?_ | refine Xt rfl rfl ?_))
   exact ⟨.inr rfl,e1.trans (e3.trans e4),rfl⟩
  ·repeat' (first | refine Qg ?_ | refine Qb ?_ | refine QD ?_ | refine Qt ?_ | refine Qf ?_ | ((refine Qh ?_);refine Qj rfl ?_) | ((refine Qe ?_);first | refine Qq rfl ?_ | refine QE rfl rfl ?_ | refine Qu rfl rfl rfl ?_) | ((refine Qc ?_);first | (refine Qx rfl ?_;intro h1 e1 c1) | refine QI rfl c1 ?_ | (refine Qi rfl (k69 _) ?_;rintro r h3 ⟨e3,rfl⟩) | (refine Yd rfl ?_;intro h4 e4 c4) | refine QQ rfl c4 ?_ | refine Xd rfl ?_ | refine Qo rfl ?_ | refine QS rfl rfl ?_ | refine Yg rfl rfl (by omega) ?_ | refine Xt rfl rfl ?_))
   exact ⟨.inr rfl,e1.trans (e3.trans e4),rfl⟩
theorem Qhb (h0:Qa) (x y:Int) (hx : -9223372036854775808≤x∧x≤9223372036854775807) (hy : -9223372036854775808≤y∧y≤9223372036854775807) :
  ∃ r h',Cal FT HKt 74 [.sc (.int .i64 x),.sc (.int .i64 y)] h0 r h'∧Ext h0 h'∧r=.agg (wd (x*y)):=by
 refine Cal.of (F:=a74) rfl rfl rfl ?_
 have hm0:(0:Int)≤(x.natAbs:Int)*(y.natAbs:Int):=Hq (by omega) (by omega)
 have hm1:(x.natAbs:Int)*(y.natAbs:Int)≤9223372036854775808*9223372036854775808:=by
  have h1:(x.natAbs:Int)*(y.natAbs:Int)≤9223372036854775808*(y.natAbs:Int):=GW (by omega) (by omega)
  omega
 have hm:((x.natAbs:Int)*(y.natAbs:Int))=((x*y).natAbs:Int):=by rw [Int.natAbs_mul,GZ]
 have kx:=fun H=>QdV H x hx
 have ky:=fun H=>QdV H y hy
 have km:=fun H=>QdU H (x.natAbs:Int) (y.natAbs:Int) (by omega) (by omega)
 have kn:=fun H=>QdT H ((x.natAbs:Int)*(y.natAbs:Int))
 rw [QcO hm0 (by omega)] at kn
 by_cases h1:x < 0
 ·by_cases h2:y < 0
  ·have e:x*y=(x.natAbs:Int)*(y.natAbs:Int):=by
    rw [show (x.natAbs:Int) = -x by omega,show (y.natAbs:Int) = -y by omega,Int.neg_mul_neg]
   rw [e,QcO hm0 (by omega)]
   generalize (x.natAbs:Int)*(y.natAbs:Int)=m at *
   repeat' (first | refine Qg ?_ | refine Qb ?_ | refine Qn ?_ | refine Qt ?_ | refine Qf ?_ | ((refine Qh ?_);refine Qk rfl ?_) | ((refine Qe ?_);first | refine Qq rfl ?_ | refine Qu rfl rfl rfl ?_ | refine QG rfl rfl rfl rfl ?_ | refine QU rfl rfl rfl rfl rfl ?_) | ((refine Qc ?_);first | (have z:=e4;refine VF rfl rfl ?_) | (have z:=e4;refine QI rfl c4 ?_) | (refine Yd rfl ?_;intro h4 e4 c4;have d1:=c1.ext e4) | (refine Xb ?_;intro h1 e1 c1) | (refine Qi rfl (kx _) ?_;rintro r _ ⟨rfl,rfl⟩) | (refine Qi rfl (ky _) ?_;rintro r _ ⟨rfl,rfl⟩) | (refine Qi rfl (km _) ?_;rintro r _ ⟨rfl,rfl⟩) | (refine Xm rfl rfl d1 ?_;intro h5 w5) | refine Qo rfl ?_ | refine Qy rfl rfl (by omega) ?_ | refine Xt rfl rfl ?_))
   exact ⟨.inr rfl,Xg rfl w5.cel.read ⟨w5.ext (e1.trans e4) (Gf _),rfl⟩⟩
  ·have e:x*y = -((x.natAbs:Int)*(y.natAbs:Int)):=by
    rw [show (x.natAbs:Int) = -x by omega,show (y.natAbs:Int)=y by omega,Int.neg_mul,Int.neg_neg]
   rw [e]
   generalize (x.natAbs:Int)*(y.natAbs:Int)=m at *
   repeat' (first | refine Qg ?_ | refine Qb ?_ | refine QD ?_ | refine Qt ?_ | refine Qf ?_ | ((refine Qh ?_);refine Qj rfl ?_) | ((refine Qe ?_);first | refine Qq rfl ?_ | refine Qu rfl rfl rfl ?_ | refine QG rfl rfl rfl rfl ?_ | refine QU rfl rfl rfl rfl rfl ?_) | ((refine Qc ?_);first | (have z:=e4;refine VF rfl rfl ?_) | (have z:=e4;refine QI rfl c4 ?_) | (refine Yd rfl ?_;intro h4 e4 c4;have d1:=c1.ext e4) | (refine Xb ?_;intro h1 e1 c1) | (refine Qi rfl (kx _) ?_;rintro r _ ⟨rfl,rfl⟩) | (refine Qi rfl (ky _) ?_;rintro r _ ⟨rfl,rfl⟩) | (refine Qi rfl (km _) ?_;rintro r _ ⟨rfl,rfl⟩) | (refine Qi rfl (kn _) ?_;rintro r h6 ⟨e6,rfl⟩;have d6:=d1.ext e6) | (refine Xm rfl rfl d6 ?_;intro h5 w5) | refine Qo rfl ?_ | refine Qy rfl rfl (by omega) ?_ | refine QM rfl rfl (by omega) ?_ | refine Xt rfl rfl ?_))
   exact ⟨.inr rfl,Xg rfl w5.cel.read ⟨w5.ext (e1.trans (e4.trans e6)) (Gf _),rfl⟩⟩
 ·by_cases h2:y < 0
  ·have e:x*y = -((x.natAbs:Int)*(y.natAbs:Int)):=by
    rw [show (x.natAbs:Int)=x by omega,show (y.natAbs:Int) = -y by omega,Int.mul_neg,Int.neg_neg]
   rw [e]
   generalize (x.natAbs:Int)*(y.natAbs:Int)=m at *
   repeat' (first | refine Qg ?_ | refine Qb ?_ | refine QD ?_ | refine Qt ?_ | refine Qf ?_ | ((refine Qh ?_);refine Qj rfl ?_) | ((refine Qe ?_);first | refine Qq rfl ?_ | refine Qu rfl rfl rfl ?_ | refine QG rfl rfl rfl rfl ?_ | refine QU rfl rfl rfl rfl rfl ?_) | ((refine Qc ?_);first | (have z:=e4;refine VF rfl rfl ?_) | (have z:=e4;refine QI rfl c4 ?_) | (refine Yd rfl ?_;intro h4 e4 c4;have d1:=c1.ext e4) | (refine Xb ?_;intro h1 e1 c1) | (refine Qi rfl (kx _) ?_;rintro r _ ⟨rfl,rfl⟩) | (refine Qi rfl (ky _) ?_;rintro r _ ⟨rfl,rfl⟩) | (refine Qi rfl (km _) ?_;rintro r _ ⟨rfl,rfl⟩) | (refine Qi rfl (kn _) ?_;rintro r h6 ⟨e6,rfl⟩;have d6:=d1.ext e6) | (refine Xm rfl rfl d6 ?_;intro h5 w5) | refine Qo rfl ?_ | refine Qy rfl rfl (by omega) ?_ | refine QM rfl rfl (by omega) ?_ | refine Xt rfl rfl ?_))
   exact ⟨.inr rfl,Xg rfl w5.cel.read ⟨w5.ext (e1.trans (e4.trans e6)) (Gf _),rfl⟩⟩
  ·have e:x*y=(x.natAbs:Int)*(y.natAbs:Int):=by
    rw [show (x.natAbs:Int)=x by omega,show (y.natAbs:Int)=y by omega]
   rw [e,QcO hm0 (by omega)]
   generalize (x.natAbs:Int)*(y.natAbs:Int)=m at *
   repeat' (first | refine Qg ?_ | refine Qb ?_ | refine Qn ?_ | refine Qt ?_ | refine Qf ?_ | ((refine Qh ?_);refine Qk rfl ?_) | ((refine Qe ?_);first | refine Qq rfl ?_ | refine Qu rfl rfl rfl ?_ | refine QG rfl rfl rfl rfl ?_ | refine QU rfl rfl rfl rfl rfl ?_) | ((refine Qc ?_);first | (have z:=e4;refine VF rfl rfl ?_) | (have z:=e4;refine QI rfl c4 ?_) | (refine Yd rfl ?_;intro h4 e4 c4;have d1:=c1.ext e4) | (refine Xb ?_;intro h1 e1 c1) | (refine Qi rfl (kx _) ?_;rintro r _ ⟨rfl,rfl⟩) | (refine Qi rfl (ky _) ?_;rintro r _ ⟨rfl,rfl⟩) | (refine Qi rfl (km _) ?_;rintro r _ ⟨rfl,rfl⟩) | (refine Xm rfl rfl d1 ?_;intro h5 w5) | refine Qo rfl ?_ | refine QM rfl rfl (by omega) ?_ | refine Xt rfl rfl ?_))
   exact ⟨.inr rfl,Xg rfl w5.cel.read ⟨w5.ext (e1.trans e4) (Gf _),rfl⟩⟩
def quoOk (v c:Int):Prop:=c ∣ v∧(v / c).natAbs≤1125899906842624
instance (v c:Int):Decidable (quoOk v c):=inferInstanceAs (Decidable (_∧_))
end Go.Proofs.YtofknpknogfijaaGreatDoor
namespace Go.Proofs.YtofknpknogfijaaGreatDoor
set_option linter.all false
abbrev Tm:=Int × Int
def S (f:Int→Int):List Tm→Int
 | []=>0
 | t::r=>t.2*f t.1+S f r
theorem yM (f:Int→Int):∀ a b,S f (a++b)=S f a+S f b
 | [],b=>by simp [S]
 | t::a,b=>by simp [S,yM f a b,Int.add_assoc]
theorem YC {f g:Int→Int}:∀ {l:List Tm},(∀ t∈l,f t.1=g t.1)→S f l=S g l
 | [],_=>rfl
 | t::r,h=>by
  simp only [S]
  rw [h t (.head _),YC fun u hu=>h u (.tail _ hu)]
theorem QdZ (f g:Int→Int):∀ l,S (fun x=>f x+g x) l=S f l+S g l
 | []=>rfl
 | t::r=>by simp only [S,QdZ f g r,Int.mul_add];omega
theorem zE (f:Int→Int) (c:Int):∀ l,S (fun x=>c*f x) l=c*S f l
 | []=>by simp [S]
 | t::r=>by simp only [S,zE f c r,Int.mul_add];rw [Int.mul_left_comm]
theorem zg:∀ l,S (fun _=>0) l=0
 | []=>rfl
 | t::r=>by simp [S,zg r]
theorem Qh1 (f:Int→Int→Int):∀ a b,S (fun x=>S (fun y=>f x y) b) a=S (fun y=>S (fun x=>f x y) a) b
 | [],b=>by simp [S,zg]
 | t::a,b=>by
  simp only [S]
  rw [Qh1 f a b,QdZ,zE]
def dl (e x:Int):Int:=if x=e then 1 else 0
theorem YX (e:Int):dl e e=1:=if_pos rfl
theorem Ja {e x:Int} (h:x≠e):dl e x=0:=if_neg h
def cf (l:List Tm) (e:Int):Int:=S (dl e) l
theorem yF {l:List Tm} {e:Int} (h:∀ t∈l,t.1≠e):cf l e=0:=by
 unfold cf
 rw [YC (g:=fun _=>0) fun t ht=>Ja (h t ht),zg]
theorem yG (t:Tm) (r:List Tm) (e:Int):cf (t::r) e=t.2*dl e t.1+cf r e:=rfl
theorem QcB (a b:List Tm) (e:Int):cf (a++b) e=cf a e+cf b e:=yM _ _ _
structure Can (l:List Tm):Prop where
 asc:l.Pairwise fun a b=>a.1 < b.1
 nz:∀ t∈l,t.2≠0
theorem Can.nil:Can []:=⟨.nil,by simp⟩
theorem Can.tail {t:Tm} {r:List Tm} (h:Can (t::r)):Can r:=⟨(List.pairwise_cons.1 h.asc).2,fun u hu=>h.nz u (.tail _ hu)⟩
theorem Can.lt {t:Tm} {r:List Tm} (h:Can (t::r)):∀ u∈r,t.1 < u.1:=(List.pairwise_cons.1 h.asc).1
theorem Can.cons {t:Tm} {r:List Tm} (h:Can r) (h0:t.2≠0) (hl:∀ u∈r,t.1 < u.1):Can (t::r) :=
 ⟨List.pairwise_cons.2 ⟨hl,h.asc⟩,fun u hu=>(List.mem_cons.1 hu).elim (fun e=>by rw [e];exact h0) (h.nz u)⟩
theorem Can.cf_head {t:Tm} {r:List Tm} (h:Can (t::r)):cf (t::r) t.1=t.2:=by
 rw [yG,YX,yF fun u hu=>by have:=h.lt u hu;omega];omega
theorem Can.cf_low {t:Tm} {r:List Tm} (h:Can (t::r)) {e:Int} (he:e < t.1):cf (t::r) e=0:=by
 refine yF fun u hu=>?_
 rcases List.mem_cons.1 hu with rfl | hu
 ·omega
 ·have:=h.lt u hu;omega
theorem Can.ext:∀ {p q:List Tm},Can p→Can q→(∀ e,cf p e=cf q e)→p=q
 | [],[],_,_,_=>rfl
 | [],u::q,_,hq,h=>by
  have:=h u.1
  rw [hq.cf_head] at this
  exact absurd this.symm (hq.nz u (.head _))
 | t::p,[],hp,_,h=>by
  have:=h t.1
  rw [hp.cf_head] at this
  exact absurd this (hp.nz t (.head _))
 | t::p,u::q,hp,hq,h=>by
  have h1:t.1=u.1:=by
   rcases Int.lt_trichotomy t.1 u.1 with hlt | he | hgt
   ·have:=h t.1
    rw [hp.cf_head,hq.cf_low hlt] at this
    exact absurd this (hp.nz t (.head _))
   ·exact he
   ·have:=h u.1
    rw [hq.cf_head,hp.cf_low hgt] at this
    exact absurd this.symm (hq.nz u (.head _))
  have h2:t.2=u.2:=by
   have:=h t.1
   rw [hp.cf_head,h1,hq.cf_head] at this
   exact this
  have h3:t=u:=Prod.ext h1 h2
  subst h3
  rw [Can.ext hp.tail hq.tail fun e=>by have:=h e;rw [yG,yG] at this;omega]
def put (e c:Int):List Tm:=if c=0 then [] else [(e,c)]
theorem Va (f:Int→Int) (e c:Int):S f (put e c)=c*f e:=by
 unfold put
 split
 ·rename_i h;simp [S,h]
 ·simp [S]
theorem Y7 {e c:Int} {t:Tm} (h:t∈put e c):t=(e,c)∧c≠0:=by
 unfold put at h
 split at h
 ·simp at h
 ·rename_i hc;exact ⟨by simpa using h,hc⟩
theorem J6 {e c:Int} {r:List Tm} (hr:Can r) (hl:∀ u∈r,e < u.1):Can (put e c++r):=by
 unfold put
 split
 ·simpa using hr
 ·rename_i hc;exact hr.cons hc hl
def mrg (f:Int→Int→Int):List Tm→List Tm→List Tm
 | [],[]=>[]
 | t::p,[]=>put t.1 (f t.2 0)++mrg f p []
 | [],u::q=>put u.1 (f 0 u.2)++mrg f [] q
 | t::p,u::q=>if t.1 < u.1 then put t.1 (f t.2 0)++mrg f p (u::q) else if u.1 < t.1 then put u.1 (f 0 u.2)++mrg f (t::p) q else put t.1 (f t.2 u.2)++mrg f p q
termination_by p q=>p.length+q.length
theorem Vb {f:Int→Int→Int} {x y:Int} (hf:∀ a b,f a b=x*a+y*b) (g:Int→Int):∀ p q,S g (mrg f p q)=x*S g p+y*S g q
 | [],[]=>by rw [mrg];simp [S]
 | t::p,[]=>by
  rw [mrg,yM,Va,Vb hf g p [],hf]
  simp only [S,Int.mul_zero,Int.add_zero,Int.mul_add,Int.mul_assoc]
 | [],u::q=>by
  rw [mrg,yM,Va,Vb hf g [] q,hf]
  simp only [S,Int.mul_zero,Int.zero_add,Int.mul_add,Int.mul_assoc]
 | t::p,u::q=>by
  rw [mrg]
  split
  ·rw [yM,Va,Vb hf g p (u::q),hf]
   simp only [S,Int.mul_zero,Int.add_zero,Int.mul_add,Int.mul_assoc];omega
  ·split
   ·rw [yM,Va,Vb hf g (t::p) q,hf]
    simp only [S,Int.mul_zero,Int.zero_add,Int.mul_add,Int.mul_assoc];omega
   ·have he:t.1=u.1:=by omega
    rw [yM,Va,Vb hf g p q,hf]
    simp only [S,Int.mul_add,Int.mul_assoc,Int.add_mul,he];omega
termination_by p q=>p.length+q.length
theorem Y8 {f:Int→Int→Int}:∀ {p q:List Tm} {v:Tm},v∈mrg f p q→(∃ t∈p,t.1=v.1)∨∃ u∈q,u.1=v.1
 | [],[],v,h=>by rw [mrg] at h;simp at h
 | t::p,[],v,h=>by
  rw [mrg,List.mem_append] at h
  rcases h with h | h
  ·exact .inl ⟨t,.head _,by rw [(Y7 h).1]⟩
  ·rcases Y8 h with ⟨a,h1,h2⟩ | ⟨a,h1,h2⟩
   ·exact .inl ⟨a,.tail _ h1,h2⟩
   ·exact .inr ⟨a,h1,h2⟩
 | [],u::q,v,h=>by
  rw [mrg,List.mem_append] at h
  rcases h with h | h
  ·exact .inr ⟨u,.head _,by rw [(Y7 h).1]⟩
  ·rcases Y8 h with ⟨a,h1,h2⟩ | ⟨a,h1,h2⟩
   ·exact .inl ⟨a,h1,h2⟩
   ·exact .inr ⟨a,.tail _ h1,h2⟩
 | t::p,u::q,v,h=>by
  rw [mrg] at h
  split at h
  ·rw [List.mem_append] at h
   rcases h with h | h
   ·exact .inl ⟨t,.head _,by rw [(Y7 h).1]⟩
   ·rcases Y8 h with ⟨a,h1,h2⟩ | ⟨a,h1,h2⟩
    ·exact .inl ⟨a,.tail _ h1,h2⟩
    ·exact .inr ⟨a,h1,h2⟩
  ·split at h
   ·rw [List.mem_append] at h
    rcases h with h | h
    ·exact .inr ⟨u,.head _,by rw [(Y7 h).1]⟩
    ·rcases Y8 h with ⟨a,h1,h2⟩ | ⟨a,h1,h2⟩
     ·exact .inl ⟨a,h1,h2⟩
     ·exact .inr ⟨a,.tail _ h1,h2⟩
   ·rw [List.mem_append] at h
    rcases h with h | h
    ·exact .inl ⟨t,.head _,by rw [(Y7 h).1]⟩
    ·rcases Y8 h with ⟨a,h1,h2⟩ | ⟨a,h1,h2⟩
     ·exact .inl ⟨a,.tail _ h1,h2⟩
     ·exact .inr ⟨a,.tail _ h1,h2⟩
termination_by p q=>p.length+q.length
theorem ZL {f:Int→Int→Int}:∀ {p q:List Tm},Can p→Can q→Can (mrg f p q)
 | [],[],_,_=>by rw [mrg];exact .nil
 | t::p,[],hp,hq=>by
  rw [mrg]
  refine J6 (ZL hp.tail hq) fun v hv=>?_
  rcases Y8 hv with ⟨a,h1,h2⟩ | ⟨a,h1,h2⟩
  ·have:=hp.lt a h1;omega
  ·simp at h1
 | [],u::q,hp,hq=>by
  rw [mrg]
  refine J6 (ZL hp hq.tail) fun v hv=>?_
  rcases Y8 hv with ⟨a,h1,h2⟩ | ⟨a,h1,h2⟩
  ·simp at h1
  ·have:=hq.lt a h1;omega
 | t::p,u::q,hp,hq=>by
  rw [mrg]
  split
  ·refine J6 (ZL hp.tail hq) fun v hv=>?_
   rcases Y8 hv with ⟨a,h1,h2⟩ | ⟨a,h1,h2⟩
   ·have:=hp.lt a h1;omega
   ·rcases List.mem_cons.1 h1 with rfl | h1
    ·omega
    ·have:=hq.lt a h1;omega
  ·split
   ·refine J6 (ZL hp hq.tail) fun v hv=>?_
    rcases Y8 hv with ⟨a,h1,h2⟩ | ⟨a,h1,h2⟩
    ·rcases List.mem_cons.1 h1 with rfl | h1
     ·omega
     ·have:=hp.lt a h1;omega
    ·have:=hq.lt a h1;omega
   ·refine J6 (ZL hp.tail hq.tail) fun v hv=>?_
    rcases Y8 hv with ⟨a,h1,h2⟩ | ⟨a,h1,h2⟩
    ·have:=hp.lt a h1;omega
    ·have:=hq.lt a h1;omega
termination_by p q=>p.length+q.length
def V0 (g:Int→Int) (lo:Int):Nat→Int
 | 0=>0
 | n+1=>V0 g lo n+g (lo+n)
theorem Ug {g k:Int→Int} {lo:Int}:∀ {n:Nat},(∀ x,lo≤x→x < lo+n→g x=k x)→V0 g lo n=V0 k lo n
 | 0,_=>rfl
 | n+1,h=>by
  simp only [V0]
  rw [Ug (n:=n) fun x h1 h2=>h x h1 (by omega),h (lo+n) (by omega) (by omega)]
theorem QcW (g:Int→Int) (lo e:Int):∀ n,V0 (fun x=>dl x e*g x) lo n=if lo≤e∧e < lo+n then g e else 0
 | 0=>by rw [if_neg (by omega)];rfl
 | n+1=>by
  simp only [V0,QcW g lo e n]
  by_cases h:e=lo+n
  ·subst h;rw [if_neg (by omega),YX,if_pos (by omega)];omega
  ·rw [Ja h]
   by_cases h2:lo≤e∧e < lo+n
   ·rw [if_pos h2,if_pos (by omega)];omega
   ·rw [if_neg h2,if_neg (by omega)];omega
def Y0 (g:Int→Int) (lo:Int) (n:Nat):List Tm:=(List.range n).flatMap fun k:Nat=>put (lo+(k:Int)) (g (lo+(k:Int)))
theorem qD (g:Int→Int) (lo:Int) (n:Nat):Y0 g lo (n+1)=Y0 g lo n++put (lo+n) (g (lo+n)):=by
 unfold Y0
 rw [List.range_succ,List.flatMap_append];simp
theorem fromC_mem {g:Int→Int} {lo:Int} {n:Nat} {t:Tm}:t∈Y0 g lo n↔lo≤t.1∧t.1 < lo+n∧t.2=g t.1∧t.2≠0:=by
 unfold Y0
 rw [List.mem_flatMap]
 constructor
 ·rintro ⟨k,hk,h⟩
  obtain ⟨rfl,h2⟩:=Y7 h
  have:=List.mem_range.1 hk
  exact ⟨by simp only;omega,by simp only;omega,rfl,h2⟩
 ·rintro ⟨h1,h2,h3,h4⟩
  refine ⟨(t.1-lo).toNat,List.mem_range.2 (by omega),?_⟩
  have e:lo+((t.1-lo).toNat:Int)=t.1:=by omega
  rw [e]
  unfold put
  rw [if_neg (by rw [← h3];exact h4),List.mem_singleton,← h3]
theorem J9 (g:Int→Int) (lo:Int):∀ n,Can (Y0 g lo n)
 | 0=>.nil
 | n+1=>by
  rw [qD]
  have ih:=J9 g lo n
  refine ⟨List.pairwise_append.2 ⟨ih.asc,?_,fun a ha b hb=>?_⟩,fun t ht=>?_⟩
  ·unfold put;split <;> simp
  ·have:=(fromC_mem.1 ha).2.1
   rw [(Y7 hb).1];exact this
  ·rcases List.mem_append.1 ht with h | h
   ·exact ih.nz t h
   ·obtain ⟨rfl,h2⟩:=Y7 h;exact h2
theorem QaM (g k:Int→Int) (lo:Int):∀ n,S k (Y0 g lo n)=V0 (fun x=>g x*k x) lo n
 | 0=>rfl
 | n+1=>by rw [qD,yM,QaM g k lo n,Va];rfl
theorem Qg7 (g:Int→Int) (lo:Int) (n:Nat) (e:Int):cf (Y0 g lo n) e=if lo≤e∧e < lo+n then g e else 0:=by
 unfold cf
 rw [QaM]
 rw [Ug (k:=fun x=>dl x e*g x) fun x _ _=>?_,QcW]
 rw [Int.mul_comm]
 congr 1
 unfold dl
 by_cases h:x=e
 ·rw [if_pos h,if_pos h.symm]
 ·rw [if_neg h,if_neg (fun e=>h e.symm)]
def S2 (f:Int→Int) (p q:List Tm):Int:=S (fun a=>S (fun b=>f (a+b)) q) p
def mc (p q:List Tm) (e:Int):Int:=S2 (dl e) p q
theorem Qj1 (f:Int→Int) (p q:List Tm):S2 f p q=S2 f q p:=by
 unfold S2
 rw [Qh1]
 exact YC fun t _=>YC fun u _=>by rw [Int.add_comm]
theorem Qdv (p q:List Tm) (e:Int):mc p q e=mc q p e:=Qj1 _ _ _
theorem Qge (q:List Tm) (e:Int):mc [] q e=0:=rfl
theorem Qdt (p:List Tm) (e:Int):mc p [] e=0:=by rw [Qdv];rfl
theorem Qgf (a b q:List Tm) (e:Int):mc (a++b) q e=mc a q e+mc b q e:=yM _ _ _
theorem Qg5 (q:List Tm) (a e:Int):S (fun b=>dl e (a+b)) q=cf q (e-a):=by
 unfold cf
 refine YC fun t _=>?_
 by_cases h:a+t.1=e
 ·rw [h,YX,show t.1=e-a by omega,YX]
 ·rw [Ja h,Ja (by omega)]
theorem mc_S (p q:List Tm) (e:Int):mc p q e=S (fun a=>cf q (e-a)) p:=YC fun t _=>Qg5 q t.1 e
theorem Qgd (t:Tm) (q:List Tm) (e:Int):mc [t] q e=t.2*cf q (e-t.1):=by
 rw [mc_S];simp [S]
theorem Qdu (t:Tm) (p q:List Tm) (e:Int):mc (t::p) q e=t.2*cf q (e-t.1)+mc p q e:=by
 rw [mc_S,mc_S];rfl
theorem QcX (g:Int→Int) (p q:List Tm) {lo:Int}:∀ (n:Nat),V0 (fun x=>mc p q x*g x) lo n=S2 (fun e=>if lo≤e∧e < lo+n then g e else 0) p q
 | 0=>by
  show 0=_
  unfold S2
  rw [YC (g:=fun _=>0) fun t _=>?_,zg]
  rw [YC (g:=fun _=>0) fun u _=>?_,zg]
  dsimp only
  rw [if_neg (by omega)]
 | n+1=>by
  simp only [V0]
  rw [QcX g p q n]
  unfold mc S2
  rw [Int.mul_comm,← zE,← QdZ]
  refine YC fun t _=>?_
  rw [← zE,← QdZ]
  refine YC fun u _=>?_
  dsimp only
  by_cases h:t.1+u.1=lo+n
  ·rw [h,YX,if_neg (by omega),if_pos (by omega)];omega
  ·rw [Ja h]
   by_cases h2:lo≤t.1+u.1∧t.1+u.1 < lo+n
   ·rw [if_pos h2,if_pos (by omega)];omega
   ·rw [if_neg h2,if_neg (by omega)];omega
theorem Qh2 {f g:Int→Int} {p q:List Tm} (h:∀ t∈p,∀ u∈q,f (t.1+u.1)=g (t.1+u.1)):S2 f p q=S2 g p q :=
 YC fun t ht=>YC fun u hu=>h t ht u hu
def Vd (p q:List Tm) (lo:Int) (n:Nat):List Tm:=Y0 (mc p q) lo n
theorem Qnh {p q:List Tm} {lo:Int} {n:Nat} (h:∀ t∈p,∀ u∈q,lo≤t.1+u.1∧t.1+u.1 < lo+n) (g:Int→Int):S g (Vd p q lo n)=S2 g p q:=by
 unfold Vd
 rw [QaM,QcX]
 exact Qh2 fun t ht u hu=>if_pos (h t ht u hu)
def lo0 (p:List Tm):Int:=match p with | []=>0 | t::_=>t.1
def hi0 (p:List Tm):Int:=match p.getLast? with | none=>0 | some t=>t.1
theorem UF {p:List Tm} (h:Can p):∀ t∈p,lo0 p≤t.1:=by
 cases p with
 | nil=>simp
 | cons u r =>
  intro t ht
  rcases List.mem_cons.1 ht with rfl | ht
  ·exact Int.le_refl _
  ·exact Int.le_of_lt (h.lt t ht)
theorem QbI {t u:Tm} {r:List Tm}:hi0 (t::u::r)=hi0 (u::r):=by simp [hi0,List.getLast?_cons_cons]
theorem yZ:∀ {p:List Tm},Can p→∀ t∈p,t.1≤hi0 p
 | [],_,t,ht=>by simp at ht
 | [v],_,t,ht=>by simp at ht;subst ht;simp [hi0]
 | v::u::r,h,t,ht=>by
  rw [QbI]
  have ih:=yZ h.tail
  rcases List.mem_cons.1 ht with rfl | ht
  ·have:=h.lt u (.head _)
   have:=ih u (.head _)
   omega
  ·exact ih t ht
theorem yp:∀ {p:List Tm},p≠[]→∃ t∈p,t.1=hi0 p
 | [],h=>absurd rfl h
 | [v],_=>⟨v,by simp,by simp [hi0]⟩
 | v::u::r,_=>by
  obtain ⟨t,h1,h2⟩:=yp (p:=u::r) (by simp)
  exact ⟨t,.tail _ h1,by rw [QbI];exact h2⟩
theorem Z2 {p:List Tm} (h:Can p):∀ {t:Tm},t∈p→cf p t.1=t.2:=by
 induction p with
 | nil=>intro t ht;simp at ht
 | cons u r ih =>
  intro t ht
  rcases List.mem_cons.1 ht with rfl | ht
  ·exact h.cf_head
  ·rw [yG,Ja (by have:=h.lt t ht;omega),ih h.tail ht];omega
theorem Qg6 {p:List Tm} {e:Int} (h:cf p e≠0):∃ t∈p,t.1=e:=by
 refine Classical.byContradiction fun hn=>h (yF fun t ht he=>hn ⟨t,ht,he⟩)
theorem Qg8 {p:List Tm} (h:Can p) {M:Nat} (hb:∀ t∈p,t.2.natAbs≤M) (e:Int):(cf p e).natAbs≤M:=by
 by_cases h0:cf p e=0
 ·rw [h0];exact Nat.zero_le _
 ·obtain ⟨t,h1,h2⟩:=Qg6 h0
  rw [← h2,Z2 h h1];exact hb t h1
theorem Qgg {q:List Tm} (hq:Can q) {M N:Nat} (hN:∀ t∈q,t.2.natAbs≤N) (e:Int):∀ {p:List Tm},(∀ t∈p,t.2.natAbs≤M)→(mc p q e).natAbs≤p.length*(M*N)
 | [],_=>by simp [Qge]
 | t::p,h=>by
  rw [Qdu]
  have ih:=Qgg hq hN e (p:=p) fun u hu=>h u (.tail _ hu)
  have h1:=Int.natAbs_add_le (t.2*cf q (e-t.1)) (mc p q e)
  rw [Int.natAbs_mul] at h1
  have h2:=Nat.mul_le_mul (h t (.head _)) (Qg8 hq hN (e-t.1))
  rw [List.length_cons,Nat.succ_mul]
  omega
def rk (p q r:List Tm) (k:Nat):Int:=cf p (lo0 p+k)-mc r q (lo0 p+k)
def dvL (p q:List Tm) (M X:Nat):Nat→Option (List Tm)
 | 0=>some []
 | i+1=>(dvL p q M X i).bind fun r =>
  if rk p q r i=0 then some r
  else if rk p q r i%cf q (lo0 q)=0∧(rk p q r i / cf q (lo0 q)).natAbs≤M∧(lo0 p-lo0 q+i).natAbs≤X then some (r++[(lo0 p-lo0 q+i,rk p q r i / cf q (lo0 q))]) else none
def dvN (p q:List Tm):Int:=hi0 p-lo0 p-(hi0 q-lo0 q)
structure DvOk (p q:List Tm) (M X i:Nat) (r:List Tm):Prop where
 can:Can r
 rng:∀ t∈r,lo0 p-lo0 q≤t.1∧t.1 < lo0 p-lo0 q+i
 bd:∀ t∈r,t.2.natAbs≤M∧t.1.natAbs≤X
 zero:∀ k,k < i→rk p q r k=0
noncomputable def dvR (p q:List Tm) (M X:Nat):Option (List Tm):=open Classical in
 if dvN p q < 0 then none else (dvL p q M X ((dvN p q).toNat+1)).bind fun r=>if ∀ k:Nat,(dvN p q).toNat < k→(k:Int)≤hi0 p-lo0 p→rk p q r k=0 then some r else none
open Go.Ab
set_option maxHeartbeats 16000000
set_option maxRecDepth 20000
attribute [local irreducible] Ql wA Xr Xp QA Qp QW QY
variable [HB]
abbrev cM:Nat:=1125899906842624
abbrev eM:Nat:=1048576
def tmP (t:Tm):P2:=(.int .i64 t.1,.int .i64 t.2)
abbrev tms (ts:List Tm):List P2:=ts.map tmP
structure Pol where
 big:Bool
 ts:List Tm
 deriving DecidableEq
def yN (h:Qa) (v:AV) (p:Pol):Prop:=∃ s,v=.agg [.bool p.big,s]∧IsD h s (tms p.ts)
structure Pok (p:Pol):Prop where
 big:p.big=true→p.ts=[]
 can:Can p.ts
 cf:∀ t∈p.ts,t.2.natAbs≤cM
 ex:∀ t∈p.ts,t.1.natAbs≤eM
abbrev YP:Pol:=⟨true,[]⟩
abbrev qL:Pol:=⟨false,[]⟩
theorem Qfd:Pok qL:=⟨fun _=>rfl,.nil,by simp,by simp⟩
theorem Jz:∀ {ts:List Tm} {lo:Int} {n:Nat},Can ts→(∀ t∈ts,lo≤t.1∧t.1 < lo+n)→ts.length≤n
 | [],_,_,_,_=>Gs _
 | t::r,lo,n,hc,h=>by
  have h0:=h t (.head _)
  have ih:=Jz (lo:=t.1+1) (n:=(lo+n-(t.1+1)).toNat) hc.tail fun u hu=>by
   have h1:=hc.lt u hu
   have h2:=(h u (.tail _ hu)).2
   omega
  rw [GA];omega
theorem Pok.len {p:Pol} (k:Pok p):p.ts.length≤2097153 :=
 Jz (lo := -1048576) (n:=2097153) k.can fun t ht=>by have:=k.ex t ht;simp only [eM] at this;omega
theorem Q6 (ts:List Tm):(tms ts).length=ts.length:=by simp
theorem QaF (h0:Qa) (b:Bool) (s:SV):∃ r h',Cal FT HKt 39 [.agg [.bool b,s]] h0 r h'∧Ext h0 h'∧r=.sc (.bool b):=by
 refine Cal.of (F:=a39) rfl rfl rfl ?_
 repeat' (first | refine Qg ?_ | refine Qb ?_ | refine Qt ?_ | refine Qf ?_ | ((refine Qe ?_);refine Qq rfl ?_) | ((refine Qc ?_);first | (refine Qx rfl ?_;intro h1 e1 c1) | refine QQ rfl c1 ?_ | refine Qo rfl ?_ | refine Xt rfl rfl ?_))
 exact ⟨.inr rfl,e1,rfl⟩
theorem Qhg (h0:Qa) (b:Bool) (s:SV) (ts:List Tm) (hs:IsD h0 s (tms ts)):∃ r h',Cal FT HKt 14 [.agg [.bool b,s]] h0 r h'∧Ext h0 h'∧r=.sc (.bool (!b && decide (ts=[]))):=by
 refine Cal.of (F:=a14) rfl rfl rfl ?_
 have ls:=hs.len
 rw [Q6] at ls
 cases b with
 | true =>
  repeat' (first | refine Qg ?_ | refine Qb ?_ | refine Qt ?_ | refine Qf ?_ | ((refine Qe ?_);refine Qq rfl ?_) | ((refine Qc ?_);first | (refine Qx rfl ?_;intro h1 e1 c1) | refine QQ rfl c1 ?_ | refine Xd rfl ?_ | refine Qo rfl ?_ | refine QC rfl rfl ?_ | refine XR rfl ?_ | refine Xt rfl rfl ?_))
  exact ⟨.inr rfl,e1,rfl⟩
 | false =>
  cases ts with
  | nil =>
   rw [GV] at ls
   repeat' (first | refine Qg ?_ | refine Qb ?_ | refine Qt ?_ | refine Qf ?_ | ((refine Qe ?_);refine Qq rfl ?_) | ((refine Qc ?_);first | (refine Qx rfl ?_;intro h1 e1 c1) | refine QQ rfl c1 ?_ | refine Qz rfl c1 ?_ | refine Qs rfl ls ?_ | refine QL rfl ?_ | refine Qo rfl ?_ | refine QS rfl rfl ?_ | refine Yw rfl ?_ | refine XD rfl rfl (by omega) ?_ | refine Xt rfl rfl ?_))
   exact ⟨.inr rfl,e1,rfl⟩
  | cons t r =>
   rw [GA] at ls
   repeat' (first | refine Qg ?_ | refine Qb ?_ | refine Qt ?_ | refine Qf ?_ | ((refine Qe ?_);refine Qq rfl ?_) | ((refine Qc ?_);first | (refine Qx rfl ?_;intro h1 e1 c1) | refine QQ rfl c1 ?_ | refine Qz rfl c1 ?_ | refine Qs rfl ls ?_ | refine QL rfl ?_ | refine Qo rfl ?_ | refine QS rfl rfl ?_ | refine Yw rfl ?_ | refine Xf rfl rfl (by omega) ?_ | refine Xt rfl rfl ?_))
   exact ⟨.inr rfl,e1,by simp;rfl⟩
theorem rd1 {h:Qa} {id off:Nat} {a b:SV} (hr:QZ h id off 2=some [a,b]):QZ h id off 1=some [a]∧QZ h id (off+1) 1=some [b]:=by
 unfold QZ at hr ⊢
 split at hr
 ·unfold cut at hr ⊢
  split at hr
  ·rename_i hle
   simp only [Option.some.injEq] at hr
   rw [if_pos (by omega),if_pos (by omega)]
   refine ⟨?_,?_⟩
   ·have:=congrArg (List.take 1) hr
    rw [List.take_take] at this
    simpa using this
   ·have:=congrArg (List.drop 1) hr
    rw [List.drop_take,List.drop_drop] at this
    simpa using this
  ·cases hr
 ·cases hr
theorem zb (h0:Qa) (b:Bool) (s:SV) (ts:List Tm) (hs:IsD h0 s (tms ts)):∃ r h',Cal FT HKt 53 [.agg [.bool b,s]] h0 r h'∧Ext h0 h'∧r=.sc (.int .i64 (lo0 ts)):=by
 refine Cal.of (F:=a53) rfl rfl rfl ?_
 have ls:=hs.len
 rw [Q6] at ls
 cases ts with
 | nil =>
  rw [GV] at ls
  repeat' (first | refine Qg ?_ | refine Qb ?_ | refine QD ?_ | refine Qt ?_ | refine Qf ?_ | ((refine Qh ?_);refine Qj rfl ?_) | ((refine Qe ?_);first | refine Qq rfl ?_ | refine QE rfl rfl ?_) | ((refine Qc ?_);first | (refine Qx rfl ?_;intro h1 e1 c1) | refine Qz rfl c1 ?_ | refine Qs rfl ls ?_ | refine Qo rfl ?_ | refine XD rfl rfl (by omega) ?_ | refine Xt rfl rfl ?_))
  exact ⟨.inr rfl,e1,rfl⟩
 | cons t r =>
  rw [GA] at ls
  obtain ⟨id,off,cap,e,hr⟩:=hs.at (i:=0) (p:=tmP t) rfl
  rw [Q6,GA] at e
  subst e
  have hr1:=fun H (e:Ext h0 H)=>QH e (rd1 hr).1
  repeat' (first | refine Qg ?_ | refine Qb ?_ | refine Qn ?_ | refine Qt ?_ | refine Qf ?_ | ((refine Qh ?_);refine Qk rfl ?_) | ((refine Qe ?_);first | refine Qq rfl ?_ | refine QE rfl rfl ?_) | ((refine Qc ?_);first | (refine Qx rfl ?_;intro h1 e1 c1) | refine Qz rfl c1 ?_ | refine Qs rfl ls ?_ | refine Qw (esz:=2) rfl rfl (by omega) ?_ | refine Xi rfl ?_ | refine Q4 rfl (hr1 _ e1) ?_ | refine Qo rfl ?_ | refine Xf rfl rfl (by omega) ?_))
  exact ⟨.inr rfl,e1,rfl⟩
theorem UW (h0:Qa) (v l:Int) (hl:0≤l∧l≤9223372036854775807):∃ r h',Cal FT HKt 50 [.sc (.int .i64 v),.sc (.int .i64 l)] h0 r h'∧r=.sc (.bool (decide (v.natAbs≤l.toNat)))∧h'=h0:=by
 refine Cal.of (F:=a50) rfl rfl rfl ?_
 by_cases h:v.natAbs≤l.toNat
 ·rw [decide_eq_true h]
  repeat' (first | refine Qg ?_ | refine Qb ?_ | refine Qt ?_ | refine Qf ?_ | ((refine Qe ?_);first | refine Qq rfl ?_ | refine QE rfl rfl ?_) | ((refine Qc ?_);first | refine QL rfl ?_ | refine Qo rfl ?_ | refine QS rfl rfl ?_ | refine JR rfl (by omega) ?_ | refine qB rfl rfl (by omega) ?_ | refine Ym rfl rfl (by omega) ?_))
  exact ⟨.inr rfl,rfl,rfl⟩
 ·rw [decide_eq_false h]
  by_cases h2 : -l≤v
  ·repeat' (first | refine Qg ?_ | refine Qb ?_ | refine Qt ?_ | refine Qf ?_ | ((refine Qe ?_);first | refine Qq rfl ?_ | refine QE rfl rfl ?_) | ((refine Qc ?_);first | refine QL rfl ?_ | refine Qo rfl ?_ | refine QS rfl rfl ?_ | refine JR rfl (by omega) ?_ | refine JS rfl rfl (by omega) ?_ | refine Ym rfl rfl (by omega) ?_))
   exact ⟨.inr rfl,rfl,rfl⟩
  ·repeat' (first | refine Qg ?_ | refine Qb ?_ | refine Qt ?_ | refine Qf ?_ | ((refine Qe ?_);first | refine Qq rfl ?_ | refine QE rfl rfl ?_) | ((refine Qc ?_);first | refine Xd rfl ?_ | refine Qo rfl ?_ | refine QC rfl rfl ?_ | refine JR rfl (by omega) ?_ | refine X3 rfl rfl (by omega) ?_))
   exact ⟨.inr rfl,rfl,rfl⟩
