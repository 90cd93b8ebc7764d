/- Integers of 128 bits: products,tests,quotients: contracts. -/
import Derived.Test.YtofknpknogfijaaGreatDoorW3
import Derived.Test.YtofknpknogfijaaGreatDoorAb2
import Derived.Test.YtofknpknogfijaaGreatDoorAb41
namespace Go.Proofs.YtofknpknogfijaaGreatDoor
open Go.Ab
set_option linter.unusedVariables false
set_option linter.unusedSimpArgs false
set_option maxRecDepth 20000
set_option maxHeartbeats 4000000
attribute [local irreducible] Qi wA Xk Xj Qz Qo QS QV
set_option linter.unusedSectionVars false
variable [HB]
theorem Qbm {v:Int} (h0:0≤v) (h1:v < 340282366920938463463374607431768211456):wd v=[.int .u64 (v / 18446744073709551616),.int .u64 (v%18446744073709551616)]:=by
  unfold wd
  rw [Int.emod_eq_of_lt (a:=v / 18446744073709551616) (by omega) (by omega)]
theorem Qju (h0:Qa) (v:Int) (hv : -170141183460469231731687303715884105728 < v∧v < 170141183460469231731687303715884105728):∃ r h',Cal FT HKt 88 [.agg (wd v)] h0 r h'∧Ext h0 h'∧r=.tup [.agg (wd (v.natAbs:Int)),.sc (.bool (decide (v < 0)))]:=by
  refine Cal.of (F:=a88) rfl rfl rfl ?_
  have k74:=fun H=>Qcd H v
  by_cases h:v < 0
  · rw [decide_eq_true h]
    have e:v / 18446744073709551616%18446744073709551616 / (2 ^ 63:Nat)=1:=by omega
    have ea:(v.natAbs:Int) = -v:=by omega
    rw [ea]
    generalize hw:wd (-v)=W at *
    unfold wd at k74 ⊢
    obtain ⟨w1,w2,rfl⟩:∃ w1 w2,W=[w1,w2]:=⟨_,_,hw.symm⟩
    repeat' (first | refine Qh ?_ | refine Qb ?_ | refine QF ?_ | refine Qs ?_ | refine Qf ?_ | ((refine Qg ?_);refine Qk rfl ?_) | ((refine Qe ?_);first | refine Qv rfl rfl ?_ | refine Qy rfl rfl rfl ?_) | ((refine Qc ?_);first | (have z:=e1;refine Xm ?_;intro h2 e2 c2;have d2:=c1.ext e2) | (refine QR rfl ?_;intro h1 e1 c1) | refine Q4 rfl d2 ?_ | refine QN rfl d2 ?_ | (refine XL (q:=63) rfl rfl rfl (by omega) ?_;rw [e]) | (refine Qm rfl (k74 _) ?_;rintro r h3 ⟨e3,rfl⟩;have c3:=c2.ext e3) | (refine Xu rfl rfl c3 ?_;intro h4 w4) | refine Qp rfl ?_ | refine Xw rfl rfl (by omega) ?_ | refine XF rfl rfl ?_))
    exact ⟨.inr rfl,Zf rfl w4.cel.read rfl ⟨w4.ext (e1.trans (e2.trans e3)) e1.len,rfl⟩⟩
  · rw [decide_eq_false h]
    have e:v / 18446744073709551616%18446744073709551616 / (2 ^ 63:Nat)=0:=by omega
    have ea:(v.natAbs:Int)=v:=by omega
    rw [ea]
    unfold wd
    repeat' (first | refine Qh ?_ | refine Qb ?_ | refine Qn ?_ | refine Qs ?_ | refine Qf ?_ | ((refine Qg ?_);refine Qj rfl ?_) | ((refine Qe ?_);first | refine Qv rfl rfl ?_ | refine Qy rfl rfl rfl ?_) | ((refine Qc ?_);first | (have z:=e1;refine Xm ?_;intro h2 e2 c2;have d2:=c1.ext e2) | (refine QR rfl ?_;intro h1 e1 c1) | refine Q4 rfl d2 ?_ | refine QN rfl d2 ?_ | (refine XL (q:=63) rfl rfl rfl (by omega) ?_;rw [e]) | (refine Xu rfl rfl c2 ?_;intro h4 w4) | refine Qp rfl ?_ | refine Xa rfl rfl (by omega) ?_ | refine XF rfl rfl ?_))
    exact ⟨.inr rfl,Zf rfl w4.cel.read rfl ⟨w4.ext (e1.trans e2) e1.len,rfl⟩⟩
def smV (v:Int):Int:=if v.natAbs≤1125899906842624 then v else 0
theorem QjB (h0:Qa) (v:Int) (hv : -170141183460469231731687303715884105728 < v∧v < 170141183460469231731687303715884105728):∃ r h',Cal FT HKt 59 [.agg (wd v)] h0 r h'∧Ext h0 h'∧r=.tup [.sc (.int .i64 (smV v)),.sc (.bool (decide (v.natAbs≤1125899906842624)))]:=by
  refine Cal.of (F:=a59) rfl rfl rfl ?_
  have k69:=fun H=>Qju H v hv
  rw [Qbm (v:=(v.natAbs:Int)) (by omega) (by omega)] at k69
  unfold smV
  generalize hW:wd v=W at *
  obtain ⟨w1,w2,rfl⟩:∃ w1 w2,W=[w1,w2]:=⟨_,_,hW.symm⟩
  generalize hm:v.natAbs=m at *
  by_cases h1:m≤1125899906842624
  · rw [if_pos h1,decide_eq_true h1]
    have e0:((m:Nat):Int) / 18446744073709551616=0:=by omega
    have e1:((m:Nat):Int)%18446744073709551616=m:=by omega
    rw [e0,e1] at k69
    by_cases h3:v < 0
    · rw [decide_eq_true h3] at k69
      repeat' (first | refine Qh ?_ | refine Qb ?_ | refine QF ?_ | refine Qn ?_ | refine Qs ?_ | refine Qf ?_ | ((refine Qg ?_);first | refine Qk rfl ?_ | refine Qj rfl ?_) | ((refine Qe ?_);first | refine Qr rfl ?_ | refine Qv rfl rfl ?_ | refine Qy rfl rfl rfl ?_) | ((refine Qc ?_);first | (refine QR rfl ?_;intro h1 e1 c1) | refine QN rfl c1 ?_ | (refine Qm rfl (k69 _) ?_;rintro r h3 ⟨e3,rfl⟩) | (refine YU rfl ?_;intro h4 e4 c4) | refine Q4 rfl c4 ?_ | refine Q0 rfl c4 ?_ | refine QY rfl ?_ | refine Qp rfl ?_ | refine QT rfl rfl ?_ | refine YZ rfl (by omega) ?_ | refine XM rfl (by omega) ?_ | refine Xq rfl rfl (by omega) ?_ | refine XJ rfl rfl (by omega) ?_ | refine XF rfl rfl ?_))
      exact ⟨.inr rfl,e1.trans (e3.trans e4),by rw [show v = -((m:Nat):Int) by omega]⟩
    · rw [decide_eq_false h3] at k69
      repeat' (first | refine Qh ?_ | refine Qb ?_ | refine Qn ?_ | refine Qs ?_ | refine Qf ?_ | ((refine Qg ?_);refine Qj rfl ?_) | ((refine Qe ?_);first | refine Qr rfl ?_ | refine Qv rfl rfl ?_ | refine Qy rfl rfl rfl ?_) | ((refine Qc ?_);first | (refine QR rfl ?_;intro h1 e1 c1) | refine QN rfl c1 ?_ | (refine Qm rfl (k69 _) ?_;rintro r h3 ⟨e3,rfl⟩) | (refine YU rfl ?_;intro h4 e4 c4) | refine Q4 rfl c4 ?_ | refine Q0 rfl c4 ?_ | refine QY rfl ?_ | refine Qp rfl ?_ | refine QT rfl rfl ?_ | refine XM rfl (by omega) ?_ | refine Xq rfl rfl (by omega) ?_ | refine XJ rfl rfl (by omega) ?_ | refine XF rfl rfl ?_))
      exact ⟨.inr rfl,e1.trans (e3.trans e4),by rw [show v=((m:Nat):Int) by omega]⟩
  · rw [if_neg h1,decide_eq_false h1]
    by_cases h2:((m:Nat):Int) / 18446744073709551616=0
    · have e1:((m:Nat):Int)%18446744073709551616=m:=by omega
      rw [h2,e1] at k69
      repeat' (first | refine Qh ?_ | refine Qb ?_ | refine QF ?_ | refine Qs ?_ | refine Qf ?_ | ((refine Qg ?_);refine Qk rfl ?_) | ((refine Qe ?_);first | refine Qr rfl ?_ | refine Qv rfl rfl ?_ | refine Qy rfl rfl rfl ?_) | ((refine Qc ?_);first | (refine QR rfl ?_;intro h1 e1 c1) | refine QN rfl c1 ?_ | (refine Qm rfl (k69 _) ?_;rintro r h3 ⟨e3,rfl⟩) | (refine YU rfl ?_;intro h4 e4 c4) | refine Q4 rfl c4 ?_ | refine Q0 rfl c4 ?_ | refine QY rfl ?_ | refine Qp rfl ?_ | refine QT rfl rfl ?_ | refine XA rfl rfl (by omega) ?_ | refine XJ rfl rfl (by omega) ?_ | refine XF rfl rfl ?_))
      exact ⟨.inr rfl,e1.trans (e3.trans e4),rfl⟩
    · repeat' (first | refine Qh ?_ | refine Qb ?_ | refine QF ?_ | refine Qs ?_ | refine Qf ?_ | ((refine Qg ?_);refine Qk rfl ?_) | ((refine Qe ?_);first | refine Qr rfl ?_ | refine Qv rfl rfl ?_ | refine Qy rfl rfl rfl ?_) | ((refine Qc ?_);first | (refine QR rfl ?_;intro h1 e1 c1) | refine QN rfl c1 ?_ | (refine Qm rfl (k69 _) ?_;rintro r h3 ⟨e3,rfl⟩) | (refine YU rfl ?_;intro h4 e4 c4) | refine Q4 rfl c4 ?_ | refine Xn rfl ?_ | refine Qp rfl ?_ | refine Q1 rfl rfl ?_ | refine XX rfl rfl (by omega) ?_ | refine XF rfl rfl ?_))
      exact ⟨.inr rfl,e1.trans (e3.trans e4),rfl⟩
theorem Qjw (h0:Qa) (x y:Int) (hx : -9223372036854775808≤x∧x≤9223372036854775807) (hy : -9223372036854775808≤y∧y≤9223372036854775807) :
    ∃ r h',Cal FT HKt 74 [.sc (.int .i64 x),.sc (.int .i64 y)] h0 r h'∧Ext h0 h'∧r=.agg (wd (x*y)):=by
  refine Cal.of (F:=a74) rfl rfl rfl ?_
  have hm0:(0:Int)≤(x.natAbs:Int)*(y.natAbs:Int):=Int.mul_nonneg (by omega) (by omega)
  have hm1:(x.natAbs:Int)*(y.natAbs:Int)≤9223372036854775808*9223372036854775808:=by
    have h1:(x.natAbs:Int)*(y.natAbs:Int)≤9223372036854775808*(y.natAbs:Int):=Int.mul_le_mul_of_nonneg_right (by omega) (by omega)
    omega
  have hm:((x.natAbs:Int)*(y.natAbs:Int))=((x*y).natAbs:Int):=by rw [Int.natAbs_mul,Int.natCast_mul]
  have kx:=fun H=>Qcf H x hx
  have ky:=fun H=>Qcf H y hy
  have km:=fun H=>Qce H (x.natAbs:Int) (y.natAbs:Int) (by omega) (by omega)
  have kn:=fun H=>Qcd H ((x.natAbs:Int)*(y.natAbs:Int))
  rw [Qbm hm0 (by omega)] at kn
  by_cases h1:x < 0
  · by_cases h2:y < 0
    · have e:x*y=(x.natAbs:Int)*(y.natAbs:Int):=by
        rw [show (x.natAbs:Int) = -x by omega,show (y.natAbs:Int) = -y by omega,Int.neg_mul_neg]
      rw [e,Qbm hm0 (by omega)]
      generalize (x.natAbs:Int)*(y.natAbs:Int)=m at *
      repeat' (first | refine Qh ?_ | refine Qb ?_ | refine Qn ?_ | refine Qs ?_ | refine Qf ?_ | ((refine Qg ?_);refine Qj rfl ?_) | ((refine Qe ?_);first | refine Qr rfl ?_ | refine Qy rfl rfl rfl ?_ | refine QQ rfl rfl rfl rfl ?_ | refine QU rfl rfl rfl rfl rfl ?_) | ((refine Qc ?_);first | (have z:=e4;refine Uz rfl rfl ?_) | (have z:=e4;refine QN rfl c4 ?_) | (refine YU rfl ?_;intro h4 e4 c4;have d1:=c1.ext e4) | (refine Xm ?_;intro h1 e1 c1) | (refine Qm rfl (kx _) ?_;rintro r _ ⟨rfl,rfl⟩) | (refine Qm rfl (ky _) ?_;rintro r _ ⟨rfl,rfl⟩) | (refine Qm rfl (km _) ?_;rintro r _ ⟨rfl,rfl⟩) | (refine Xu rfl rfl d1 ?_;intro h5 w5) | refine Qp rfl ?_ | refine Qx rfl rfl (by omega) ?_ | refine XF rfl rfl ?_))
      exact ⟨.inr rfl,X1 rfl w5.cel.read ⟨w5.ext (e1.trans e4) (Nat.le_refl _),rfl⟩⟩
    · have e:x*y = -((x.natAbs:Int)*(y.natAbs:Int)):=by
        rw [show (x.natAbs:Int) = -x by omega,show (y.natAbs:Int)=y by omega,Int.neg_mul,Int.neg_neg]
      rw [e]
      generalize (x.natAbs:Int)*(y.natAbs:Int)=m at *
      repeat' (first | refine Qh ?_ | refine Qb ?_ | refine QF ?_ | refine Qs ?_ | refine Qf ?_ | ((refine Qg ?_);refine Qk rfl ?_) | ((refine Qe ?_);first | refine Qr rfl ?_ | refine Qy rfl rfl rfl ?_ | refine QQ rfl rfl rfl rfl ?_ | refine QU rfl rfl rfl rfl rfl ?_) | ((refine Qc ?_);first | (have z:=e4;refine Uz rfl rfl ?_) | (have z:=e4;refine QN rfl c4 ?_) | (refine YU rfl ?_;intro h4 e4 c4;have d1:=c1.ext e4) | (refine Xm ?_;intro h1 e1 c1) | (refine Qm rfl (kx _) ?_;rintro r _ ⟨rfl,rfl⟩) | (refine Qm rfl (ky _) ?_;rintro r _ ⟨rfl,rfl⟩) | (refine Qm rfl (km _) ?_;rintro r _ ⟨rfl,rfl⟩) | (refine Qm rfl (kn _) ?_;rintro r h6 ⟨e6,rfl⟩;have d6:=d1.ext e6) | (refine Xu rfl rfl d6 ?_;intro h5 w5) | refine Qp rfl ?_ | refine Qx rfl rfl (by omega) ?_ | refine QH rfl rfl (by omega) ?_ | refine XF rfl rfl ?_))
      exact ⟨.inr rfl,X1 rfl w5.cel.read ⟨w5.ext (e1.trans (e4.trans e6)) (Nat.le_refl _),rfl⟩⟩
  · by_cases h2:y < 0
    · have e:x*y = -((x.natAbs:Int)*(y.natAbs:Int)):=by
        rw [show (x.natAbs:Int)=x by omega,show (y.natAbs:Int) = -y by omega,Int.mul_neg,Int.neg_neg]
      rw [e]
      generalize (x.natAbs:Int)*(y.natAbs:Int)=m at *
      repeat' (first | refine Qh ?_ | refine Qb ?_ | refine QF ?_ | refine Qs ?_ | refine Qf ?_ | ((refine Qg ?_);refine Qk rfl ?_) | ((refine Qe ?_);first | refine Qr rfl ?_ | refine Qy rfl rfl rfl ?_ | refine QQ rfl rfl rfl rfl ?_ | refine QU rfl rfl rfl rfl rfl ?_) | ((refine Qc ?_);first | (have z:=e4;refine Uz rfl rfl ?_) | (have z:=e4;refine QN rfl c4 ?_) | (refine YU rfl ?_;intro h4 e4 c4;have d1:=c1.ext e4) | (refine Xm ?_;intro h1 e1 c1) | (refine Qm rfl (kx _) ?_;rintro r _ ⟨rfl,rfl⟩) | (refine Qm rfl (ky _) ?_;rintro r _ ⟨rfl,rfl⟩) | (refine Qm rfl (km _) ?_;rintro r _ ⟨rfl,rfl⟩) | (refine Qm rfl (kn _) ?_;rintro r h6 ⟨e6,rfl⟩;have d6:=d1.ext e6) | (refine Xu rfl rfl d6 ?_;intro h5 w5) | refine Qp rfl ?_ | refine Qx rfl rfl (by omega) ?_ | refine QH rfl rfl (by omega) ?_ | refine XF rfl rfl ?_))
      exact ⟨.inr rfl,X1 rfl w5.cel.read ⟨w5.ext (e1.trans (e4.trans e6)) (Nat.le_refl _),rfl⟩⟩
    · have e:x*y=(x.natAbs:Int)*(y.natAbs:Int):=by
        rw [show (x.natAbs:Int)=x by omega,show (y.natAbs:Int)=y by omega]
      rw [e,Qbm hm0 (by omega)]
      generalize (x.natAbs:Int)*(y.natAbs:Int)=m at *
      repeat' (first | refine Qh ?_ | refine Qb ?_ | refine Qn ?_ | refine Qs ?_ | refine Qf ?_ | ((refine Qg ?_);refine Qj rfl ?_) | ((refine Qe ?_);first | refine Qr rfl ?_ | refine Qy rfl rfl rfl ?_ | refine QQ rfl rfl rfl rfl ?_ | refine QU rfl rfl rfl rfl rfl ?_) | ((refine Qc ?_);first | (have z:=e4;refine Uz rfl rfl ?_) | (have z:=e4;refine QN rfl c4 ?_) | (refine YU rfl ?_;intro h4 e4 c4;have d1:=c1.ext e4) | (refine Xm ?_;intro h1 e1 c1) | (refine Qm rfl (kx _) ?_;rintro r _ ⟨rfl,rfl⟩) | (refine Qm rfl (ky _) ?_;rintro r _ ⟨rfl,rfl⟩) | (refine Qm rfl (km _) ?_;rintro r _ ⟨rfl,rfl⟩) | (refine Xu rfl rfl d1 ?_;intro h5 w5) | refine Qp rfl ?_ | refine QH rfl rfl (by omega) ?_ | refine XF rfl rfl ?_))
      exact ⟨.inr rfl,X1 rfl w5.cel.read ⟨w5.ext (e1.trans e4) (Nat.le_refl _),rfl⟩⟩
def quoOk (v c:Int):Prop:=c ∣ v∧(v / c).natAbs≤1125899906842624
instance (v c:Int):Decidable (quoOk v c):=inferInstanceAs (Decidable (_∧_))
end Go.Proofs.YtofknpknogfijaaGreatDoor


namespace Go.Proofs.YtofknpknogfijaaGreatDoor
set_option linter.unusedVariables false
abbrev Tm:=Int × Int
def S (f:Int→Int):List Tm→Int
  | []=>0
  | t::r=>t.2*f t.1+S f r
theorem Qck (f:Int→Int):∀ a b,S f (a++b)=S f a+S f b
  | [],b=>by simp [S]
  | t::a,b=>by simp [S,Qck f a b,Int.add_assoc]
theorem Yz {f g:Int→Int}:∀ {l:List Tm},(∀ t∈l,f t.1=g t.1)→S f l=S g l
  | [],_=>rfl
  | t::r,h=>by
    simp only [S]
    rw [h t (.head _),Yz fun u hu=>h u (.tail _ hu)]
theorem Qcl (f g:Int→Int):∀ l,S (fun x=>f x+g x) l=S f l+S g l
  | []=>rfl
  | t::r=>by simp only [S,Qcl f g r,Int.mul_add];omega
theorem Qci (f:Int→Int) (c:Int):∀ l,S (fun x=>c*f x) l=c*S f l
  | []=>by simp [S]
  | t::r=>by simp only [S,Qci f c r,Int.mul_add];rw [Int.mul_left_comm]
theorem yG:∀ l,S (fun _=>0) l=0
  | []=>rfl
  | t::r=>by simp [S,yG r]
theorem Qbi (f:Int→Int→Int):∀ a b,S (fun x=>S (fun y=>f x y) b) a=S (fun y=>S (fun x=>f x y) a) b
  | [],b=>by simp [S,yG]
  | t::a,b=>by
    simp only [S]
    rw [Qbi f a b,Qcl,Qci]
def dl (e x:Int):Int:=if x=e then 1 else 0
theorem ZT (e:Int):dl e e=1:=if_pos rfl
theorem yd {e x:Int} (h:x≠e):dl e x=0:=if_neg h
def cf (l:List Tm) (e:Int):Int:=S (dl e) l
theorem ye {l:List Tm} {e:Int} (h:∀ t∈l,t.1≠e):cf l e=0:=by
  unfold cf
  rw [Yz (g:=fun _=>0) fun t ht=>yd (h t ht),yG]
theorem yf (t:Tm) (r:List Tm) (e:Int):cf (t::r) e=t.2*dl e t.1+cf r e:=rfl
theorem QeP (a b:List Tm) (e:Int):cf (a++b) e=cf a e+cf b e:=Qck _ _ _
structure Can (l:List Tm):Prop where
  asc:l.Pairwise fun a b=>a.1 < b.1
  nz:∀ t∈l,t.2≠0
theorem Can.nil:Can []:=⟨.nil,by simp⟩
theorem Can.tail {t:Tm} {r:List Tm} (h:Can (t::r)):Can r:=⟨(List.pairwise_cons.1 h.asc).2,fun u hu=>h.nz u (.tail _ hu)⟩
theorem Can.lt {t:Tm} {r:List Tm} (h:Can (t::r)):∀ u∈r,t.1 < u.1:=(List.pairwise_cons.1 h.asc).1
theorem Can.cons {t:Tm} {r:List Tm} (h:Can r) (h0:t.2≠0) (hl:∀ u∈r,t.1 < u.1):Can (t::r) :=
  ⟨List.pairwise_cons.2 ⟨hl,h.asc⟩,fun u hu=>(List.mem_cons.1 hu).elim (fun e=>by rw [e];exact h0) (h.nz u)⟩
theorem Can.cf_head {t:Tm} {r:List Tm} (h:Can (t::r)):cf (t::r) t.1=t.2:=by
  rw [yf,ZT,ye fun u hu=>by have:=h.lt u hu;omega];omega
theorem Can.cf_low {t:Tm} {r:List Tm} (h:Can (t::r)) {e:Int} (he:e < t.1):cf (t::r) e=0:=by
  refine ye fun u hu=>?_
  rcases List.mem_cons.1 hu with rfl | hu
  · omega
  · have:=h.lt u hu;omega
theorem Can.ext:∀ {p q:List Tm},Can p→Can q→(∀ e,cf p e=cf q e)→p=q
  | [],[],_,_,_=>rfl
  | [],u::q,_,hq,h=>by
    have:=h u.1
    rw [hq.cf_head] at this
    exact absurd this.symm (hq.nz u (.head _))
  | t::p,[],hp,_,h=>by
    have:=h t.1
    rw [hp.cf_head] at this
    exact absurd this (hp.nz t (.head _))
  | t::p,u::q,hp,hq,h=>by
    have h1:t.1=u.1:=by
      rcases Int.lt_trichotomy t.1 u.1 with hlt | he | hgt
      · have:=h t.1
        rw [hp.cf_head,hq.cf_low hlt] at this
        exact absurd this (hp.nz t (.head _))
      · exact he
      · have:=h u.1
        rw [hq.cf_head,hp.cf_low hgt] at this
        exact absurd this.symm (hq.nz u (.head _))
    have h2:t.2=u.2:=by
      have:=h t.1
      rw [hp.cf_head,h1,hq.cf_head] at this
      exact this
    have h3:t=u:=Prod.ext h1 h2
    subst h3
    rw [Can.ext hp.tail hq.tail fun e=>by have:=h e;rw [yf,yf] at this;omega]
def put (e c:Int):List Tm:=if c=0 then [] else [(e,c)]
theorem S_put (f:Int→Int) (e c:Int):S f (put e c)=c*f e:=by
  unfold put
  split
  · rename_i h;simp [S,h]
  · simp [S]
theorem UT {e c:Int} {t:Tm} (h:t∈put e c):t=(e,c)∧c≠0:=by
  unfold put at h
  split at h
  · simp at h
  · rename_i hc;exact ⟨by simpa using h,hc⟩
def mrg (f:Int→Int→Int):List Tm→List Tm→List Tm
  | [],[]=>[]
  | t::p,[]=>put t.1 (f t.2 0)++mrg f p []
  | [],u::q=>put u.1 (f 0 u.2)++mrg f [] q
  | t::p,u::q=>if t.1 < u.1 then put t.1 (f t.2 0)++mrg f p (u::q) else if u.1 < t.1 then put u.1 (f 0 u.2)++mrg f (t::p) q else put t.1 (f t.2 u.2)++mrg f p q
termination_by p q=>p.length+q.length
def Qf1 (g:Int→Int) (lo:Int):Nat→Int
  | 0=>0
  | n+1=>Qf1 g lo n+g (lo+n)
def Zp (g:Int→Int) (lo:Int) (n:Nat):List Tm:=(List.range n).flatMap fun k:Nat=>put (lo+(k:Int)) (g (lo+(k:Int)))
theorem qh (g:Int→Int) (lo:Int) (n:Nat):Zp g lo (n+1)=Zp g lo n++put (lo+n) (g (lo+n)):=by
  unfold Zp
  rw [List.range_succ,List.flatMap_append];simp
theorem fromC_mem {g:Int→Int} {lo:Int} {n:Nat} {t:Tm}:t∈Zp g lo n↔lo≤t.1∧t.1 < lo+n∧t.2=g t.1∧t.2≠0:=by
  unfold Zp
  rw [List.mem_flatMap]
  constructor
  · rintro ⟨k,hk,h⟩
    obtain ⟨rfl,h2⟩:=UT h
    have:=List.mem_range.1 hk
    exact ⟨by simp only;omega,by simp only;omega,rfl,h2⟩
  · rintro ⟨h1,h2,h3,h4⟩
    refine ⟨(t.1-lo).toNat,List.mem_range.2 (by omega),?_⟩
    have e:lo+((t.1-lo).toNat:Int)=t.1:=by omega
    rw [e]
    unfold put
    rw [if_neg (by rw [← h3];exact h4),List.mem_singleton,← h3]
theorem yu (g:Int→Int) (lo:Int):∀ n,Can (Zp g lo n)
  | 0=>.nil
  | n+1=>by
    rw [qh]
    have ih:=yu g lo n
    refine ⟨List.pairwise_append.2 ⟨ih.asc,?_,fun a ha b hb=>?_⟩,fun t ht=>?_⟩
    · unfold put;split <;> simp
    · have:=(fromC_mem.1 ha).2.1
      rw [(UT hb).1];exact this
    · rcases List.mem_append.1 ht with h | h
      · exact ih.nz t h
      · obtain ⟨rfl,h2⟩:=UT h;exact h2
theorem Qcj (g k:Int→Int) (lo:Int):∀ n,S k (Zp g lo n)=Qf1 (fun x=>g x*k x) lo n
  | 0=>rfl
  | n+1=>by rw [qh,Qck,Qcj g k lo n,S_put];rfl
end Go.Proofs.YtofknpknogfijaaGreatDoor


namespace Go.Proofs.YtofknpknogfijaaGreatDoor
set_option linter.unusedVariables false
def S2 (f:Int→Int) (p q:List Tm):Int:=S (fun a=>S (fun b=>f (a+b)) q) p
def mc (p q:List Tm) (e:Int):Int:=S2 (dl e) p q
theorem Qhd (f:Int→Int) (p q:List Tm):S2 f p q=S2 f q p:=by
  unfold S2
  rw [Qbi]
  exact Yz fun t _=>Yz fun u _=>by rw [Int.add_comm]
theorem QbX (p q:List Tm) (e:Int):mc p q e=mc q p e:=Qhd _ _ _
theorem Qd8 (q:List Tm) (e:Int):mc [] q e=0:=rfl
theorem QgC (p:List Tm) (e:Int):mc p [] e=0:=by rw [QbX];rfl
theorem Qi2 (a b q:List Tm) (e:Int):mc (a++b) q e=mc a q e+mc b q e:=Qck _ _ _
theorem QeO (q:List Tm) (a e:Int):S (fun b=>dl e (a+b)) q=cf q (e-a):=by
  unfold cf
  refine Yz fun t _=>?_
  by_cases h:a+t.1=e
  · rw [h,ZT,show t.1=e-a by omega,ZT]
  · rw [yd h,yd (by omega)]
theorem mc_S (p q:List Tm) (e:Int):mc p q e=S (fun a=>cf q (e-a)) p:=Yz fun t _=>QeO q t.1 e
theorem Qd7 (t:Tm) (q:List Tm) (e:Int):mc [t] q e=t.2*cf q (e-t.1):=by
  rw [mc_S];simp [S]
theorem QbW (t:Tm) (p q:List Tm) (e:Int):mc (t::p) q e=t.2*cf q (e-t.1)+mc p q e:=by
  rw [mc_S,mc_S];rfl
theorem Qbs (g:Int→Int) (p q:List Tm) {lo:Int}:∀ (n:Nat),Qf1 (fun x=>mc p q x*g x) lo n=S2 (fun e=>if lo≤e∧e < lo+n then g e else 0) p q
  | 0=>by
    show 0=_
    unfold S2
    rw [Yz (g:=fun _=>0) fun t _=>?_,yG]
    rw [Yz (g:=fun _=>0) fun u _=>?_,yG]
    dsimp only
    rw [if_neg (by omega)]
  | n+1=>by
    simp only [Qf1]
    rw [Qbs g p q n]
    unfold mc S2
    rw [Int.mul_comm,← Qci,← Qcl]
    refine Yz fun t _=>?_
    rw [← Qci,← Qcl]
    refine Yz fun u _=>?_
    dsimp only
    by_cases h:t.1+u.1=lo+n
    · rw [h,ZT,if_neg (by omega),if_pos (by omega)];omega
    · rw [yd h]
      by_cases h2:lo≤t.1+u.1∧t.1+u.1 < lo+n
      · rw [if_pos h2,if_pos (by omega)];omega
      · rw [if_neg h2,if_neg (by omega)];omega
theorem Qfx {f g:Int→Int} {p q:List Tm} (h:∀ t∈p,∀ u∈q,f (t.1+u.1)=g (t.1+u.1)):S2 f p q=S2 g p q :=
  Yz fun t ht=>Yz fun u hu=>h t ht u hu
def QaU (p q:List Tm) (lo:Int) (n:Nat):List Tm:=Zp (mc p q) lo n
theorem Qkk {p q:List Tm} {lo:Int} {n:Nat} (h:∀ t∈p,∀ u∈q,lo≤t.1+u.1∧t.1+u.1 < lo+n) (g:Int→Int):S g (QaU p q lo n)=S2 g p q:=by
  unfold QaU
  rw [Qcj,Qbs]
  exact Qfx fun t ht u hu=>if_pos (h t ht u hu)
def lo0 (p:List Tm):Int:=match p with | []=>0 | t::_=>t.1
def hi0 (p:List Tm):Int:=match p.getLast? with | none=>0 | some t=>t.1
theorem zQ {p:List Tm} (h:Can p):∀ t∈p,lo0 p≤t.1:=by
  cases p with
  | nil=>simp
  | cons u r =>
    intro t ht
    rcases List.mem_cons.1 ht with rfl | ht
    · exact Int.le_refl _
    · exact Int.le_of_lt (h.lt t ht)
theorem Qae {t u:Tm} {r:List Tm}:hi0 (t::u::r)=hi0 (u::r):=by simp [hi0,List.getLast?_cons_cons]
theorem yt:∀ {p:List Tm},Can p→∀ t∈p,t.1≤hi0 p
  | [],_,t,ht=>by simp at ht
  | [v],_,t,ht=>by simp at ht;subst ht;simp [hi0]
  | v::u::r,h,t,ht=>by
    rw [Qae]
    have ih:=yt h.tail
    rcases List.mem_cons.1 ht with rfl | ht
    · have:=h.lt u (.head _)
      have:=ih u (.head _)
      omega
    · exact ih t ht
theorem JX:∀ {p:List Tm},p≠[]→∃ t∈p,t.1=hi0 p
  | [],h=>absurd rfl h
  | [v],_=>⟨v,by simp,by simp [hi0]⟩
  | v::u::r,_=>by
    obtain ⟨t,h1,h2⟩:=JX (p:=u::r) (by simp)
    exact ⟨t,.tail _ h1,by rw [Qae];exact h2⟩
theorem JP {p:List Tm} (h:Can p):∀ {t:Tm},t∈p→cf p t.1=t.2:=by
  induction p with
  | nil=>intro t ht;simp at ht
  | cons u r ih =>
    intro t ht
    rcases List.mem_cons.1 ht with rfl | ht
    · exact h.cf_head
    · rw [yf,yd (by have:=h.lt t ht;omega),ih h.tail ht];omega
theorem QhE {p:List Tm} {e:Int} (h:cf p e≠0):∃ t∈p,t.1=e:=by
  refine Classical.byContradiction fun hn=>h (ye fun t ht he=>hn ⟨t,ht,he⟩)
theorem Qjn {p:List Tm} (h:Can p) {M:Nat} (hb:∀ t∈p,t.2.natAbs≤M) (e:Int):(cf p e).natAbs≤M:=by
  by_cases h0:cf p e=0
  · rw [h0];exact Nat.zero_le _
  · obtain ⟨t,h1,h2⟩:=QhE h0
    rw [← h2,JP h h1];exact hb t h1
theorem Qd9 {q:List Tm} (hq:Can q) {M N:Nat} (hN:∀ t∈q,t.2.natAbs≤N) (e:Int):∀ {p:List Tm},(∀ t∈p,t.2.natAbs≤M)→(mc p q e).natAbs≤p.length*(M*N)
  | [],_=>by simp [Qd8]
  | t::p,h=>by
    rw [QbW]
    have ih:=Qd9 hq hN e (p:=p) fun u hu=>h u (.tail _ hu)
    have h1:=Int.natAbs_add_le (t.2*cf q (e-t.1)) (mc p q e)
    rw [Int.natAbs_mul] at h1
    have h2:=Nat.mul_le_mul (h t (.head _)) (Qjn hq hN (e-t.1))
    rw [List.length_cons,Nat.succ_mul]
    omega
end Go.Proofs.YtofknpknogfijaaGreatDoor


namespace Go.Proofs.YtofknpknogfijaaGreatDoor
set_option linter.unusedVariables false
def rk (p q r:List Tm) (k:Nat):Int:=cf p (lo0 p+k)-mc r q (lo0 p+k)
def dvL (p q:List Tm) (M X:Nat):Nat→Option (List Tm)
  | 0=>some []
  | i+1=>(dvL p q M X i).bind fun r =>
    if rk p q r i=0 then some r
    else if rk p q r i%cf q (lo0 q)=0∧(rk p q r i / cf q (lo0 q)).natAbs≤M∧(lo0 p-lo0 q+i).natAbs≤X then some (r++[(lo0 p-lo0 q+i,rk p q r i / cf q (lo0 q))]) else none
def dvN (p q:List Tm):Int:=hi0 p-lo0 p-(hi0 q-lo0 q)
structure DvOk (p q:List Tm) (M X i:Nat) (r:List Tm):Prop where
  can:Can r
  rng:∀ t∈r,lo0 p-lo0 q≤t.1∧t.1 < lo0 p-lo0 q+i
  bd:∀ t∈r,t.2.natAbs≤M∧t.1.natAbs≤X
  zero:∀ k,k < i→rk p q r k=0
noncomputable def dvR (p q:List Tm) (M X:Nat):Option (List Tm):=open Classical in
  if dvN p q < 0 then none else (dvL p q M X ((dvN p q).toNat+1)).bind fun r=>if ∀ k:Nat,(dvN p q).toNat < k→(k:Int)≤hi0 p-lo0 p→rk p q r k=0 then some r else none
end Go.Proofs.YtofknpknogfijaaGreatDoor




namespace Go.Proofs.YtofknpknogfijaaGreatDoor
open Go.Ab
set_option linter.unusedVariables false
set_option linter.unusedSimpArgs false
set_option maxRecDepth 20000
set_option maxHeartbeats 4000000
attribute [local irreducible] Qi wA Xk Xj Qz Qo QS QV
set_option linter.unusedSectionVars false
variable [HB]
abbrev cM:Nat:=1125899906842624
abbrev eM:Nat:=1048576
def tmP (t:Tm):P2:=(.int .i64 t.1,.int .i64 t.2)
abbrev tms (ts:List Tm):List P2:=ts.map tmP
structure Pol where
  big:Bool
  ts:List Tm
  deriving DecidableEq
def IsPol (h:Qa) (v:AV) (p:Pol):Prop:=∃ s,v=.agg [.bool p.big,s]∧IsD h s (tms p.ts)
structure Pok (p:Pol):Prop where
  big:p.big=true→p.ts=[]
  can:Can p.ts
  cf:∀ t∈p.ts,t.2.natAbs≤cM
  ex:∀ t∈p.ts,t.1.natAbs≤eM
abbrev Jw:Pol:=⟨true,[]⟩
abbrev Qbl:Pol:=⟨false,[]⟩
theorem JZ:∀ {ts:List Tm} {lo:Int} {n:Nat},Can ts→(∀ t∈ts,lo≤t.1∧t.1 < lo+n)→ts.length≤n
  | [],_,_,_,_=>Nat.zero_le _
  | t::r,lo,n,hc,h=>by
    have h0:=h t (.head _)
    have ih:=JZ (lo:=t.1+1) (n:=(lo+n-(t.1+1)).toNat) hc.tail fun u hu=>by
      have h1:=hc.lt u hu
      have h2:=(h u (.tail _ hu)).2
      omega
    rw [List.length_cons];omega
theorem Pok.len {p:Pol} (k:Pok p):p.ts.length≤2097153 :=
  JZ (lo := -1048576) (n:=2097153) k.can fun t ht=>by have:=k.ex t ht;simp only [eM] at this;omega
theorem XD (ts:List Tm):(tms ts).length=ts.length:=by simp
theorem Vq (h0:Qa) (b:Bool) (s:SV):∃ r h',Cal FT HKt 39 [.agg [.bool b,s]] h0 r h'∧Ext h0 h'∧r=.sc (.bool b):=by
  refine Cal.of (F:=a39) rfl rfl rfl ?_
  repeat' (first | refine Qh ?_ | refine Qb ?_ | refine Qs ?_ | refine Qf ?_ | ((refine Qe ?_);refine Qr rfl ?_) | ((refine Qc ?_);first | (refine QR rfl ?_;intro h1 e1 c1) | refine Q4 rfl c1 ?_ | refine Qp rfl ?_ | refine XF rfl rfl ?_))
  exact ⟨.inr rfl,e1,rfl⟩
theorem QjM (h0:Qa) (b:Bool) (s:SV) (ts:List Tm) (hs:IsD h0 s (tms ts)):∃ r h',Cal FT HKt 14 [.agg [.bool b,s]] h0 r h'∧Ext h0 h'∧r=.sc (.bool (!b && decide (ts=[]))):=by
  refine Cal.of (F:=a14) rfl rfl rfl ?_
  have ls:=hs.len
  rw [XD] at ls
  cases b with
  | true =>
    repeat' (first | refine Qh ?_ | refine Qb ?_ | refine Qs ?_ | refine Qf ?_ | ((refine Qe ?_);refine Qr rfl ?_) | ((refine Qc ?_);first | (refine QR rfl ?_;intro h1 e1 c1) | refine Q4 rfl c1 ?_ | refine Xn rfl ?_ | refine Qp rfl ?_ | refine QT rfl rfl ?_ | refine XQ rfl ?_ | refine XF rfl rfl ?_))
    exact ⟨.inr rfl,e1,rfl⟩
  | false =>
    cases ts with
    | nil =>
      rw [List.length_nil] at ls
      repeat' (first | refine Qh ?_ | refine Qb ?_ | refine Qs ?_ | refine Qf ?_ | ((refine Qe ?_);refine Qr rfl ?_) | ((refine Qc ?_);first | (refine QR rfl ?_;intro h1 e1 c1) | refine Q4 rfl c1 ?_ | refine Q0 rfl c1 ?_ | refine QA rfl ls ?_ | refine QY rfl ?_ | refine Qp rfl ?_ | refine Q1 rfl rfl ?_ | refine XW rfl ?_ | refine Xw rfl rfl (by omega) ?_ | refine XF rfl rfl ?_))
      exact ⟨.inr rfl,e1,rfl⟩
    | cons t r =>
      rw [List.length_cons] at ls
      repeat' (first | refine Qh ?_ | refine Qb ?_ | refine Qs ?_ | refine Qf ?_ | ((refine Qe ?_);refine Qr rfl ?_) | ((refine Qc ?_);first | (refine QR rfl ?_;intro h1 e1 c1) | refine Q4 rfl c1 ?_ | refine Q0 rfl c1 ?_ | refine QA rfl ls ?_ | refine QY rfl ?_ | refine Qp rfl ?_ | refine Q1 rfl rfl ?_ | refine XW rfl ?_ | refine Xa rfl rfl (by omega) ?_ | refine XF rfl rfl ?_))
      exact ⟨.inr rfl,e1,by simp;rfl⟩
theorem rd1 {h:Qa} {id off:Nat} {a b:SV} (hr:QX h id off 2=some [a,b]):QX h id off 1=some [a]∧QX h id (off+1) 1=some [b]:=by
  unfold QX at hr ⊢
  split at hr
  · unfold cut at hr ⊢
    split at hr
    · rename_i hle
      simp only [Option.some.injEq] at hr
      rw [if_pos (by omega),if_pos (by omega)]
      refine ⟨?_,?_⟩
      · have:=congrArg (List.take 1) hr
        rw [List.take_take] at this
        simpa using this
      · have:=congrArg (List.drop 1) hr
        rw [List.drop_take,List.drop_drop] at this
        simpa using this
    · cases hr
  · cases hr
theorem Vp (h0:Qa) (b:Bool) (s:SV) (ts:List Tm) (hs:IsD h0 s (tms ts)):∃ r h',Cal FT HKt 53 [.agg [.bool b,s]] h0 r h'∧Ext h0 h'∧r=.sc (.int .i64 (lo0 ts)):=by
  refine Cal.of (F:=a53) rfl rfl rfl ?_
  have ls:=hs.len
  rw [XD] at ls
  cases ts with
  | nil =>
    rw [List.length_nil] at ls
    repeat' (first | refine Qh ?_ | refine Qb ?_ | refine QF ?_ | refine Qs ?_ | refine Qf ?_ | ((refine Qg ?_);refine Qk rfl ?_) | ((refine Qe ?_);first | refine Qr rfl ?_ | refine Qv rfl rfl ?_) | ((refine Qc ?_);first | (refine QR rfl ?_;intro h1 e1 c1) | refine Q0 rfl c1 ?_ | refine QA rfl ls ?_ | refine Qp rfl ?_ | refine Xw rfl rfl (by omega) ?_ | refine XF rfl rfl ?_))
    exact ⟨.inr rfl,e1,rfl⟩
  | cons t r =>
    rw [List.length_cons] at ls
    obtain ⟨id,off,cap,e,hr⟩:=hs.at (i:=0) (p:=tmP t) rfl
    rw [XD,List.length_cons] at e
    subst e
    have hr1:=fun H (e:Ext h0 H)=>QO e (rd1 hr).1
    repeat' (first | refine Qh ?_ | refine Qb ?_ | refine Qn ?_ | refine Qs ?_ | refine Qf ?_ | ((refine Qg ?_);refine Qj rfl ?_) | ((refine Qe ?_);first | refine Qr rfl ?_ | refine Qv rfl rfl ?_) | ((refine Qc ?_);first | (refine QR rfl ?_;intro h1 e1 c1) | refine Q0 rfl c1 ?_ | refine QA rfl ls ?_ | refine QD (esz:=2) rfl rfl (by omega) ?_ | refine Xr rfl ?_ | refine Xx rfl (hr1 _ e1) ?_ | refine Qp rfl ?_ | refine Xa rfl rfl (by omega) ?_))
    exact ⟨.inr rfl,e1,rfl⟩
theorem Qa8 (h0:Qa) (v l:Int) (hl:0≤l∧l≤9223372036854775807):∃ r h',Cal FT HKt 50 [.sc (.int .i64 v),.sc (.int .i64 l)] h0 r h'∧r=.sc (.bool (decide (v.natAbs≤l.toNat)))∧h'=h0:=by
  refine Cal.of (F:=a50) rfl rfl rfl ?_
  by_cases h:v.natAbs≤l.toNat
  · rw [decide_eq_true h]
    repeat' (first | refine Qh ?_ | refine Qb ?_ | refine Qs ?_ | refine Qf ?_ | ((refine Qe ?_);first | refine Qr rfl ?_ | refine Qv rfl rfl ?_) | ((refine Qc ?_);first | refine QY rfl ?_ | refine Qp rfl ?_ | refine Q1 rfl rfl ?_ | refine YZ rfl (by omega) ?_ | refine YM rfl rfl (by omega) ?_ | refine XH rfl rfl (by omega) ?_))
    exact ⟨.inr rfl,rfl,rfl⟩
  · rw [decide_eq_false h]
    by_cases h2 : -l≤v
    · repeat' (first | refine Qh ?_ | refine Qb ?_ | refine Qs ?_ | refine Qf ?_ | ((refine Qe ?_);first | refine Qr rfl ?_ | refine Qv rfl rfl ?_) | ((refine Qc ?_);first | refine QY rfl ?_ | refine Qp rfl ?_ | refine Q1 rfl rfl ?_ | refine YZ rfl (by omega) ?_ | refine YD rfl rfl (by omega) ?_ | refine XH rfl rfl (by omega) ?_))
      exact ⟨.inr rfl,rfl,rfl⟩
    · repeat' (first | refine Qh ?_ | refine Qb ?_ | refine Qs ?_ | refine Qf ?_ | ((refine Qe ?_);first | refine Qr rfl ?_ | refine Qv rfl rfl ?_) | ((refine Qc ?_);first | refine Xn rfl ?_ | refine Qp rfl ?_ | refine QT rfl rfl ?_ | refine YZ rfl (by omega) ?_ | refine Xv rfl rfl (by omega) ?_))
      exact ⟨.inr rfl,rfl,rfl⟩
end Go.Proofs.YtofknpknogfijaaGreatDoor


