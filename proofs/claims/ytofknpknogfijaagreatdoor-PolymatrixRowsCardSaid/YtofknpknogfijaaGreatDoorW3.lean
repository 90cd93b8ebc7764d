/- Division of 128 bits by 64: contracts. -/
import Derived.Test.YtofknpknogfijaaGreatDoorW2
namespace Go.Proofs.YtofknpknogfijaaGreatDoor
open Go.Ab
set_option linter.all false
set_option maxHeartbeats 16000000
set_option maxRecDepth 20000
attribute [local irreducible] Ql wA Xr Xp QA Qp QW QY
variable [HB]
theorem QjM (h0:Qa) (x:Nat) (hx:0 < x∧x < 18446744073709551616):∃ r h',Cal FT HKt 125 [.sc (.int .u64 (x:Nat))] h0 r h'∧h'=h0∧∃ s:Nat,r=.sc (.int .i64 (s:Nat))∧s≤64∧zF x (64-s):=by
 refine Cal.of (F:=a125) rfl rfl rfl ?_
 have k:=QdP h0 x hx
 repeat' (first | refine Qg ?_ | refine Qb ?_ | refine Qt ?_ | refine Qf ?_ | ((refine Qe ?_);refine Qq rfl ?_) | ((refine Qc ?_);first | (refine Qi rfl k ?_;rintro v _ ⟨rfl,L,rfl,hL⟩;have hL64:=hL.2.2) | refine Qo rfl ?_ | refine Z8 rfl rfl (by omega) ?_))
 exact ⟨.inr rfl,rfl,64-L,by rw [show (64:Int)-(L:Nat)=((64-L:Nat):Int) by omega];rfl,by omega,by rw [show 64-(64-L)=L by omega];exact hL⟩
section kn
variable {y1 y0 Y H u q r:Int}
theorem kn_Y (hY:Y=y1*4294967296+y0):q*Y=q*y1*4294967296+q*y0:=by rw [hY,Int.mul_add,Hi]
theorem zX (hY:Y=y1*4294967296+y0) (hu:0≤u∧u < 4294967296) (hH:0≤H∧H < Y) (hq:q*y1+r=H) (hc:4294967296≤q∨4294967296*r+u < q*y0):H*4294967296+u < q*Y:=by
 rcases hc with h | h
 ·have h1:4294967296*Y≤q*Y:=GW h (by omega)
  omega
 ·rw [kn_Y hY]
  generalize q*y1=a at *
  generalize q*y0=b at *
  omega
theorem Qaq (hY:Y=y1*4294967296+y0) (hq:q*y1+r=H) (hc:¬ 4294967296*r+u < q*y0):q*Y≤H*4294967296+u:=by
 rw [kn_Y hY]
 generalize q*y1=a at *
 generalize q*y0=b at *
 omega
theorem Qgm (hY:Y=y1*4294967296+y0) (hy0:0≤y0∧y0 < 4294967296) (hy1:0 < y1) (hH:0≤H∧H < Y) (hq:q*y1+r=H) (hr:4294967296≤r):q < 4294967296:=by
 refine Classical.byContradiction fun h=>?_
 have h1:4294967296*y1≤q*y1:=GW (by omega) (by omega)
 generalize q*y1=a at *
 omega
theorem ym (hY:Y=y1*4294967296+y0) (hy0:0≤y0∧y0 < 4294967296) (hy1:0 < y1) (hu:0≤u∧u < 4294967296) (hH:0≤H∧H < Y) (hq0:0≤q) (hq:q*y1+r=H) (hr:4294967296≤r):q*Y≤H*4294967296+u:=by
 have h1:=Qgm hY hy0 hy1 hH hq hr
 have h2:=(UD (a:=q) (b:=y0) ⟨hq0,h1⟩ hy0).2
 exact Qaq hY hq (by omega)
theorem QgW {a b c:Int} (hb:0 < b) (h1:c*b≤a) (h2:a < (c+1)*b):a / b=c:=by
 rw [Int.add_mul,Hj] at h2
 have e:a=(a-c*b)+c*b:=by omega
 rw [e,Int.add_mul_ediv_right _ _ (by omega),Int.ediv_eq_zero_of_lt (by omega) (by omega)];omega
theorem Qbw (hY:Y=y1*4294967296+y0) (hy0:0≤y0) (hy1:0 < y1) (hu:u < 4294967296) (hH:0≤H):H / y1*y1+(H-H / y1*y1)=H∧0≤H-H / y1*y1∧H-H / y1*y1 < y1∧H*4294967296+u < (H / y1+1)*Y∧0≤H / y1:=by
 have h1:=Int.emod_nonneg H (show y1≠0 by omega)
 have h2:=Int.emod_lt_of_pos H hy1
 have h3:H%y1=H-H / y1*y1:=by have:=Int.emod_add_ediv_mul H y1;omega
 have h5:0≤H / y1:=Int.ediv_nonneg hH (by omega)
 refine ⟨by omega,by omega,by omega,?_,h5⟩
 rw [kn_Y hY]
 have h4:0≤(H / y1+1)*y0:=Hq (by omega) hy0
 rw [Int.add_mul,Hj]
 generalize H / y1*y1=a at *
 omega
theorem Qkg (hH:H < Y) (hu:u < 4294967296) (hY:0 < Y) (h1:q*Y≤H*4294967296+u):q < 4294967296:=by
 refine Classical.byContradiction fun h=>?_
 have h1:4294967296*Y≤q*Y:=GW (by omega) (by omega)
 omega
end kn
def qM (ks:List Nat) (t:Nat) (E:Env) (_:Qa):Nat:=match (E.keep ks).get t with
 | some (.sc (.int _ q))=>q.toNat
 | _=>0
def Qij (h0:Qa) (Y s y1 y0 H u u0:Int) (E:Env) (h:Qa):Prop:=h=h0∧∃ q r:Int,0≤q∧q < 18446744073709551616∧0≤r∧r < 4294967296∧q*y1+r=H∧H*4294967296+u < (q+1)*Y ∧
 E.keep [2,8,9,10,11,13,14,15,16]=[(2,some (.sc (.int .u64 Y))),(8,some (.sc (.int .u64 s))),(9,some (.sc (.int .u64 y1))),(10,some (.sc (.int .u64 y0))),(11,some (.sc (.int .u64 H))),(13,some (.sc (.int .u64 u))),(14,some (.sc (.int .u64 u0))),(15,some (.sc (.int .u64 q))),(16,some (.sc (.int .u64 r)))]
def Qk6 (h0:Qa) (Y s y1 y0 H u u0:Int) (ex:Ex) (E:Env) (h:Qa):Prop:=ex=.ex 0∧h=h0∧∃ q a b,0≤q∧q*Y≤H*4294967296+u∧H*4294967296+u < (q+1)*Y ∧
 E=[(2,some (.sc (.int .u64 Y))),(8,some (.sc (.int .u64 s))),(9,some (.sc (.int .u64 y1))),(10,some (.sc (.int .u64 y0))),(11,some (.sc (.int .u64 H))),(13,some (.sc (.int .u64 u))),(14,some (.sc (.int .u64 u0))),(15,some (.sc (.int .u64 q))),(16,a),b]
theorem Qey (h0:Qa) (Y s y1 y0 H u u0:Int) (hY:Y=y1*4294967296+y0) (hY2:Y < 18446744073709551616) (hy0:0≤y0∧y0 < 4294967296) (hy1:0 < y1) (hu:0≤u∧u < 4294967296) (hH:0≤H∧H < Y) (E:Env) (h:Qa) (hI:Qij h0 Y s y1 y0 H u u0 E h) :
  wA FT HKt QhK (E.keep [2,8,9,10,11,13,14,15,16]) h (QA (Qij h0 Y s y1 y0 H u u0) (qM [2,8,9,10,11,13,14,15,16] 15) (qM [2,8,9,10,11,13,14,15,16] 15 E h) (Qk6 h0 Y s y1 y0 H u u0)):=by
 obtain ⟨rfl,q,r,hq0,hq64,hr0,hr,hq,hlt,hE⟩:=hI
 have hm:qM [2,8,9,10,11,13,14,15,16] 15 E h=q.toNat:=by unfold qM;rw [hE];rfl
 rw [hm,hE]
 have nx:4294967296≤q∨4294967296*r+u < q*y0→1≤q:=fun hc=>by
  rcases hc with h | h
  ·omega
  ·refine Classical.byContradiction fun hn=>?_
   obtain rfl:q=0:=by omega
   rw [Hr] at h;omega
 by_cases hc1:4294967296≤q
 ·have h1:=nx (.inl hc1)
  have k1:=zX hY hu hH hq (.inl hc1)
  have e1:(q-1)*y1+(r+y1)=H:=by rw [Int.sub_mul];omega
  have hy1b:y1 < 4294967296:=by omega
  by_cases hb:4294967296≤r+y1
  ·repeat' (first | refine Qg ?_ | refine Qb ?_ | refine Qv ?_ | refine Qn ?_ | refine QX ?_ | refine Qf ?_ | (refine JJ ?_ ?_;rfl) | ((refine Qh ?_);refine Qj rfl ?_) | ((refine Qe ?_);first | refine Q5 rfl rfl rfl rfl rfl rfl rfl rfl rfl ?_ | refine Xy rfl rfl rfl rfl rfl rfl rfl rfl rfl rfl ?_) | ((refine Qc ?_);first | (refine XJ rfl rfl (by omega) ?_) | (refine YK rfl rfl (by omega) ?_) | refine Xd rfl ?_ | refine Qo rfl ?_ | refine QS rfl rfl ?_ | refine Ym rfl rfl (by omega) ?_))
   exact XM ⟨rfl,rfl,q-1,_,_,by omega,ym hY hy0 hy1 hu hH (by omega) e1 hb,by rw [show q-1+1=q by omega];exact k1,rfl⟩
  ·repeat' (first | refine Qg ?_ | refine Qb ?_ | refine Qv ?_ | refine QJ ?_ | refine Qn ?_ | refine Qf ?_ | ((refine Qh ?_);first | refine Qj rfl ?_ | refine Qk rfl ?_) | ((refine Qe ?_);first | refine Q5 rfl rfl rfl rfl rfl rfl rfl rfl rfl ?_ | refine Xy rfl rfl rfl rfl rfl rfl rfl rfl rfl rfl ?_) | ((refine Qc ?_);first | (refine XJ rfl rfl (by omega) ?_) | (refine YK rfl rfl (by omega) ?_) | refine Xd rfl ?_ | refine Qo rfl ?_ | refine QS rfl rfl ?_ | refine Ym rfl rfl (by omega) ?_ | refine X3 rfl rfl (by omega) ?_))
   exact Xo ⟨rfl,q-1,r+y1,by omega,by omega,by omega,by omega,e1,by rw [show q-1+1=q by omega];exact k1,rfl⟩ (by simp [qM,Env.keep,Env.get];omega)
 ·have hqy:=UD (a:=q) (b:=y0) ⟨hq0,by omega⟩ hy0
  by_cases hc2:4294967296*r+u < q*y0
  ·have h1:=nx (.inr hc2)
   have k1:=zX hY hu hH hq (.inr hc2)
   have e1:(q-1)*y1+(r+y1)=H:=by rw [Int.sub_mul];omega
   have hy1b:y1 < 4294967296:=by omega
   by_cases hb:4294967296≤r+y1
   ·repeat' (first | refine Qg ?_ | refine Qb ?_ | refine Qv ?_ | refine Qn ?_ | refine QX ?_ | refine Qf ?_ | (refine JJ ?_ ?_;rfl) | ((refine Qh ?_);refine Qj rfl ?_) | ((refine Qe ?_);first | refine Q5 rfl rfl rfl rfl rfl rfl rfl rfl rfl ?_ | refine Xy rfl rfl rfl rfl rfl rfl rfl rfl rfl rfl ?_) | ((refine Qc ?_);first | (refine XJ rfl rfl (by omega) ?_) | (refine ZZ rfl rfl (by omega) ?_) | (refine YK rfl rfl (by omega) ?_) | refine QL rfl ?_ | refine Qo rfl ?_ | refine QC rfl rfl ?_ | refine XV rfl rfl (by omega) ?_ | refine Ym rfl rfl (by omega) ?_ | refine X3 rfl rfl (by omega) ?_))
    exact XM ⟨rfl,rfl,q-1,_,_,by omega,ym hY hy0 hy1 hu hH (by omega) e1 hb,by rw [show q-1+1=q by omega];exact k1,rfl⟩
   ·repeat' (first | refine Qg ?_ | refine Qb ?_ | refine Qv ?_ | refine QJ ?_ | refine Qn ?_ | refine Qf ?_ | ((refine Qh ?_);first | refine Qj rfl ?_ | refine Qk rfl ?_) | ((refine Qe ?_);first | refine Q5 rfl rfl rfl rfl rfl rfl rfl rfl rfl ?_ | refine Xy rfl rfl rfl rfl rfl rfl rfl rfl rfl rfl ?_) | ((refine Qc ?_);first | (refine XJ rfl rfl (by omega) ?_) | (refine ZZ rfl rfl (by omega) ?_) | (refine YK rfl rfl (by omega) ?_) | refine QL rfl ?_ | refine Qo rfl ?_ | refine QC rfl rfl ?_ | refine XV rfl rfl (by omega) ?_ | refine X3 rfl rfl (by omega) ?_))
    exact Xo ⟨rfl,q-1,r+y1,by omega,by omega,by omega,by omega,e1,by rw [show q-1+1=q by omega];exact k1,rfl⟩ (by simp [qM,Env.keep,Env.get];omega)
  ·repeat' (first | refine Qg ?_ | refine Qb ?_ | refine Q0 ?_ | refine QX ?_ | refine Qf ?_ | ((refine Qh ?_);refine Qk rfl ?_) | ((refine Qe ?_);refine Xy rfl rfl rfl rfl rfl rfl rfl rfl rfl rfl ?_) | ((refine Qc ?_);first | (refine ZZ rfl rfl (by omega) ?_) | (refine YK rfl rfl (by omega) ?_) | refine QL rfl ?_ | refine Qo rfl ?_ | refine QC rfl rfl ?_ | refine XT rfl rfl (by omega) ?_ | refine X3 rfl rfl (by omega) ?_))
   exact XM ⟨rfl,rfl,q,_,_,hq0,Qaq hY hq hc2,hlt,rfl⟩
def Qii (h0:Qa) (Y s y1 y0 H u u0:Int) (E:Env) (h:Qa):Prop:=h=h0∧∃ q r:Int,0≤q∧q < 18446744073709551616∧0≤r∧r < 4294967296∧q*y1+r=H∧H*4294967296+u < (q+1)*Y ∧
 E.keep [2,8,9,10,14,15,16,17,18]=[(2,some (.sc (.int .u64 Y))),(8,some (.sc (.int .u64 s))),(9,some (.sc (.int .u64 y1))),(10,some (.sc (.int .u64 y0))),(14,some (.sc (.int .u64 u))),(15,some (.sc (.int .u64 u0))),(16,some (.sc (.int .u64 r))),(17,some (.sc (.int .u64 H))),(18,some (.sc (.int .u64 q)))]
def Qk5 (h0:Qa) (Y s y1 y0 H u u0:Int) (ex:Ex) (E:Env) (h:Qa):Prop:=ex=.ex 2∧h=h0∧∃ q a b,0≤q∧q*Y≤H*4294967296+u∧H*4294967296+u < (q+1)*Y ∧
 E=[(2,some (.sc (.int .u64 Y))),(8,some (.sc (.int .u64 s))),(9,some (.sc (.int .u64 y1))),(10,some (.sc (.int .u64 y0))),(14,some (.sc (.int .u64 u))),(15,some (.sc (.int .u64 u0))),(16,a),(17,some (.sc (.int .u64 H))),(18,some (.sc (.int .u64 q))),b]
theorem Qex (h0:Qa) (Y s y1 y0 H u u0:Int) (hY:Y=y1*4294967296+y0) (hY2:Y < 18446744073709551616) (hy0:0≤y0∧y0 < 4294967296) (hy1:0 < y1) (hu:0≤u∧u < 4294967296) (hH:0≤H∧H < Y) (E:Env) (h:Qa) (hI:Qii h0 Y s y1 y0 H u u0 E h) :
  wA FT HKt QhJ (E.keep [2,8,9,10,14,15,16,17,18]) h (QA (Qii h0 Y s y1 y0 H u u0) (qM [2,8,9,10,14,15,16,17,18] 18) (qM [2,8,9,10,14,15,16,17,18] 18 E h) (Qk5 h0 Y s y1 y0 H u u0)):=by
 obtain ⟨rfl,q,r,hq0,hq64,hr0,hr,hq,hlt,hE⟩:=hI
 have hm:qM [2,8,9,10,14,15,16,17,18] 18 E h=q.toNat:=by unfold qM;rw [hE];rfl
 rw [hm,hE]
 have nx:4294967296≤q∨4294967296*r+u < q*y0→1≤q:=fun hc=>by
  rcases hc with h | h
  ·omega
  ·refine Classical.byContradiction fun hn=>?_
   obtain rfl:q=0:=by omega
   rw [Hr] at h;omega
 by_cases hc1:4294967296≤q
 ·have h1:=nx (.inl hc1)
  have k1:=zX hY hu hH hq (.inl hc1)
  have e1:(q-1)*y1+(r+y1)=H:=by rw [Int.sub_mul];omega
  have hy1b:y1 < 4294967296:=by omega
  by_cases hb:4294967296≤r+y1
  ·repeat' (first | refine Qg ?_ | refine Qb ?_ | refine Qv ?_ | refine Qn ?_ | refine QX ?_ | refine Qf ?_ | (refine JJ ?_ ?_;rfl) | ((refine Qh ?_);refine Qj rfl ?_) | ((refine Qe ?_);first | refine Q5 rfl rfl rfl rfl rfl rfl rfl rfl rfl ?_ | refine Xy rfl rfl rfl rfl rfl rfl rfl rfl rfl rfl ?_) | ((refine Qc ?_);first | (refine XJ rfl rfl (by omega) ?_) | (refine YK rfl rfl (by omega) ?_) | refine Xd rfl ?_ | refine Qo rfl ?_ | refine QS rfl rfl ?_ | refine Ym rfl rfl (by omega) ?_))
   exact XM ⟨rfl,rfl,q-1,_,_,by omega,ym hY hy0 hy1 hu hH (by omega) e1 hb,by rw [show q-1+1=q by omega];exact k1,rfl⟩
  ·repeat' (first | refine Qg ?_ | refine Qb ?_ | refine Qv ?_ | refine QJ ?_ | refine Qn ?_ | refine Qf ?_ | ((refine Qh ?_);first | refine Qj rfl ?_ | refine Qk rfl ?_) | ((refine Qe ?_);first | refine Q5 rfl rfl rfl rfl rfl rfl rfl rfl rfl ?_ | refine Xy rfl rfl rfl rfl rfl rfl rfl rfl rfl rfl ?_) | ((refine Qc ?_);first | (refine XJ rfl rfl (by omega) ?_) | (refine YK rfl rfl (by omega) ?_) | refine Xd rfl ?_ | refine Qo rfl ?_ | refine QS rfl rfl ?_ | refine Ym rfl rfl (by omega) ?_ | refine X3 rfl rfl (by omega) ?_))
   exact Xo ⟨rfl,q-1,r+y1,by omega,by omega,by omega,by omega,e1,by rw [show q-1+1=q by omega];exact k1,rfl⟩ (by simp [qM,Env.keep,Env.get];omega)
 ·have hqy:=UD (a:=q) (b:=y0) ⟨hq0,by omega⟩ hy0
  by_cases hc2:4294967296*r+u < q*y0
  ·have h1:=nx (.inr hc2)
   have k1:=zX hY hu hH hq (.inr hc2)
   have e1:(q-1)*y1+(r+y1)=H:=by rw [Int.sub_mul];omega
   have hy1b:y1 < 4294967296:=by omega
   by_cases hb:4294967296≤r+y1
   ·repeat' (first | refine Qg ?_ | refine Qb ?_ | refine Qv ?_ | refine Qn ?_ | refine QX ?_ | refine Qf ?_ | (refine JJ ?_ ?_;rfl) | ((refine Qh ?_);refine Qj rfl ?_) | ((refine Qe ?_);first | refine Q5 rfl rfl rfl rfl rfl rfl rfl rfl rfl ?_ | refine Xy rfl rfl rfl rfl rfl rfl rfl rfl rfl rfl ?_) | ((refine Qc ?_);first | (refine XJ rfl rfl (by omega) ?_) | (refine ZZ rfl rfl (by omega) ?_) | (refine YK rfl rfl (by omega) ?_) | refine QL rfl ?_ | refine Qo rfl ?_ | refine QC rfl rfl ?_ | refine XV rfl rfl (by omega) ?_ | refine Ym rfl rfl (by omega) ?_ | refine X3 rfl rfl (by omega) ?_))
    exact XM ⟨rfl,rfl,q-1,_,_,by omega,ym hY hy0 hy1 hu hH (by omega) e1 hb,by rw [show q-1+1=q by omega];exact k1,rfl⟩
   ·repeat' (first | refine Qg ?_ | refine Qb ?_ | refine Qv ?_ | refine QJ ?_ | refine Qn ?_ | refine Qf ?_ | ((refine Qh ?_);first | refine Qj rfl ?_ | refine Qk rfl ?_) | ((refine Qe ?_);first | refine Q5 rfl rfl rfl rfl rfl rfl rfl rfl rfl ?_ | refine Xy rfl rfl rfl rfl rfl rfl rfl rfl rfl rfl ?_) | ((refine Qc ?_);first | (refine XJ rfl rfl (by omega) ?_) | (refine ZZ rfl rfl (by omega) ?_) | (refine YK rfl rfl (by omega) ?_) | refine QL rfl ?_ | refine Qo rfl ?_ | refine QC rfl rfl ?_ | refine XV rfl rfl (by omega) ?_ | refine X3 rfl rfl (by omega) ?_))
    exact Xo ⟨rfl,q-1,r+y1,by omega,by omega,by omega,by omega,e1,by rw [show q-1+1=q by omega];exact k1,rfl⟩ (by simp [qM,Env.keep,Env.get];omega)
  ·repeat' (first | refine Qg ?_ | refine Qb ?_ | refine Q0 ?_ | refine QX ?_ | refine Qf ?_ | ((refine Qh ?_);refine Qk rfl ?_) | ((refine Qe ?_);refine Xy rfl rfl rfl rfl rfl rfl rfl rfl rfl rfl ?_) | ((refine Qc ?_);first | (refine ZZ rfl rfl (by omega) ?_) | (refine YK rfl rfl (by omega) ?_) | refine QL rfl ?_ | refine Qo rfl ?_ | refine QC rfl rfl ?_ | refine XT rfl rfl (by omega) ?_ | refine X3 rfl rfl (by omega) ?_))
   exact XM ⟨rfl,rfl,q,_,_,hq0,Qaq hY hq hc2,hlt,rfl⟩
theorem Qja {a b q:Nat} (hb:b < 2 ^ q) (h:a*2 ^ q+b < 18446744073709551616):IntKind.u64.wrap ((BitVec.ofInt 64 ((a*2 ^ q:Nat):Int) ||| BitVec.ofInt 64 ((b:Nat):Int)).toNat:Int)=((a*2 ^ q+b:Nat):Int):=by
 have e1:(BitVec.ofInt 64 ((a*2 ^ q:Nat):Int)).toNat=a*2 ^ q:=by
  rw [BitVec.ofInt_natCast,BitVec.toNat_ofNat,Nat.mod_eq_of_lt (by omega)]
 have e2:(BitVec.ofInt 64 ((b:Nat):Int)).toNat=b:=by
  rw [BitVec.ofInt_natCast,BitVec.toNat_ofNat,Nat.mod_eq_of_lt (by omega)]
 rw [BitVec.toNat_or,e1,e2,Hw a,← Nat.two_pow_add_eq_or_of_lt hb,Hw,Jf]
 omega
section
variable {FT:FuncId→Option AFun} {HK:FuncId→Option Xj} {E:Env} {h:Qa} {K:Env→Qa→Prop} {d:Option Nat} {r:List AOp} {x y:AO}
theorem Qgq {m q:Nat} {b:Int} {k2:IntKind} (hx:evS E x=some (.int .u64 (m:Nat))) (hy:evS E y=some (.int k2 b)) (hb:b=(q:Nat)) (hq:q≤64) (hw:Ql FT HK r (Qr d (some (.sc (.int .u64 ((m*2 ^ q%18446744073709551616:Nat):Int)))) E) h K):Ql FT HK (⟨d,.bin .shl x y,none⟩::r) E h K:=by
 refine k_shl hx hy (by omega) ?_ hw
 subst hb
 rw [show min ((q:Nat):Int).toNat IntKind.u64.bits=q by simp [IntKind.bits];omega,Jf]
 have:(((m:Nat):Int)*2 ^ q)=((m*2 ^ q:Nat):Int):=by rw [GZ,Int.natCast_pow];rfl
 rw [this];omega
theorem Qgp {m q:Nat} {b:Int} {k2:IntKind} (hx:evS E x=some (.int .u64 (m:Nat))) (hy:evS E y=some (.int k2 b)) (hb:b=(q:Nat)) (hq:q≤64) (hl:m*2 ^ q < 18446744073709551616) (hw:Ql FT HK r (Qr d (some (.sc (.int .u64 ((m*2 ^ q:Nat):Int)))) E) h K):Ql FT HK (⟨d,.bin .shl x y,none⟩::r) E h K :=
 Qgq hx hy hb hq (by rw [Nat.mod_eq_of_lt hl];exact hw)
theorem Ql2 {m q:Nat} {b:Int} {k2:IntKind} (hx:evS E x=some (.int .u64 (m:Nat))) (hy:evS E y=some (.int k2 b)) (hb:b=(q:Nat)) (hq:q≤64) (hw:Ql FT HK r (Qr d (some (.sc (.int .u64 ((m / 2 ^ q:Nat):Int)))) E) h K):Ql FT HK (⟨d,.bin .shr x y,none⟩::r) E h K :=
 XN hx hy hb hq (by rw [← Int.natCast_ediv];exact hw)
theorem k_orU {m n q:Nat} {a b:Int} (hx:evS E x=some (.int .u64 a)) (hy:evS E y=some (.int .u64 b)) (ha:a=((m*2 ^ q:Nat):Int)) (hb:b=(n:Nat)) (hn:n < 2 ^ q) (hl:m*2 ^ q+n < 18446744073709551616) (hw:Ql FT HK r (Qr d (some (.sc (.int .u64 ((m*2 ^ q+n:Nat):Int)))) E) h K):Ql FT HK (⟨d,.bin .or x y,none⟩::r) E h K:=by
 refine Xe rfl rfl ?_ hw
 subst ha hb
 have:=Qja hn hl
 simp only [Qm,hx,hy,Z3,X9,ze,Gm,Bool.false_eq_true,if_false,if_true,X5]
 rw [show IntKind.bits .u64=64 from rfl,this];rfl
end
theorem norm {hi lo y s:Nat} (hy:zF y (64-s)) (hs:s≤64) (hlt:hi < y) (hlo:lo < 18446744073709551616) :
  9223372036854775808≤y*2 ^ s∧y*2 ^ s < 18446744073709551616∧lo / 2 ^ (64-s) < 2 ^ s∧lo / 2 ^ (64-s)=lo*2 ^ s / 18446744073709551616∧hi*2 ^ s+lo / 2 ^ (64-s) < y*2 ^ s∧0 < 2 ^ s:=by
 obtain ⟨h1,h2,_⟩:=hy
 have hp:2 ^ (64-s)*2 ^ s=18446744073709551616:=by rw [← Nat.pow_add,show 64-s+s=64 by omega]
 have hs0:0 < 2 ^ s:=Nat.pow_pos (by omega)
 have ht0:0 < 2 ^ (64-s):=Nat.pow_pos (by omega)
 have a1:lo / 2 ^ (64-s) < 2 ^ s:=(Nat.div_lt_iff_lt_mul ht0).2 (by rw [Hw,hp];exact hlo)
 have a2:lo / 2 ^ (64-s)=lo*2 ^ s / 18446744073709551616:=by rw [← hp,Nat.mul_div_mul_right _ _ hs0]
 have a3:=Nat.mul_lt_mul_of_pos_right h1 hs0
 have a4:=GE (2 ^ s) h2
 have a5:(hi+1)*2 ^ s≤y*2 ^ s:=GE _ hlt
 rw [GT,Nat.one_mul] at a5
 rw [hp] at a3 a4
 rw [Nat.mul_assoc] at a4
 refine ⟨by omega,a3,a1,a2,by omega,hs0⟩
theorem QjQ (h0:Qa) (hi lo y:Nat) (hlt:hi < y) (hlo:lo < 18446744073709551616) (hy:y < 18446744073709551616) :
  ∃ r h',Cal FT HKt 102 [.sc (.int .u64 (hi:Nat)),.sc (.int .u64 (lo:Nat)),.sc (.int .u64 (y:Nat))] h0 r h'∧h'=h0∧r=.tup [.sc (.int .u64 (((hi*18446744073709551616+lo) / y:Nat):Int)),.sc (.int .u64 (((hi*18446744073709551616+lo)%y:Nat):Int))]:=by
 refine Cal.of (F:=a102) rfl rfl rfl ?_
 by_cases h00:hi=0
 ·subst h00
  have e1:((0*18446744073709551616+lo) / y:Nat)=lo / y:=by rw [Nat.zero_mul,G0]
  have e2:((0*18446744073709551616+lo)%y:Nat)=lo%y:=by rw [Nat.zero_mul,G0]
  repeat' (first | refine Qg ?_ | refine Qb ?_ | refine QD ?_ | refine Qn ?_ | refine Qt ?_ | refine Qf ?_ | refine Q2 ?_ | refine Xk ?_ | refine Xl ?_ | ((refine Qh ?_);first | refine Qj rfl ?_ | refine Qk rfl ?_) | ((refine Qe ?_);first | refine Q1 ?_ | refine QE rfl rfl ?_ | refine Qu rfl rfl rfl ?_ | refine QG rfl rfl rfl rfl ?_) | ((refine Qc ?_);first | (refine UH rfl rfl (by omega) ?_) | (refine Qgs rfl rfl (by omega) ?_) | refine Qo rfl ?_ | refine JS rfl rfl (by omega) ?_ | refine XD rfl rfl (by omega) ?_ | refine Xf rfl rfl (by omega) ?_))
  exact ⟨.inr rfl,rfl,by rw [e1,e2,Int.natCast_ediv,Int.natCast_emod]⟩
 ·have k89:=QjM h0 y ⟨by omega,hy⟩
  repeat' (first | refine Qg ?_ | refine Qb ?_ | refine Qn ?_ | refine Qf ?_ | ((refine Qh ?_);refine Qk rfl ?_) | ((refine Qe ?_);first | refine Qu rfl rfl rfl ?_ | refine QG rfl rfl rfl rfl ?_ | refine QU rfl rfl rfl rfl rfl ?_ | refine QT rfl rfl rfl rfl rfl rfl ?_ | refine Xn rfl rfl rfl rfl rfl rfl rfl ?_) | ((refine Qc ?_);first | (refine Qi rfl k89 ?_;rintro v hq ⟨rfl,s,rfl,hs,hL⟩;obtain ⟨n1,n2,n3,n4,n5,n6⟩:=norm hL hs hlt hlo) | (refine UI rfl (by omega) ?_) | (refine Qgp (m:=y) (q:=s) rfl rfl rfl hs n2 ?_) | (refine Qgp (m:=hi) (q:=s) rfl rfl rfl hs (by omega) ?_) | (refine Qgq (m:=lo) (q:=s) rfl rfl rfl hs ?_) | (refine Ql2 (m:=lo) (q:=64-s) rfl rfl (by omega) (by omega) ?_) | (refine XN (q:=32) rfl rfl rfl (by omega) ?_) | (refine Qat (q:=32) rfl rfl (by omega) (by omega) rfl ?_) | (refine XJ rfl rfl (by omega) ?_) | (refine k_orU (m:=hi) (n:=lo / 2 ^ (64-s)) (q:=s) rfl rfl rfl rfl n3 (by omega) ?_) | refine Qo rfl ?_ | refine JS rfl rfl (by omega) ?_ | refine Xf rfl rfl (by omega) ?_))
  have t1:((hi*18446744073709551616+lo)*2 ^ s:Nat)=(hi*2 ^ s+lo / 2 ^ (64-s))*18446744073709551616+lo*2 ^ s%18446744073709551616:=by
   rw [n4,GT,Nat.mul_right_comm]
   generalize hi*2 ^ s=a
   generalize lo*2 ^ s=b
   omega
  have t2:=fun z:Nat=>Nat.mul_div_mul_right (hi*18446744073709551616+lo) z n6
  obtain ⟨P,hP⟩:∃ P:Nat,2 ^ s=P:=⟨_,rfl⟩
  have key:∀ Q R:Int,0≤R→R < ((y*2 ^ s:Nat):Int)→Q*((y*2 ^ s:Nat):Int)+R=(((hi*18446744073709551616+lo)*2 ^ s:Nat):Int)→((((hi*18446744073709551616+lo) / y:Nat):Int)=Q∧(((hi*18446744073709551616+lo)%y:Nat):Int)=R / (2 ^ s:Nat)):=by
   rw [hP] at n6 ⊢
   intro Q R r1 r2 r3
   have hyp:(0:Int) < (y:Nat):=by omega
   have hPp:(0:Int) < (P:Nat):=by omega
   rw [GZ,GZ] at r3
   rw [GZ] at r2
   generalize hT:((hi*18446744073709551616+lo:Nat):Int)=T at *
   have q1:T / (y:Nat)=Q:=by
    refine QgW hyp (Int.le_of_mul_le_mul_right (a:=(P:Nat)) ?_ hPp) (Int.lt_of_mul_lt_mul_right (a:=(P:Nat)) ?_ (Int.le_of_lt hPp))
    ·rw [Hi];omega
    ·rw [Hi,Int.add_mul,Hj];omega
   have q2:R=(T-Q*(y:Nat))*(P:Nat):=by rw [Int.sub_mul,Hi];omega
   have q3:T%(y:Nat)=T-Q*(y:Nat):=by
    have:=Int.emod_add_ediv_mul T (y:Nat)
    rw [q1] at this;omega
   rw [Int.natCast_ediv,Int.natCast_emod,hT,q1,q3,q2,Int.mul_ediv_cancel _ (by omega)]
   exact ⟨rfl,rfl⟩
  rw [t1] at key
  rw [Int.natCast_add ((hi*2 ^ s+lo / 2 ^ (64-s))*18446744073709551616),GZ (hi*2 ^ s+lo / 2 ^ (64-s))] at key
  have b1:(9223372036854775808:Int)≤((y*2 ^ s:Nat):Int)∧((y*2 ^ s:Nat):Int) < 18446744073709551616:=by omega
  have b2:0≤((hi*2 ^ s+lo / 2 ^ (64-s):Nat):Int)∧((hi*2 ^ s+lo / 2 ^ (64-s):Nat):Int) < ((y*2 ^ s:Nat):Int):=by omega
  have b3:0≤((lo*2 ^ s%18446744073709551616:Nat):Int)∧((lo*2 ^ s%18446744073709551616:Nat):Int) < 18446744073709551616:=by omega
  clear t1 t2 n1 n2 n3 n4 n5
  generalize ((y*2 ^ s:Nat):Int)=Y at *
  generalize ((hi*2 ^ s+lo / 2 ^ (64-s):Nat):Int)=H at *
  generalize ((lo*2 ^ s%18446744073709551616:Nat):Int)=L at *
  have hY:Y=Y / (2 ^ 32:Nat)*4294967296+Y%(2 ^ 32:Nat):=by omega
  have hy0:0≤Y%(2 ^ 32:Nat)∧Y%(2 ^ 32:Nat) < 4294967296:=by omega
  have hy1:0 < Y / (2 ^ 32:Nat)∧Y / (2 ^ 32:Nat) < 4294967296:=by omega
  have hL2:L=L / (2 ^ 32:Nat)*4294967296+L%(2 ^ 32:Nat):=by omega
  have hu1:0≤L / (2 ^ 32:Nat)∧L / (2 ^ 32:Nat) < 4294967296:=by omega
  have hu0:0≤L%(2 ^ 32:Nat)∧L%(2 ^ 32:Nat) < 4294967296:=by omega
  generalize Y / ((2 ^ 32:Nat):Int)=y1 at *
  generalize Y%((2 ^ 32:Nat):Int)=y0 at *
  generalize L / ((2 ^ 32:Nat):Int)=u1 at *
  generalize L%((2 ^ 32:Nat):Int)=u0 at *
  obtain ⟨f1,f2,f3,f4,f5⟩:=Qbw (u:=u1) hY hy0.1 hy1.1 hu1.2 b2.1
  have f6:H / y1≤H:=Int.ediv_le_self _ b2.1
  have f7:0≤H / y1*y1:=Hq f5 (by omega)
  repeat' (first | refine Qg ?_ | refine Qb ?_ | refine Qv ?_ | refine Qf ?_ | ((refine Qe ?_);first | refine Xa rfl rfl rfl rfl rfl rfl rfl rfl ?_ | refine Q5 rfl rfl rfl rfl rfl rfl rfl rfl rfl ?_) | ((refine Qc ?_);first | (refine UH rfl rfl ⟨b2.1,by omega,hy1.1⟩ ?_) | (refine ZZ rfl rfl (by omega) ?_) | (refine XJ rfl rfl (by omega) ?_) | refine Qo rfl ?_))
  refine YU (Qij hq Y s y1 y0 H u1 u0) (qM [2,8,9,10,11,13,14,15,16] 15) (Qk6 hq Y s y1 y0 H u1 u0) ⟨rfl,H / y1,H-H / y1*y1,f5,by omega,f2,by omega,f1,f4,rfl⟩ (Qey hq Y s y1 y0 H u1 u0 hY b1.2 hy0 hy1.1 hu1 b2) ?_
  rintro ex E' hh ⟨rfl,rfl,q1,a,b,g1,g2,g3,rfl⟩
  have g4:=Qkg b2.2 hu1.2 (by omega) g2
  rw [Int.add_mul,Hj] at g3
  have eD:((H*4294967296%18446744073709551616+u1)%18446744073709551616-q1*Y%18446744073709551616)%18446744073709551616=H*4294967296+u1-q1*Y:=by omega
  have hD:0≤H*4294967296+u1-q1*Y∧H*4294967296+u1-q1*Y < Y:=by omega
  repeat' (first | refine Qg ?_ | refine Qb ?_ | refine QP ?_ | refine Qf ?_ | ((refine Qe ?_);refine Xn rfl rfl rfl rfl rfl rfl rfl ?_) | ((refine Qc ?_);first | (refine Qar rfl rfl ?_) | (refine Qgx rfl rfl ?_) | (refine Qcp rfl rfl ?_;rw [eD]) | refine Qo rfl ?_))
  generalize hDe:H*4294967296+u1-q1*Y=D at *
  obtain ⟨i1,i2,i3,i4,i5⟩:=Qbw (u:=u0) hY hy0.1 hy1.1 hu0.2 hD.1
  have i6:D / y1≤D:=Int.ediv_le_self _ hD.1
  have i7:0≤D / y1*y1:=Hq i5 (by omega)
  repeat' (first | refine Qg ?_ | refine Qb ?_ | refine Qv ?_ | refine Qf ?_ | ((refine Qe ?_);first | refine Xa rfl rfl rfl rfl rfl rfl rfl rfl ?_ | refine Q5 rfl rfl rfl rfl rfl rfl rfl rfl rfl ?_) | ((refine Qc ?_);first | (refine UH rfl rfl ⟨hD.1,by omega,hy1.1⟩ ?_) | (refine ZZ rfl rfl (by omega) ?_) | (refine XJ rfl rfl (by omega) ?_) | refine Qo rfl ?_))
  refine YU (Qii _ Y s y1 y0 D u0 q1) (qM [2,8,9,10,14,15,16,17,18] 18) (Qk5 _ Y s y1 y0 D u0 q1) ⟨rfl,D / y1,D-D / y1*y1,i5,by omega,i2,by omega,i1,i4,rfl⟩ (Qex _ Y s y1 y0 D u0 q1 hY b1.2 hy0 hy1.1 hu0 hD) ?_
  rintro ex E' hh ⟨rfl,rfl,q0,a,b,j1,j2,j3,rfl⟩
  have j4:=Qkg hD.2 hu0.2 (by omega) j2
  rw [Int.add_mul,Hj] at j3
  have eR:(D*4294967296%18446744073709551616+u0-q0*Y%18446744073709551616)%18446744073709551616=D*4294967296+u0-q0*Y:=by omega
  have hR:0≤D*4294967296+u0-q0*Y∧D*4294967296+u0-q0*Y < Y:=by omega
  have eQ:(q1*4294967296+q0)*Y+(D*4294967296+u0-q0*Y)=H*(18446744073709551616:Nat)+L:=by
   rw [Int.add_mul,Int.mul_right_comm]
   generalize q1*Y=z1 at *
   generalize q0*Y=z0 at *
   omega
  obtain ⟨k1,k2⟩:=key (q1*4294967296+q0) (D*4294967296+u0-q0*Y) hR.1 hR.2 eQ
  rw [k1,k2]
  repeat' (first | refine Qg ?_ | refine Qb ?_ | refine QP ?_ | refine Qt ?_ | refine Qf ?_ | ((refine Qe ?_);refine QE rfl rfl ?_) | ((refine Qc ?_);first | (refine ZZ rfl rfl (by omega) ?_) | (refine YK rfl rfl (by omega) ?_) | (refine Qar rfl rfl ?_) | (refine Qcp rfl rfl ?_;rw [eR]) | (refine XN (q:=s) rfl rfl rfl hs ?_) | refine Qo rfl ?_))
  exact ⟨.inr rfl,rfl,rfl⟩
