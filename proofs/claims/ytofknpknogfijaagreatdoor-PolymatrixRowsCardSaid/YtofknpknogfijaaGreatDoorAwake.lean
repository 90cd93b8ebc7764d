/- The field's small functions: sum,difference,residue,representative,inverse. -/
import Derived.Test.YtofknpknogfijaaGreatDoorMU
import Derived.Test.YtofknpknogfijaaGreatDoorFT1
import Derived.Test.YtofknpknogfijaaGreatDoorAb49
import Derived.Test.YtofknpknogfijaaGreatDoorAb49
namespace Go.Proofs.YtofknpknogfijaaGreatDoor
open Go.Ab
set_option linter.all false
set_option maxHeartbeats 16000000
set_option maxRecDepth 20000
attribute [local irreducible] Ql wA Xr Xp QA Qp QW QY
variable [HB]
theorem QaH (h0:Qa) (p g a b:Nat) (hp:p < 9223372036854775808) (ha:a < p) (hb:b < p):∃ r h',Cal FT HKt 129 [fld p g,u a,u b] h0 r h'∧Ext h0 h'∧r=u (adM p a b):=by
 refine Cal.of (F:=a129) rfl rfl rfl ?_
 unfold adM
 by_cases hc:p≤a+b
 ·rw [if_pos hc]
  have e:((a:Int)+b-p)=((a+b-p:Nat):Int):=by omega
  repeat' (first | refine Qg ?_ | refine Qb ?_ | refine Qt ?_ | refine Qf ?_ | ((refine Qh ?_);refine Qj rfl ?_) | ((refine Qe ?_);first | refine Qq rfl ?_ | refine QE rfl rfl ?_ | refine Qu rfl rfl rfl ?_) | ((refine Qc ?_);first | (refine Qx rfl ?_;intro h1 e1 c1) | refine Xi rfl ?_ | refine QQ rfl c1 ?_ | refine YK rfl rfl (by omega) ?_ | (refine XJ rfl rfl (by omega) ?_;rw [e]) | refine Qo rfl ?_ | refine Ym rfl rfl (by omega) ?_))
  exact ⟨.inr rfl,e1,rfl⟩
 ·rw [if_neg hc]
  have e:((a:Int)+b)=((a+b:Nat):Int):=by omega
  repeat' (first | refine Qg ?_ | refine Qb ?_ | refine Qn ?_ | refine Qt ?_ | refine Qf ?_ | ((refine Qh ?_);refine Qk rfl ?_) | ((refine Qe ?_);first | refine Qq rfl ?_ | refine QE rfl rfl ?_ | refine Qu rfl rfl rfl ?_) | ((refine Qc ?_);first | (refine Qx rfl ?_;intro h1 e1 c1) | refine Xi rfl ?_ | refine QQ rfl c1 ?_ | (refine YK rfl rfl (by omega) ?_;rw [e]) | refine Qo rfl ?_ | refine X3 rfl rfl (by omega) ?_))
  exact ⟨.inr rfl,e1,rfl⟩
theorem Ub (h0:Qa) (p g a b:Nat) (hp:p < 9223372036854775808) (ha:a < p) (hb:b≤p):∃ r h',Cal FT HKt 122 [fld p g,u a,u b] h0 r h'∧Ext h0 h'∧r=u (sbM p a b):=by
 refine Cal.of (F:=a122) rfl rfl rfl ?_
 unfold sbM
 by_cases hc:a < b
 ·rw [if_pos hc]
  have e:((a:Int)+p-b)=((a+p-b:Nat):Int):=by omega
  repeat' (first | refine Qg ?_ | refine Qb ?_ | refine Qt ?_ | refine Qf ?_ | ((refine Qh ?_);refine Qj rfl ?_) | ((refine Qe ?_);first | refine Qq rfl ?_ | refine QE rfl rfl ?_ | refine Qu rfl rfl rfl ?_ | refine QG rfl rfl rfl rfl ?_) | ((refine Qc ?_);first | (refine Qx rfl ?_;intro h1 e1 c1) | refine Xi rfl ?_ | refine QQ rfl c1 ?_ | refine YK rfl rfl (by omega) ?_ | (refine XJ rfl rfl (by omega) ?_;rw [e]) | refine Qo rfl ?_ | refine Qy rfl rfl (by omega) ?_))
  exact ⟨.inr rfl,e1,rfl⟩
 ·rw [if_neg hc]
  have e:((a:Int)-b)=((a-b:Nat):Int):=by omega
  repeat' (first | refine Qg ?_ | refine Qb ?_ | refine Qn ?_ | refine Qt ?_ | refine Qf ?_ | ((refine Qh ?_);refine Qk rfl ?_) | ((refine Qe ?_);first | refine Qq rfl ?_ | refine Qu rfl rfl rfl ?_ | refine QG rfl rfl rfl rfl ?_) | ((refine Qc ?_);first | (refine Qx rfl ?_;intro h1 e1 c1) | (refine XJ rfl rfl (by omega) ?_;rw [e]) | refine Qo rfl ?_ | refine QM rfl rfl (by omega) ?_))
  exact ⟨.inr rfl,e1,rfl⟩
def ofM (p:Nat) (x:Int):Nat:=if x < 0 then p-x.natAbs else x.natAbs
theorem Qcj {p:Nat} {x:Int} (h:x.natAbs < p):ofM p x < p:=by unfold ofM;split <;> omega
theorem Qck {p:Nat} {x:Int} (h:x.natAbs < p):Cg p (ofM p x:Nat) x:=by
 unfold ofM
 split
 ·exact ⟨1,by omega⟩
 ·exact Cg.of_eq (by omega)
theorem QcC (h0:Qa) (p g:Nat) (x:Int) (hp:p < 9223372036854775808) (hx:x.natAbs < p):∃ r h',Cal FT HKt 99 [fld p g,.sc (.int .i64 x)] h0 r h'∧Ext h0 h'∧r=u (ofM p x):=by
 refine Cal.of (F:=a99) rfl rfl rfl ?_
 unfold ofM
 by_cases hc:x < 0
 ·rw [if_pos hc]
  have e:((p:Int) - -x)=((p-x.natAbs:Nat):Int):=by omega
  repeat' (first | refine Qg ?_ | refine Qb ?_ | refine QD ?_ | refine Qt ?_ | refine Qf ?_ | ((refine Qh ?_);refine Qj rfl ?_) | ((refine Qe ?_);first | refine Qq rfl ?_ | refine QE rfl rfl ?_ | refine Qu rfl rfl rfl ?_) | ((refine Qc ?_);first | (refine Qx rfl ?_;intro h1 e1 c1) | refine Xi rfl ?_ | refine QQ rfl c1 ?_ | refine UI rfl (by omega) ?_ | (refine XJ rfl rfl (by omega) ?_;rw [e]) | refine Qo rfl ?_ | refine JR rfl (by omega) ?_ | refine Qy rfl rfl (by omega) ?_))
  exact ⟨.inr rfl,e1,rfl⟩
 ·rw [if_neg hc]
  have e:x=((x.natAbs:Nat):Int):=by omega
  generalize x.natAbs=n at *
  subst e
  repeat' (first | refine Qg ?_ | refine Qb ?_ | refine Qn ?_ | refine Qt ?_ | refine Qf ?_ | ((refine Qh ?_);refine Qk rfl ?_) | ((refine Qe ?_);first | refine Qq rfl ?_ | refine QE rfl rfl ?_ | refine Qu rfl rfl rfl ?_) | ((refine Qc ?_);first | (refine Qx rfl ?_;intro h1 e1 c1) | refine UI rfl (by omega) ?_ | refine Qo rfl ?_ | refine QM rfl rfl (by omega) ?_))
  exact ⟨.inr rfl,e1,rfl⟩
def lfM (p a:Nat):Int:=if p / 2 < a then -((p-a:Nat):Int) else (a:Nat)
theorem Qmj (h0:Qa) (p g a:Nat) (hp:p < 9223372036854775808) (ha:a < p):∃ r h',Cal FT HKt 97 [fld p g,u a] h0 r h'∧Ext h0 h'∧r=.sc (.int .i64 (lfM p a)):=by
 refine Cal.of (F:=a97) rfl rfl rfl ?_
 unfold lfM
 by_cases hc:p / 2 < a
 ·rw [if_pos hc]
  have e:((p:Int)-a)=((p-a:Nat):Int):=by omega
  repeat' (first | refine Qg ?_ | refine Qb ?_ | refine QD ?_ | refine Qt ?_ | refine Qf ?_ | ((refine Qh ?_);refine Qj rfl ?_) | ((refine Qe ?_);first | refine Qq rfl ?_ | refine QE rfl rfl ?_ | refine Qu rfl rfl rfl ?_) | ((refine Qc ?_);first | (refine Qx rfl ?_;intro h1 e1 c1) | refine Xi rfl ?_ | refine QQ rfl c1 ?_ | refine UH rfl rfl (by omega) ?_ | refine Yx rfl (by omega) ?_ | (refine XJ rfl rfl (by omega) ?_;rw [e]) | refine Qo rfl ?_ | refine JR rfl (by omega) ?_ | refine XV rfl rfl (by omega) ?_))
  exact ⟨.inr rfl,e1,rfl⟩
 ·rw [if_neg hc]
  repeat' (first | refine Qg ?_ | refine Qb ?_ | refine Qn ?_ | refine Qt ?_ | refine Qf ?_ | ((refine Qh ?_);refine Qk rfl ?_) | ((refine Qe ?_);first | refine Qq rfl ?_ | refine QE rfl rfl ?_ | refine Qu rfl rfl rfl ?_) | ((refine Qc ?_);first | (refine Qx rfl ?_;intro h1 e1 c1) | refine Xi rfl ?_ | refine QQ rfl c1 ?_ | refine UH rfl rfl (by omega) ?_ | refine Yx rfl (by omega) ?_ | refine Qo rfl ?_ | refine XT rfl rfl (by omega) ?_))
  exact ⟨.inr rfl,e1,rfl⟩
def XU (p a:Nat):Nat:=YI p 64 1 a (p-2)
theorem Uc (h0:Qa) (p g a:Nat) (hp:2≤p∧p < 18446744073709551616) (ha:a < 18446744073709551616):∃ r h',Cal FT HKt 121 [fld p g,u a] h0 r h'∧Ext h0 h'∧r=u (XU p a):=by
 refine Cal.of (F:=a121) rfl rfl rfl ?_
 unfold XU
 have e:((p:Int)-2)=((p-2:Nat):Int):=by omega
 have k:=fun H=>yJ H p g a (p-2) ⟨by omega,hp.2⟩ ha (by omega)
 repeat' (first | refine Qg ?_ | refine Qb ?_ | refine Qt ?_ | refine Qf ?_ | ((refine Qe ?_);first | refine Qq rfl ?_ | refine QE rfl rfl ?_) | ((refine Qc ?_);first | (refine Qx rfl ?_;intro h1 e1 c1) | refine Xi rfl ?_ | refine QQ rfl c1 ?_ | refine QI rfl c1 ?_ | (refine XJ rfl rfl (by omega) ?_;rw [e]) | (refine Qi rfl (k _) ?_;rintro v h2 ⟨e2,rfl⟩) | refine Qo rfl ?_))
 exact ⟨.inr rfl,e1.trans e2,rfl⟩
end Go.Proofs.YtofknpknogfijaaGreatDoor
namespace Go.Proofs.YtofknpknogfijaaGreatDoor
set_option linter.all false
theorem FOK.cancel {p:Nat} {inv:Nat→Nat} (hF:FOK p inv) (hp:1 < p) {y z:Int} (hy:¬ Cg p y 0) (h:Cg p (y*z) 0):Cg p z 0:=by
 have h1:0≤y%(p:Int):=Int.emod_nonneg _ (by omega)
 have h2:y%(p:Int) < p:=Int.emod_lt_of_pos _ (by omega)
 obtain ⟨a,ha⟩:∃ a:Nat,y%(p:Int)=a:=⟨(y%(p:Int)).toNat,by omega⟩
 have h3:Cg p (a:Int) y:=ha ▸ Cg.mod
 have h4:0 < a:=by
  rcases Nat.eq_zero_or_pos a with e | e
  ·subst e;exact absurd h3.symm hy
  ·exact e
 have h5:=hF a h4 (by omega)
 have h6:Cg p ((a:Int)*(inv a:Nat)) 1:=by
  have:Cg p ((a*inv a:Nat):Int) ((1:Nat):Int):=by rw [← h5];exact Cg.modN.symm
  rwa [Int.natCast_mul] at this
 have h7:Cg p (((inv a:Nat):Int)*(y*z)) (((inv a:Nat):Int)*0):=Cg.rfl.mul h
 rw [Int.mul_zero] at h7
 refine Cg.trans (Cg.symm ?_) h7
 refine ((Cg.of_eq (show ((inv a:Nat):Int)*(y*z)=(y*(inv a:Nat))*z by grind)).trans ((h3.symm.mul Cg.rfl).mul Cg.rfl)).trans ((h6.mul Cg.rfl).trans (Cg.of_eq (Int.one_mul z)))
theorem QaW:∀ (m s:Nat),0 < m→m < 2 ^ s→∃ t v,t < s∧m=2 ^ t*(2*v+1)
 | m,0,h,h2=>by simp at h2;omega
 | m,s+1,h,h2=>by
  by_cases e:m%2=1
  ·exact ⟨0,m / 2,by omega,by simp;omega⟩
  ·obtain ⟨t,v,h3,h4⟩:=QaW (m / 2) s (by omega) (by rw [Nat.pow_succ] at h2;omega)
   exact ⟨t+1,v,by omega,by rw [Nat.pow_succ,Nat.mul_right_comm,← h4];omega⟩
theorem Qf6:∀ v:Nat,(-1:Int) ^ (2*v+1) = -1:=fun v=>by
 rw [Int.pow_succ,Int.pow_mul]
 show (1:Int) ^ v * -1 = -1
 rw [YW];rfl
theorem Rt.ne {p s u m:Nat} (h:Rt p s u) (hp:2 < p) (h0:0 < m) (hm:m < 2 ^ s):¬ Cg p ((u:Int) ^ m) 1:=fun hc=>by
 obtain ⟨t,v,ht,rfl⟩:=QaW m s h0 hm
 have hw:=h.resolve_left (by omega)
 have h1:=hc.pow (2 ^ (s-1-t))
 rw [YW,← Int.pow_mul,Nat.mul_right_comm,← Nat.pow_add,show t+(s-1-t)=s-1 by omega,Int.pow_mul] at h1
 have h2:=(hw.pow (2*v+1)).symm.trans h1
 rw [Qf6] at h2
 have:=h2.eq (by show 2 < p;exact hp)
 omega
theorem Rt.inv {p s u u':Nat} (h:Rt p s u) (hi:Cg p ((u:Int)*u') 1):Rt p s u':=by
 rcases h with h | h
 ·exact .inl h
 refine .inr ?_
 have h1:=hi.pow (2 ^ (s-1))
 rw [Int.mul_pow,YW] at h1
 have h2:Cg p ((u:Int) ^ 2 ^ (s-1)*(u':Int) ^ 2 ^ (s-1)) (-1*(u':Int) ^ 2 ^ (s-1)):=h.mul Cg.rfl
 have h3:=(h2.symm.trans h1).neg
 exact (Cg.of_eq (by omega)).trans h3
theorem Rt.top {p s u:Nat} (h:Rt p s u) (h1:s=0→Cg p (u:Int) 1):Cg p ((u:Int) ^ 2 ^ s) 1:=by
 rcases h with h | h
 ·have:=h1 h
  subst h
  exact this.pow 1
 ·by_cases h0:s=0
  ·subst h0;exact (h1 rfl).pow 1
  ·have e:2 ^ s=2 ^ (s-1)*2:=by rw [← Nat.pow_succ];congr 1;omega
   rw [e,Int.pow_mul]
   exact (h.pow 2).trans (Cg.of_eq (by decide))
theorem Rt.sum {p s u m:Nat} {inv:Nat→Nat} (hF:FOK p inv) (h:Rt p s u) (hp:2 < p) (h0:0 < m) (hm:m < 2 ^ s):Cg p (sm (2 ^ s) fun i=>((u:Int) ^ m) ^ i) 0:=by
 refine hF.cancel (by omega) (y:=(u:Int) ^ m-1) (fun hc=>h.ne hp h0 hm ?_) ?_
 ·have:=hc.add (Cg.rfl (p:=p) (a:=1))
  exact (Cg.of_eq (by omega)).trans this
 ·rw [geo,← Int.pow_mul,Nat.mul_comm,Int.pow_mul]
  have hs:s≠0:=by intro e;rw [e] at hm;simp at hm;omega
  have:=(h.top (fun e=>absurd e hs)).pow m
  rw [YW] at this
  exact (this.sub (Cg.rfl (p:=p) (a:=1))).trans (Cg.of_eq (by omega))
theorem Qjz {p s w w':Nat} {inv:Nat→Nat} (hF:FOK p inv) (hp:2 < p) (hr:Rt p s w) (hi:Cg p ((w:Int)*w') 1) (vs:List Nat) (hl:vs.length=2 ^ s) (hv:∀ x∈vs,x < p) (d:Nat→Int)
  (hd:∀ t,t < 2 ^ s→Cg p ((vs.getD t 0:Nat):Int) (sm (2 ^ s) fun j=>d j*(w:Int) ^ (j*t))) (k:Nat) (hk:k < 2 ^ s):Cg p ((trM p s vs w').getD k 0:Nat) ((2 ^ s:Nat)*d k):=by
 refine ((Uf (by omega) s vs w' hl hv (hr.inv hi)).2 k hk).trans ?_
 have e1:Cg p (sm (2 ^ s) fun i=>((vs.getD i 0:Nat):Int)*(w':Int) ^ (i*k)) (sm (2 ^ s) fun i=>sm (2 ^ s) fun j=>d j*((w:Int) ^ j*(w':Int) ^ k) ^ i):=by
  refine qU fun i hi=>((hd i hi).mul Cg.rfl).trans (Cg.of_eq ?_)
  rw [← QiE]
  refine XK fun j _=>?_
  rw [Int.mul_pow,← Int.pow_mul,← Int.pow_mul,Nat.mul_comm k i,Int.mul_assoc]
 refine e1.trans ?_
 rw [QcZ]
 refine (qU (g:=fun j=>if j=k then ((2 ^ s:Nat):Int)*d k else 0) fun j hj=>?_).trans (Cg.of_eq (Qfz k _ hk))
 simp only [Zh]
 have inverse:∀ n:Nat,Cg p ((w:Int) ^ n*(w':Int) ^ n) 1:=fun n=>by
  rw [← Int.mul_pow];exact (hi.pow n).trans (Cg.of_eq (YW n))
 split
 ·rename_i e
  subst e
  rw [Int.mul_comm]
  refine Cg.mul ?_ Cg.rfl
  exact (qU (g:=fun _=>1) fun i _=>((inverse j).pow i).trans (Cg.of_eq (YW i))).trans (Cg.of_eq Qfx)
 ·rename_i e
  suffices h:∃ u m:Nat,Rt p s u∧0 < m∧m < 2 ^ s∧Cg p ((w:Int) ^ j*(w':Int) ^ k) ((u:Int) ^ m) by
   obtain ⟨u,m,h1,h2,h3,h4⟩:=h
   refine (Cg.rfl.mul ((qU fun i _=>h4.pow i).trans (h1.sum hF hp h2 h3))).trans (Cg.of_eq (Int.mul_zero _))
  by_cases hjk:k < j
  ·refine ⟨w,j-k,hr,by omega,by omega,?_⟩
   refine (Cg.of_eq ?_).trans ((Cg.rfl.mul (inverse k)).trans (Cg.of_eq (Int.mul_one _)))
   rw [← Int.mul_assoc,← Int.pow_add,show j-k+k=j by omega]
  ·refine ⟨w',k-j,hr.inv hi,by omega,by omega,?_⟩
   refine (Cg.of_eq ?_).trans (((inverse j).mul Cg.rfl).trans (Cg.of_eq (Int.one_mul _)))
   rw [Int.mul_assoc,← Int.pow_add,show j+(k-j)=k by omega]
variable [HB]
theorem V9 {p:Nat}:∀ (n r a e:Nat),e < 2 ^ n→Cg p (YI p n r a e:Nat) ((r:Int)*(a:Int) ^ e)
 | 0,r,a,e,h=>by
  have:e=0:=by omega
  subst this
  exact Cg.of_eq (by simp [YI])
 | n+1,r,a,e,h=>by
  rw [Z6]
  split
  ·rename_i h0
   subst h0
   exact Cg.of_eq (by simp)
  ·have h2:e / 2 < 2 ^ n:=by rw [Nat.pow_succ] at h;omega
   have h3:Cg p (((a*a%p:Nat):Int) ^ (e / 2)) ((a:Int) ^ (2*(e / 2))):=by
    rw [← V1,← Int.natCast_mul];exact Cg.modN.pow _
   refine (V9 n _ _ _ h2).trans ?_
   split
   ·rename_i ho
    refine ((Cg.modN.trans (Cg.of_eq (Int.natCast_mul _ _))).mul h3).trans (Cg.of_eq ?_)
    rw [Int.mul_assoc,← Int.pow_succ']
    congr 2;omega
   ·rename_i ho
    refine (Cg.rfl.mul h3).trans (Cg.of_eq ?_)
    congr 2;omega
theorem Zy {p:Nat}:∀ (n r a e:Nat),r < p→YI p n r a e < p
 | 0,r,a,e,h=>h
 | n+1,r,a,e,h=>by
  rw [Z6]
  split
  ·exact h
  ·refine Zy n _ _ _ ?_
   split
   ·exact Nat.mod_lt _ (by omega)
   ·exact h
theorem Ut {p:Nat} (hp:1 < p) (n a e:Nat) (h:e < 2 ^ n):YI p n 1 a e=a ^ e%p:=by
 refine Cg.eqN (p:=p) ((V9 n 1 a e h).trans ?_) (Zy n 1 a e hp) (Nat.mod_lt _ (by omega))
 refine Cg.trans (Cg.of_eq ?_) Cg.modN.symm
 rw [Int.natCast_pow]
 exact Int.one_mul _
def lucB (p g:Nat) (l:List Nat):Bool:=decide (1 < p) && (l.foldr (·*·) 1 == p-1) && (YI p 64 1 g (p-1) == 1) && l.all fun q=>YI p 64 1 g ((p-1) / q) != 1
theorem zW {p g:Nat} {l:List Nat} (h:lucB p g l=true) (hs:p < 2 ^ 64) (hl:∀ q∈l,Pr q):∀ a,0 < a→a < p→a ^ (p-1)%p=1:=by
 unfold lucB at h
 simp only [Bool.and_eq_true,decide_eq_true_iff,beq_iff_eq,List.all_eq_true,bne_iff_ne] at h
 obtain ⟨⟨⟨h1,h2⟩,h3⟩,h4⟩:=h
 have lt:∀ q,(p-1) / q < 2 ^ 64:=fun q=>Nat.lt_of_le_of_lt (Nat.div_le_self _ _) (by omega)
 rw [Ut h1 64 g (p-1) (by omega)] at h3
 exact lucas l h1 hl h2 h3 fun q hq=>by
  have:=h4 q hq
  rwa [Ut h1 64 g _ (lt q)] at this
def Qfv (l:List Nat):Bool:=l.all fun q=>prS q && decide (q < 4900)
theorem J5 {l:List Nat} (h:Qfv l=true):∀ q∈l,Pr q:=fun q hq=>by
 unfold Qfv at h
 rw [List.all_eq_true] at h
 have:=h q hq
 rw [Bool.and_eq_true,decide_eq_true_iff] at this
 exact QlH this.1 this.2
theorem QfY:Pr 61681:=Qbu (by decide) (zW (g:=29) (l:=[2,2,2,2,3,5,257]) (by decide +kernel) (by decide) (J5 (by decide +kernel)))
theorem Us:Pr 77158710721:=Qbu (by decide) (zW (g:=41) (l:=[2,2,2,2,2,2,3,3,5,7,13,37,73,109]) (by decide +kernel) (by decide) (J5 (by decide +kernel)))
def p1:Nat:=2305843009211596801
def p2:Nat:=2305843009210023937
theorem Qjq:∀ a,0 < a→a < p1→a ^ (p1-1)%p1=1 :=
 zW (g:=37) (l:=61681::[2,2,2,2,2,2,2,2,2,2,2,2,2,2,2,2,2,2,2,2,2,3,5,5,11,17,31,41]) (by decide +kernel) (by decide) fun q hq=>by
  rcases List.mem_cons.1 hq with rfl | hq
  ·exact QfY
  ·exact J5 (by decide +kernel) q hq
theorem Qjp:∀ a,0 < a→a < p2→a ^ (p2-1)%p2=1 :=
 zW (g:=5) (l:=77158710721::[2,2,2,2,2,2,2,2,2,2,2,2,2,2,2,2,2,2,2,3,19]) (by decide +kernel) (by decide) fun q hq=>by
  rcases List.mem_cons.1 hq with rfl | hq
  ·exact Us
  ·exact J5 (by decide +kernel) q hq
theorem QgE {p:Nat} (hp:2 < p) (hs:p < 2 ^ 64) (h:∀ a,0 < a→a < p→a ^ (p-1)%p=1):FOK p (XU p):=fun a h0 h1=>by
 unfold XU
 rw [Ut (by omega) 64 a (p-2) (by omega),Nat.mul_mod_mod,← Nat.pow_succ',Nat.succ_eq_add_one,show p-2+1=p-1 by omega]
 exact h a h0 h1
theorem fok1:FOK p1 (XU p1):=QgE (by decide) (by decide) Qjq
theorem fok2:FOK p2 (XU p2):=QgE (by decide) (by decide) Qjp
def r1:Nat:=1681162619342215248
def r2:Nat:=1308300859968897983
theorem Qj8 {p r:Nat} (hp:1 < p) (h:YI p 64 1 r (2 ^ 16)=p-1):Rt p 17 r:=.inr (by
 have:=V9 (p:=p) 64 1 r (2 ^ 16) (by decide)
 rw [h] at this
 refine Cg.trans (Cg.of_eq ?_) (this.symm.trans ⟨1,by omega⟩)
 exact (Int.one_mul _).symm)
theorem rt1:Rt p1 17 r1:=Qj8 (by decide) (by decide +kernel)
theorem rt2:Rt p2 17 r2:=Qj8 (by decide) (by decide +kernel)
end Go.Proofs.YtofknpknogfijaaGreatDoor
namespace Go.Proofs.YtofknpknogfijaaGreatDoor
open Go.Ab
set_option linter.all false
def okW (a:Int):Prop:=0≤a∧a < 18446744073709551616
instance (a:Int):Decidable (okW a):=by unfold okW;exact inferInstance
def Jq:Xj:=fun args h=>match args with
 | [.agg [.int .u64 p,.int .u64 g],.sc (.int .u64 a),.sc (.int .u64 b)]=>if 0 < p∧okW p∧okW g∧okW a∧okW b then frc (a.toNat*b.toNat%p.toNat) fun r=>some (.sc (.int .u64 (r:Nat)),h) else none
 | _=>none
def Jp:Xj:=fun args h=>match args with
 | [.agg [.int .u64 p,.int .u64 g],.sc (.int .u64 a),.sc (.int .u64 b)]=>if 0 < p∧okW p∧okW g∧okW a∧okW b then frc (YI p.toNat 64 1 a.toNat b.toNat) fun r=>some (.sc (.int .u64 (r:Nat)),h) else none
 | _=>none
def qz:Xj:=fun args h=>match args with
 | [.sc (.int .u64 n)]=>if 2 < n∧okW n then some (.sc (.bool (prM n.toNat)),h) else none
 | _=>none
def JB:Xj:=fun args h=>match args with
 | [.agg [.int .u64 p,.int .u64 g],.sc (.int .u64 a),.sc (.int .u64 b)]=>if p < 9223372036854775808∧0≤a∧a < p∧0≤b∧b < p∧okW g then frc (adM p.toNat a.toNat b.toNat) fun r=>some (.sc (.int .u64 (r:Nat)),h) else none
 | _=>none
def Jh:Xj:=fun args h=>match args with
 | [.agg [.int .u64 p,.int .u64 g],.sc (.int .u64 a),.sc (.int .u64 b)]=>if p < 9223372036854775808∧0≤a∧a < p∧0≤b∧b≤p∧okW g then frc (sbM p.toNat a.toNat b.toNat) fun r=>some (.sc (.int .u64 (r:Nat)),h) else none
 | _=>none
def qA:Xj:=fun args h=>match args with
 | [.agg [.int .u64 p,.int .u64 g],.sc (.int .i64 x)]=>if p < 9223372036854775808∧okW p∧okW g∧(x.natAbs:Int) < p then frc (ofM p.toNat x) fun r=>some (.sc (.int .u64 (r:Nat)),h) else none
 | _=>none
def Jt:Xj:=fun args h=>match args with
 | [.agg [.int .u64 p,.int .u64 g],.sc (.int .u64 a)]=>if 2≤p∧okW p∧okW g∧okW a then frc (XU p.toNat a.toNat) fun r=>some (.sc (.int .u64 (r:Nat)),h) else none
 | _=>none
def HKs:FuncId→Option Xj:=fun f=>if f=43 then some Z9 else if f=129 then some JB else if f=122 then some Jh else if f=99 then some qA else if f=121 then some Jt else if f=98 then some Jq else if f=119 then some Jp else if f=118 then some qz else HK0 f
theorem VX {a:Int} (h:okW a):(SV.int .u64 a)=SV.int .u64 ((a.toNat:Nat):Int):=by unfold okW at h;rw [show ((a.toNat:Nat):Int)=a by omega]
theorem QlT [Base] [HB] (hk:qd Tryz.prog HKt):HkOK Tryz.prog 98 Jq:=by
 refine Yk yr hk (by kernel_rfl) fun args h v h1 hs=>?_
 unfold Jq at hs
 split at hs
 ·rename_i p g a b
  split at hs
  ·rename_i hc
   obtain ⟨c1,c2,c3,c4,c5⟩:=hc
   rw [Yn] at hs
   simp only [Option.some.injEq,Prod.mk.injEq] at hs
   obtain ⟨rfl,rfl⟩:=hs
   have q2:=VX c2
   have q3:=VX c3
   have q4:=VX c4
   have q5:=VX c5
   unfold okW at c2 c3 c4 c5
   obtain ⟨r,h',k1,k2,rfl⟩:=YY [] p.toNat g.toNat a.toNat b.toNat ⟨by omega,by omega⟩ (by omega) (by omega)
   rw [q2,q3,q4,q5]
   exact ⟨rfl,rfl,_,h',rfl,rfl,k1⟩
  ·cases hs
 ·cases hs
theorem QmV [Base] [HB] (hk:qd Tryz.prog HKt):HkOK Tryz.prog 129 JB:=by
 refine Yk yr hk (by kernel_rfl) fun args h v h1 hs=>?_
 unfold JB at hs
 split at hs
 ·rename_i p g a b
  split at hs
  ·rename_i hc
   obtain ⟨c1,c2,c3,c4,c5,c6⟩:=hc
   rw [Yn] at hs
   simp only [Option.some.injEq,Prod.mk.injEq] at hs
   obtain ⟨rfl,rfl⟩:=hs
   unfold okW at *
   have qp:SV.int .u64 p=SV.int .u64 ((p.toNat:Nat):Int):=by rw [show ((p.toNat:Nat):Int)=p by omega]
   have qg:SV.int .u64 g=SV.int .u64 ((g.toNat:Nat):Int):=by rw [show ((g.toNat:Nat):Int)=g by omega]
   have qa:SV.int .u64 a=SV.int .u64 ((a.toNat:Nat):Int):=by rw [show ((a.toNat:Nat):Int)=a by omega]
   have qb:SV.int .u64 b=SV.int .u64 ((b.toNat:Nat):Int):=by rw [show ((b.toNat:Nat):Int)=b by omega]
   rw [qp,qg,qa,qb]
   obtain ⟨r,h',k1,k2,rfl⟩:=QaH [] p.toNat g.toNat a.toNat b.toNat (by omega) (by omega) (by omega)
   exact ⟨rfl,rfl,_,h',rfl,rfl,k1⟩
  ·cases hs
 ·cases hs
theorem Qli [Base] [HB] (hk:qd Tryz.prog HKt):HkOK Tryz.prog 122 Jh:=by
 refine Yk yr hk (by kernel_rfl) fun args h v h1 hs=>?_
 unfold Jh at hs
 split at hs
 ·rename_i p g a b
  split at hs
  ·rename_i hc
   obtain ⟨c1,c2,c3,c4,c5,c6⟩:=hc
   rw [Yn] at hs
   simp only [Option.some.injEq,Prod.mk.injEq] at hs
   obtain ⟨rfl,rfl⟩:=hs
   unfold okW at *
   have qp:SV.int .u64 p=SV.int .u64 ((p.toNat:Nat):Int):=by rw [show ((p.toNat:Nat):Int)=p by omega]
   have qg:SV.int .u64 g=SV.int .u64 ((g.toNat:Nat):Int):=by rw [show ((g.toNat:Nat):Int)=g by omega]
   have qa:SV.int .u64 a=SV.int .u64 ((a.toNat:Nat):Int):=by rw [show ((a.toNat:Nat):Int)=a by omega]
   have qb:SV.int .u64 b=SV.int .u64 ((b.toNat:Nat):Int):=by rw [show ((b.toNat:Nat):Int)=b by omega]
   rw [qp,qg,qa,qb]
   obtain ⟨r,h',k1,k2,rfl⟩:=Ub [] p.toNat g.toNat a.toNat b.toNat (by omega) (by omega) (by omega)
   exact ⟨rfl,rfl,_,h',rfl,rfl,k1⟩
  ·cases hs
 ·cases hs
theorem of_ok [Base] [HB] (hk:qd Tryz.prog HKt):HkOK Tryz.prog 99 qA:=by
 refine Yk yr hk (by kernel_rfl) fun args h v h1 hs=>?_
 unfold qA at hs
 split at hs
 ·rename_i p g x
  split at hs
  ·rename_i hc
   obtain ⟨c1,c2,c3,c4⟩:=hc
   rw [Yn] at hs
   simp only [Option.some.injEq,Prod.mk.injEq] at hs
   obtain ⟨rfl,rfl⟩:=hs
   unfold okW at *
   have qp:SV.int .u64 p=SV.int .u64 ((p.toNat:Nat):Int):=by rw [show ((p.toNat:Nat):Int)=p by omega]
   have qg:SV.int .u64 g=SV.int .u64 ((g.toNat:Nat):Int):=by rw [show ((g.toNat:Nat):Int)=g by omega]
   rw [qp,qg]
   obtain ⟨r,h',k1,k2,rfl⟩:=QcC [] p.toNat g.toNat x (by omega) (by omega)
   exact ⟨rfl,rfl,_,h',rfl,rfl,k1⟩
  ·cases hs
 ·cases hs
theorem Qmb [Base] [HB] (hk:qd Tryz.prog HKt):HkOK Tryz.prog 121 Jt:=by
 refine Yk yr hk (by kernel_rfl) fun args h v h1 hs=>?_
 unfold Jt at hs
 split at hs
 ·rename_i p g a
  split at hs
  ·rename_i hc
   obtain ⟨c1,c2,c3,c4⟩:=hc
   rw [Yn] at hs
   simp only [Option.some.injEq,Prod.mk.injEq] at hs
   obtain ⟨rfl,rfl⟩:=hs
   unfold okW at *
   have qp:SV.int .u64 p=SV.int .u64 ((p.toNat:Nat):Int):=by rw [show ((p.toNat:Nat):Int)=p by omega]
   have qg:SV.int .u64 g=SV.int .u64 ((g.toNat:Nat):Int):=by rw [show ((g.toNat:Nat):Int)=g by omega]
   have qa:SV.int .u64 a=SV.int .u64 ((a.toNat:Nat):Int):=by rw [show ((a.toNat:Nat):Int)=a by omega]
   rw [qp,qg,qa]
   obtain ⟨r,h',k1,k2,rfl⟩:=Uc [] p.toNat g.toNat a.toNat ⟨by omega,by omega⟩ (by omega)
   exact ⟨rfl,rfl,_,h',rfl,rfl,k1⟩
  ·cases hs
 ·cases hs
theorem QlJ [Base] [HB] (hk:qd Tryz.prog HKt):HkOK Tryz.prog 119 Jp:=by
 refine Yk yr hk (by kernel_rfl) fun args h v h1 hs=>?_
 unfold Jp at hs
 split at hs
 ·rename_i p g a b
  split at hs
  ·rename_i hc
   obtain ⟨c1,c2,c3,c4,c5⟩:=hc
   rw [Yn] at hs
   simp only [Option.some.injEq,Prod.mk.injEq] at hs
   obtain ⟨rfl,rfl⟩:=hs
   have q2:=VX c2
   have q3:=VX c3
   have q4:=VX c4
   have q5:=VX c5
   unfold okW at c2 c3 c4 c5
   obtain ⟨r,h',k1,k2,rfl⟩:=yJ [] p.toNat g.toNat a.toNat b.toNat ⟨by omega,by omega⟩ (by omega) (by omega)
   rw [q2,q3,q4,q5]
   exact ⟨rfl,rfl,_,h',rfl,rfl,k1⟩
  ·cases hs
 ·cases hs
theorem pr_ok [Base] [HB] (hk:qd Tryz.prog HKt):HkOK Tryz.prog 118 qz:=by
 refine Yk yr hk (by kernel_rfl) fun args h v h1 hs=>?_
 unfold qz at hs
 split at hs
 ·rename_i n
  split at hs
  ·rename_i hc
   obtain ⟨c1,c2⟩:=hc
   simp only [Option.some.injEq,Prod.mk.injEq] at hs
   obtain ⟨rfl,rfl⟩:=hs
   have q2:=VX c2
   unfold okW at c2
   obtain ⟨r,h',k1,k2,rfl⟩:=QdR [] n.toNat ⟨by omega,by omega⟩
   rw [q2]
   exact ⟨rfl,rfl,_,h',rfl,rfl,k1⟩
  ·cases hs
 ·cases hs
def phS:FuncId→Bool:=fun f=>f == 98 || f == 119 || f == 118 || f == 129 || f == 122 || f == 99 || f == 121
theorem QlL:Qh3 phS HKs:=by
 intro f hf
 unfold phS at hf
 simp only [Bool.or_eq_true,beq_iff_eq] at hf
 have key:∀ (b:Bool) (n:Nat) (x:Nat→AV) (h:Qa) (r:AV × Qa) (c:Prop) [Decidable c],(if c then frc n (fun r=>some (x r,h)) else none)=some r→r.2=h:=by
  intro b n x h r c _ e
  split at e
  ·rw [Yn] at e;cases e;rfl
  ·cases e
 rcases hf with (((((rfl | rfl) | rfl) | rfl) | rfl) | rfl) | rfl
 ·refine ⟨Jq,rfl,fun args h r e=>?_⟩
  unfold Jq at e
  split at e
  ·exact key true _ _ _ _ _ e
  ·cases e
 ·refine ⟨Jp,rfl,fun args h r e=>?_⟩
  unfold Jp at e
  split at e
  ·exact key true _ _ _ _ _ e
  ·cases e
 ·refine ⟨qz,rfl,fun args h r e=>?_⟩
  unfold qz at e
  split at e
  ·split at e
   ·cases e;rfl
   ·cases e
  ·cases e
 ·refine ⟨JB,rfl,fun args h r e=>?_⟩
  unfold JB at e
  split at e
  ·exact key true _ _ _ _ _ e
  ·cases e
 ·refine ⟨Jh,rfl,fun args h r e=>?_⟩
  unfold Jh at e
  split at e
  ·exact key true _ _ _ _ _ e
  ·cases e
 ·refine ⟨qA,rfl,fun args h r e=>?_⟩
  unfold qA at e
  split at e
  ·exact key true _ _ _ _ _ e
  ·cases e
 ·refine ⟨Jt,rfl,fun args h r e=>?_⟩
  unfold Jt at e
  split at e
  ·exact key true _ _ _ _ _ e
  ·cases e
set_option maxRecDepth 100000
def HRs:FuncId→Option VR:=fun f=>if f=78 then some (ccR 77) else (HKs f).map Qdx
def Blind (g:Xj):Prop:=∀ args v h1 h,g args []=some (v,h1)→g args h=some (v,h)
theorem Blind.sim {g:Xj} (b:Blind g) {args:List AV} {r r':RH} {v:AV} (o:r.Ok) (h:Qdx g args r=some (v,r')):r'.Ok∧g args r.h=some (v,r'.h):=by
 unfold Qdx at h
 rw [Gc] at h
 obtain ⟨⟨v2,h2⟩,e1,e2⟩:=h
 cases e2
 exact ⟨o,b _ _ _ _ e1⟩
theorem Zu {n:Nat} {x:Nat→AV} {c:Prop} [Decidable c] {v:AV} {h1 h:Qa} (e:(if c then frc n (fun r=>some (x r,([]:Qa))) else none)=some (v,h1)):(if c then frc n (fun r=>some (x r,h)) else none)=some (v,h):=by
 split at e
 ·rename_i hc
  rw [Yn] at e
  cases e
  rw [if_pos hc,Yn]
 ·cases e
theorem QmO:Blind Jq:=fun args v h1 h e=>by
 unfold Jq at e ⊢
 split at e
 ·exact Zu e
 ·cases e
theorem QmN:Blind Jp:=fun args v h1 h e=>by
 unfold Jp at e ⊢
 split at e
 ·exact Zu e
 ·cases e
theorem QmQ:Blind JB:=fun args v h1 h e=>by
 unfold JB at e ⊢
 split at e
 ·exact Zu e
 ·cases e
theorem QmM:Blind Jh:=fun args v h1 h e=>by
 unfold Jh at e ⊢
 split at e
 ·exact Zu e
 ·cases e
theorem bl_of:Blind qA:=fun args v h1 h e=>by
 unfold qA at e ⊢
 split at e
 ·exact Zu e
 ·cases e
theorem QmP:Blind Jt:=fun args v h1 h e=>by
 unfold Jt at e ⊢
 split at e
 ·exact Zu e
 ·cases e
theorem bl_pr:Blind qz:=fun args v h1 h e=>by
 unfold qz at e ⊢
 split at e
 ·split at e
  ·rename_i hc;cases e;rw [if_pos hc]
  ·cases e
 ·cases e
theorem QjS:Blind Z9:=fun args v h1 h e=>by
 unfold Z9 at e ⊢
 split at e
 ·split at e
  ·rename_i hc;cases e;rw [if_pos hc]
  ·cases e
 ·cases e
theorem simS:QkO HRs HKs:=fun f=>by
 by_cases h78:f=78
 ·subst h78
  exact ⟨qI 77,rfl,fun args r v r' o h=>Qmi o h⟩
 ·have e:HRs f=(HKs f).map Qdx:=by unfold HRs;rw [if_neg h78]
  rw [e]
  cases hk:HKs f with
  | none=>rfl
  | some g =>
   refine ⟨g,rfl,fun args r v r' o h=>Blind.sim ?_ o h⟩
   unfold HKs at hk
   split at hk
   ·cases hk;exact QjS
   split at hk
   ·cases hk;exact QmQ
   split at hk
   ·cases hk;exact QmM
   split at hk
   ·cases hk;exact bl_of
   split at hk
   ·cases hk;exact QmP
   split at hk
   ·cases hk;exact QmO
   split at hk
   ·cases hk;exact QmN
   split at hk
   ·cases hk;exact bl_pr
   ·unfold HK0 at hk;rw [if_neg h78] at hk;cases hk
def isTR:Option (AV × RH)→Bool
 | some (.sc (.bool b),_)=>b
 | _=>false
theorem QcH:isTR (QbY phS FT HRs 1000 9 [] (0,[]))=true:=by kernel_rfl
theorem Qe7:∃ h',X0 FT HKs 1000 9 [] []=some (.sc (.bool true),h'):=by
 have h:=QcH
 unfold isTR at h
 split at h
 ·rename_i b r hr
  subst h
  obtain ⟨k1,k2⟩:=QbX simS QlL 1000 _ _ _ _ _ (show RH.Ok (0,[]) from rfl) hr
  exact ⟨_,k2⟩
 ·cases h
theorem QhL [Base] (h:qd Tryz.prog HKs):HkOK Tryz.prog 9 (Y5 (.sc (.bool true))):=by
 obtain ⟨h',hr⟩:=Qe7
 exact UU yr h (fun β β' c h=>by cases h;exact .bool _) hr
