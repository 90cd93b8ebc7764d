/- The determinant: the function. -/
import Derived.Test.YtofknpknogfijaaGreatDoorDE4
import Derived.Test.YtofknpknogfijaaGreatDoorDE1
import Derived.Test.YtofknpknogfijaaGreatDoorPE
import Derived.Test.YtofknpknogfijaaGreatDoorAb50
import Derived.Test.YtofknpknogfijaaGreatDoorC3
namespace Go.Proofs.YtofknpknogfijaaGreatDoor
open Go.Ab
set_option linter.all false
set_option maxHeartbeats 16000000
set_option maxRecDepth 20000
attribute [local irreducible] Ql wA Xr Xp QA Qp QW QY
variable [HB]
theorem Qfm {l:List Tm} (hl:l≠[]) (nz:∀ t∈l,t.2≠0):0 < Yr l:=by
 cases l with
 | nil=>exact absurd rfl hl
 | cons t l =>
  have:=nz t (.head _)
  simp only [Yr];omega
theorem QaR {l:List Tm}:∀ {r:List (List Tm)},l∈r→Yr l≤XP r
 | x::r,h=>by
  simp only [XP]
  rcases GN.1 h with rfl | h
  ·omega
  ·have:=QaR h;omega
theorem Qfe {r:List Pol} (ca:∀ p∈r,Can p.ts) (h:YT r≠none):0 < XP (esR r):=by
 have:=QaI ca
 cases hb:YT r with
 | none=>exact absurd hb h
 | some x =>
  rw [hb] at this
  obtain ⟨-,-,⟨p,hp,t,ht,-⟩,-⟩:=this
  have hm:shL (bF r) p.ts∈esR r:=Gu.2 ⟨p,hp,rfl⟩
  refine GG (Qfm (l:=shL (bF r) p.ts) (fun e=>?_) fun u hu=>?_) (QaR hm)
  ·have:p.ts=[]:=List.map_eq_nil_iff.1 e
   rw [this] at ht;cases ht
  ·obtain ⟨v,hv,rfl⟩:=Gu.1 hu
   exact (ca p hp).nz v hv
theorem QiC {m:List (List Pol)} (hs:∀ r∈m,bF r≤bS r):∀ {n i:Nat},i < n→n≤m.length→bS (m.getD i [])-bF (m.getD i [])≤Jx m n∧0≤Jx m n:=by
 have ps:∀ i,i < m.length→0≤bS (m.getD i [])-bF (m.getD i []):=fun i hi=>by
  have hm:m.getD i []∈m:=by rw [Ge,Ga hi];exact GD _
  have:=hs _ hm;omega
 intro n
 induction n with
 | zero=>intro i h;omega
 | succ n ih =>
  intro i hi hn
  have e:Jx m (n+1)=Jx m n+(bS (m.getD n [])-bF (m.getD n [])):=rfl
  have p1:=ps n (by omega)
  have p0:0≤Jx m n:=by
   cases n with
   | zero=>exact Int.le_refl _
   | succ k=>exact (ih (i:=0) (by omega) (by omega)).2
  rcases Gw i n with h | h
  ·have:=ih h (by omega);omega
  ·obtain rfl:i=n:=by omega
   omega
theorem QjC {m:List (List Pol)} (hs:∀ r∈m,bF r≤bS r):0≤Jx m m.length:=by
 cases h:m.length with
 | zero=>exact Int.le_refl _
 | succ n=>exact (QiC hs (i:=0) (n:=n+1) (by omega) (by omega)).2
structure DOk (b:Nat) (m:List (List Pol)):Prop where
 n:m.length≤1000
 sq:∀ r∈m,r.length=m.length
 ok:∀ r∈m,∀ p∈r,Can p.ts∧p.big=false∧p.ts.length≤100000∧∀ t∈p.ts,t.1.natAbs≤50000∧t.2.natAbs≤cM
 bb:b≤60∧b*m.length≤118
 w:∀ r∈m,XP (esR r) < 2 ^ b
 deg:Jx m m.length≤65536
theorem DOk.ca {b:Nat} {m:List (List Pol)} (k:DOk b m) {r:List Pol} (hr:r∈m):∀ p∈r,Can p.ts:=fun p hp=>(k.ok r hr p hp).1
theorem DOk.bd {b:Nat} {m:List (List Pol)} (k:DOk b m) {r:List Pol} (hr:r∈m):bF r≤bS r∧(bF r).natAbs≤50000∧(bS r).natAbs≤50000∧∀ p∈r,∀ t∈p.ts,bF r≤t.1∧t.1≤bS r :=
 bFS (k.ca hr) fun p hp t ht=>((k.ok r hr p hp).2.2.2 t ht).1
theorem Qmz (b deg:Nat) (m:List (List Pol)) (ms:SV) (d:Nat→Int) (h0:Qa) (pm:PolMx h0 ms m) (k:DOk b m) (hdeg:Jx m m.length=(deg:Int))
  (hD:∀ x:Int,D ((m.map esR).map (evR x)) (List.range' 0 m.length)=sm (deg+1) fun j=>d j*x ^ j) (hdb:∀ j,(d j).natAbs≤((m.map esR).map XP).foldr (·*·) 1) :
  ∃ r h',Cal FT HKt 40 [.sc ms] h0 r h'∧Ext h0 h' ∧
   (((∃ j, j < m.length ∧ YT (m.getD j []) = none ∧ m.getD j [] ≠ []) ∧ r = .tup [.agg [.bool false, .nilS], .sc (.bool true)]) ∨
    ((∀ r ∈ m, YT r ≠ none) ∧ (((∀ j, j ≤ deg → (d j).natAbs ≤ cM) ∧ ∃ s, r = .tup [.agg [.bool (ofP (ZE m m.length) ((List.range (deg + 1)).map d)).big, s], .sc (.bool true)] ∧ IsD h' s (tms (ofP (ZE m m.length) ((List.range (deg + 1)).map d)).ts)) ∨
     ((∃ j,j≤deg∧cM < (d j).natAbs)∧r=.tup [.agg [.bool false,.nilS],.sc (.bool false)])))):=by
 refine Cal.of (F:=a40) rfl rfl rfl ?_
 have hn:=k.n
 have lm:=pm.len
 have bd:=fun r (hr:r∈m)=>k.bd hr
 repeat' (first | refine Qg ?_ | refine Qb ?_ | refine Qv ?_ | refine Qf ?_ | ((refine Qe ?_);first | refine QE rfl rfl ?_ | refine Qu rfl rfl rfl ?_ | refine QU rfl rfl rfl rfl rfl ?_ | refine Xa rfl rfl rfl rfl rfl rfl rfl rfl ?_) | ((refine Qc ?_);first | (refine Xb ?_;intro h1 e1 c2) | refine Qs rfl lm ?_ | (refine Qkk rfl rfl (by omega) ?_;intro h2 e2 b4) | refine Qo rfl ?_))
 rw [← VI (f:=fun j=>bF (m.getD j []))] at b4
 refine Q9 (I40a m ms h0.length h1.length h1) m.length (R40a m ms h0.length h1.length h0 h1) ⟨0,Gs _,rfl,e2,b4,fun j hj=>absurd hj (Nat.not_lt_zero _),rfl⟩
  (QfL m ms h0.length h1.length h0 h1 e1 hn (pm.ext e1) c2 (Gf _) (Gf _) fun r hr=>⟨by rw [k.sq r hr];omega,fun p hp=>⟨(k.ok r hr p hp).2.1,(k.ok r hr p hp).2.2.1⟩,by have:=bd r hr;omega,by have:=bd r hr;omega⟩) ?_
 rintro ex E' h3 (⟨rfl,x3,b3,hall,_,_,_,_,rfl⟩ | ⟨rfl,x3,c3,hz,rfl⟩)
 ·have c23:=c2.ext x3
  have hdg:Jx m m.length < 131072:=by rw [hdeg];have:=k.deg;omega
  have hlow:(ZE m m.length).natAbs≤1000*50000:=by
   refine Gn (Vi (B:=50000) fun j hj=>?_) (GE _ hn)
   have hm:m.getD j []∈m:=by rw [Ge,Ga hj];exact GD _
   exact (bd _ hm).2.1
  have lm3:=lm
  have nz:∀ r∈m,YT r≠none:=fun r hr=>by
   obtain ⟨j,hj⟩:=Hp.1 hr
   have hj2:=(Gb.1 hj).1
   have er:m.getD j []=r:=by rw [Ge,hj];rfl
   rcases hall j hj2 with h | h
   ·rw [← er];exact h
   ·exfalso
    have:=k.sq r hr
    rw [← er,h] at this
    simp at this;omega
  rw [hdeg] at hdg ⊢
  generalize hL:ZE m m.length=low at *
  repeat' (first | refine Qg ?_ | refine Qb ?_ | refine Qv ?_ | refine QP ?_ | refine Qn ?_ | refine Qf ?_ | ((refine Qh ?_);refine Qk rfl ?_) | ((refine Qe ?_);first | refine QT rfl rfl rfl rfl rfl rfl ?_ | refine Xa rfl rfl rfl rfl rfl rfl rfl rfl ?_) | ((refine Qc ?_);first | refine Qs rfl lm ?_ | (refine Qkj rfl rfl (by omega) ?_;intro h4 e4 b14) | refine X3 rfl rfl (by omega) ?_ | refine Qo rfl ?_))
  have x4:=e1.trans x3
  refine Q9 (I40d (m.map esR) ms h0.length h1.length h3.length m.length (.sc (.int .i64 low)) (.sc (.int .i64 (deg:Nat))) h3) m.length (R40d (m.map esR) h0.length h1.length h3.length m.length (.sc (.int .i64 low)) (.sc (.int .i64 (deg:Nat))) h3)
   ⟨0,Gs _,rfl,⟨e4,[],rfl,by simpa using b14,fun j s r a=>by simp at a⟩,rfl⟩
   (QfI m ms h0.length h1.length h3.length m.length _ _ h3 (pm.ext (e1.trans x3)) rfl hn b3 (Gf _) fun r hr=>⟨by rw [k.sq r hr];omega,by have:=bd r hr;omega,fun p hp=>⟨(k.ok r hr p hp).1,(k.ok r hr p hp).2.1,(k.ok r hr p hp).2.2.1,fun t ht=>by have:=((k.ok r hr p hp).2.2.2 t ht).1;omega⟩⟩) ?_
  rintro ex E' h5 ⟨rfl,j5,_,_,_,_,rfl⟩
  have ee:=j5.done (by simp)
  have hd2:deg≤65536:=by have:=k.deg;omega
  have k77:=Qmp m.length deg b d h5 (.slc h3.length 0 m.length (some m.length)) (m.map esR) hd2 hn k.bb ee (by simp) (fun r hr=>by
   obtain ⟨q,hq,rfl⟩:=Gu.1 hr
   refine ⟨by unfold esR;rw [Gt];exact k.sq q hq,fun l hl=>⟨?_,fun t ht=>?_⟩⟩
   ·obtain ⟨p,hp,rfl⟩:=Gu.1 hl
    unfold shL;rw [Gt]
    have:=(k.ok q hq p hp).2.2.1;omega
   ·have:=QgP (k.ca hq) (fun p hp t ht=>((k.ok q hq p hp).2.2.2 t ht).1) (fun p hp t ht=>((k.ok q hq p hp).2.2.2 t ht).2) l hl t ht
    have:=bd q hq
    omega) (fun r hr=>by
   obtain ⟨q,hq,rfl⟩:=Gu.1 hr
   exact ⟨Qfe (k.ca hq) (nz q hq),k.w q hq⟩) hD hdb
  have c25:=c23.ext j5.x
  obtain ⟨v7,h7,cal7,x7,res⟩:=k77
  rcases res with ⟨s7,rfl,i7,ok7⟩ | ⟨rfl,bad⟩
  ·have hwc:∀ x∈(List.range (deg+1)).map d,-9223372036854775808≤x∧x≤9223372036854775807:=fun x hx=>by
    obtain ⟨j,hj,rfl⟩:=Gu.1 hx
    rw [Hk] at hj
    have:=ok7 j (by omega)
    have hcM:cM=1125899906842624:=rfl
    omega
   have k20:=QmH h7 low (by omega) s7 ((List.range (deg+1)).map d) (by simp;omega) i7 hwc
   have c27:=c25.ext x7
   repeat' (first | refine Qg ?_ | refine Qb ?_ | refine QP ?_ | refine Qn ?_ | refine Qt ?_ | refine Qf ?_ | ((refine Qh ?_);refine Qk rfl ?_) | ((refine Qe ?_);first | refine QE rfl rfl ?_ | refine QG rfl rfl rfl rfl ?_) | ((refine Qc ?_);first | (refine Qi (R:=fun v h=>v=_∧h=h7) rfl ⟨_,_,cal7,rfl,rfl⟩ ?_;rintro v h ⟨rfl,rfl⟩) | (refine Qi rfl k20 ?_;rintro v8 h8 ⟨e8,s8,rfl,d8⟩;have c28:=c27.ext e8) | (refine Xm rfl rfl c28 ?_;intro h9 w9) | refine Qo rfl ?_ | refine XR rfl ?_ | refine Xt rfl rfl ?_))
   refine ⟨.inr rfl,Zb rfl w9.cel.read rfl ⟨w9.ext (((x4.trans j5.x).trans x7).trans e8) (Gf _),.inr ⟨nz,.inl ⟨ok7,s8,rfl,d8.wrC w9⟩⟩⟩⟩
  ·have c27:=c25.ext x7
   repeat' (first | refine Qg ?_ | refine Qb ?_ | refine QD ?_ | refine QP ?_ | refine Qt ?_ | refine Qf ?_ | ((refine Qh ?_);refine Qj rfl ?_) | ((refine Qe ?_);first | refine QE rfl rfl ?_ | refine QG rfl rfl rfl rfl ?_) | ((refine Qc ?_);first | (refine Qi (R:=fun v h=>v=_∧h=h7) rfl ⟨_,_,cal7,rfl,rfl⟩ ?_;rintro v h ⟨rfl,rfl⟩) | refine XE rfl rfl ?_ | (refine Xm rfl rfl c27 ?_;intro h9 w9) | refine Qo rfl ?_ | refine Yw rfl ?_ | refine Xt rfl rfl ?_))
   exact ⟨.inr rfl,Zb rfl w9.cel.read rfl ⟨w9.ext ((x4.trans j5.x).trans x7) (Gf _),.inr ⟨nz,.inr ⟨bad,rfl⟩⟩⟩⟩
 ·repeat' (first | refine QD ?_ | refine Xs ?_)
  exact ⟨.inr rfl,Zb rfl c3.read rfl ⟨x3,.inl ⟨hz,rfl⟩⟩⟩
end Go.Proofs.YtofknpknogfijaaGreatDoor
namespace Go.Proofs.YtofknpknogfijaaGreatDoor
open Go.Ab
set_option linter.all false
variable [HB]
def YJ:List Tm→(Int→Int)→Int→Int
 | [],_,_=>0
 | t::l,f,e=>t.2*f (e-t.1)+YJ l f e
def dL:List (List (List Tm))→List Nat→Int→Int
 | [],_,e=>if e=0 then 1 else 0
 | r::rs,cs,e=>alt (fun c ds=>YJ (r.getD c []) (dL rs ds) e) cs
theorem Z7 {f:Int→Int}:∀ {l:List Tm} {e:Int},(∀ t∈l,f (e-t.1)=0)→YJ l f e=0
 | [],_,_=>rfl
 | t::l,e,h=>by
  simp only [YJ]
  rw [h t (.head _),Z7 fun u hu=>h u (.tail _ hu),Int.mul_zero];rfl
theorem zV {f:Int→Int} {B:Nat} (h:∀ e,(f e).natAbs≤B):∀ {l:List Tm} {e:Int},(YJ l f e).natAbs≤Yr l*B
 | [],_=>by simp [YJ,Yr]
 | t::l,e=>by
  simp only [YJ,Yr]
  have h1:=zV h (l:=l) (e:=e)
  have h2:(t.2*f (e-t.1)).natAbs≤t.2.natAbs*B:=by rw [Int.natAbs_mul];exact Nat.mul_le_mul_left _ (h _)
  rw [GT];omega
theorem QhS:∀ {cs:List Nat} {f:Nat→List Nat→Int} {g:Nat→Nat},(∀ c ds,c∈cs→ds.Sublist cs→(f c ds).natAbs≤g c)→(alt f cs).natAbs≤(cs.map g).sum
 | [],_,_,_=>Gf _
 | c::cs,f,g,h=>by
  simp only [alt,Gy,Hh]
  have h1:=h c cs (.head _) (List.sublist_cons_self c cs)
  have h2:=QhS (f:=fun d ds=>f d (c::ds)) (g:=g) fun d ds hd hs=>h d (c::ds) (.tail _ hd) (hs.cons_cons c)
  omega
theorem U0:∀ {cs:List Nat} {f:Nat→List Nat→Int},(∀ c ds,c∈cs→ds.Sublist cs→f c ds=0)→alt f cs=0
 | [],_,_=>rfl
 | c::cs,f,h=>by
  simp only [alt]
  rw [h c cs (.head _) (List.sublist_cons_self c cs),U0 fun d ds hd hs=>h d (c::ds) (.tail _ hd) (hs.cons_cons c)];rfl
theorem VZ {g:Nat→Nat}:∀ {us vs:List Nat},us.Sublist vs→(us.map g).sum≤(vs.map g).sum
 | _,_,.slnil=>Gf _
 | _,_,.cons a h=>by have:=VZ (g:=g) h;simp only [Gy,Hh];omega
 | _,_,.cons_cons a h=>by have:=VZ (g:=g) h;simp only [Gy,Hh];omega
theorem qN:∀ {r:List (List Tm)},XP r=(r.map Yr).sum
 | []=>rfl
 | l::r=>by simp only [XP,Gy,Hh,qN (r:=r)]
theorem Qg3 {r:List (List Tm)}:((List.range' 0 r.length).map fun c=>Yr (r.getD c [])).sum=XP r:=by
 rw [qN]
 congr 1
 apply Gr
 intro i
 rw [Gi,Gi]
 rcases Gw i r.length with h | h
 ·rw [List.getElem?_range' h,Ga h]
  simp [Ge,Ga h]
 ·rw [Gp (by simpa using h),Gp (by omega)];rfl
theorem Qdo {g:Nat→Nat} {B:Nat}:∀ {cs:List Nat},(cs.map fun c=>g c*B).sum=(cs.map g).sum*B
 | []=>by simp
 | c::cs=>by simp only [Gy,Hh,Qdo (cs:=cs),GT]
theorem QdL {n:Nat}:∀ {rows:List (List (List Tm))} {cs:List Nat} {e:Int},cs.Sublist (List.range' 0 n)→(∀ r∈rows,r.length=n)→(dL rows cs e).natAbs≤(rows.map XP).foldr (·*·) 1
 | [],cs,e,_,_=>by simp only [dL];split <;> simp
 | r::rs,cs,e,hs,hl=>by
  simp only [dL,Gy,List.foldr_cons]
  refine Gn (QhS (g:=fun c=>Yr (r.getD c [])*(rs.map XP).foldr (·*·) 1) fun c ds hc hd=>zV fun e=>QdL (hd.trans hs) fun q hq=>hl q (.tail _ hq)) ?_
  rw [Qdo]
  refine GE _ ?_
  have:=VZ (g:=fun c=>Yr (r.getD c [])) hs
  rwa [← hl r (.head _),Qg3] at this
theorem QaE {α:Type} (f:α→List (List Tm)) (k:α→Int):∀ {m:List α} {cs:List Nat} {e:Int},(∀ r∈m,∀ l∈f r,∀ t∈l,0≤t.1∧t.1≤k r)→e < 0∨(m.map k).sum < e→dL (m.map f) cs e=0
 | [],cs,e,_,h=>by
  simp only [List.map_nil,List.sum_nil] at h
  simp only [List.map_nil,dL]
  rw [if_neg (by omega)]
 | r::m,cs,e,hb,h=>by
  simp only [Gy,Hh] at h
  simp only [Gy,dL]
  refine U0 fun c ds _ _=>Z7 fun t ht=>?_
  have hm:(f r).getD c []∈f r∨(f r).getD c []=[]:=by
   rw [Ge]
   rcases h:(f r)[c]? with _ | x
   ·exact .inr rfl
   ·exact .inl (Gh h)
  rcases hm with hm | hm
  ·have:=hb r (.head _) _ hm t ht
   exact QaE f k (fun q hq=>hb q (.tail _ hq)) (by omega)
  ·rw [hm] at ht;cases ht
theorem qT {a:Nat} {f:Nat→Int}:∀ {n:Nat},sm (a+n) f=sm a f+sm n fun i=>f (a+i)
 | 0=>by simp [sm]
 | n+1=>by
  have e:sm (a+(n+1)) f=sm (a+n) f+f (a+n):=rfl
  rw [e,qT (n:=n)]
  simp only [sm];omega
theorem Qfw {x:Int} {f:Int→Int} {a M N:Nat} (h:a+M≤N) (hz:∀ e,e < 0∨(M:Int) < e→f e=0):sm (N+1) (fun j=>f ((j:Int)-(a:Int))*x ^ j)=x ^ a*sm (M+1) fun j=>f (j:Int)*x ^ j:=by
 rw [Qb9 (n:=a+(M+1)) _ (by omega) fun j hj=>by rw [hz _ (by omega),Hr],qT]
 rw [XK (n:=a) (g:=fun _=>0) fun i hi=>by rw [hz _ (by omega),Hr],sm_zero,Int.zero_add,← Zh]
 refine XK fun i hi=>?_
 rw [show ((a+i:Nat):Int)-(a:Int)=(i:Int) by omega,Int.pow_add,Int.mul_left_comm]
theorem Qak {x:Int} {f:Int→Int} {M N:Nat} (hz:∀ e,e < 0∨(M:Int) < e→f e=0):∀ {l:List Tm},(∀ t∈l,0≤t.1∧t.1+M≤N)→sm (N+1) (fun j=>YJ l f (j:Int)*x ^ j)=evT x l*sm (M+1) fun j=>f (j:Int)*x ^ j
 | [],_=>by
  simp only [evT,Hr]
  rw [XK (g:=fun _=>0) fun i _=>by simp [YJ],sm_zero]
 | t::l,h=>by
  have h1:=h t (.head _)
  have ih:=Qak (x:=x) hz (l:=l) fun u hu=>h u (.tail _ hu)
  have e:sm (N+1) (fun j=>YJ (t::l) f (j:Int)*x ^ j)=t.2*sm (N+1) (fun j=>f ((j:Int)-(t.1.toNat:Int))*x ^ j)+sm (N+1) (fun j=>YJ l f (j:Int)*x ^ j):=by
   rw [← Zh,← V2]
   refine XK fun i hi=>?_
   simp only [YJ]
   rw [Int.add_mul,Hi,Hm h1.1]
  rw [e,ih,Qfw (x:=x) (by omega) hz]
  simp only [evT]
  rw [Int.add_mul,Hi]
theorem QhQ {cs:List Nat} {n:Nat} {F:Nat→List Nat→Nat→Int}:alt (fun c ds=>sm n (F c ds)) cs=sm n fun j=>alt (fun c ds=>F c ds j) cs:=by
 induction n with
 | zero=>exact Jc
 | succ n ih=>simp only [sm];rw [yL,ih]
theorem Qb3 (k:Int) {cs:List Nat} {f:Nat→List Nat→Int}:alt (fun c ds=>f c ds*k) cs=alt f cs*k:=by
 rw [Int.mul_comm,← ZR];exact Ya fun c ds=>Int.mul_comm _ _
theorem Qkp {α:Type} (f:α→List (List Tm)) (k:α→Int) (x:Int):∀ {m:List α} {cs:List Nat} {N:Nat},(∀ r∈m,0≤k r∧∀ l∈f r,∀ t∈l,0≤t.1∧t.1≤k r)→(m.map k).sum≤N→D ((m.map f).map (evR x)) cs=sm (N+1) fun j=>dL (m.map f) cs (j:Int)*x ^ j
 | [],cs,N,_,_=>by
  simp only [List.map_nil,dL,D]
  rw [XK (g:=fun i=>if i=0 then 1 else 0) fun i hi=>?_,Qfz 0 1 (by omega)]
  by_cases h:i=0
  ·subst h;simp
  ·rw [if_neg h,if_neg (by omega),Hr]
 | r::m,cs,N,hb,hN=>by
  simp only [Gy,Hh] at hN
  have hk:=hb r (.head _)
  have hs0:0≤(m.map k).sum:=by
   have:∀ {m:List α},(∀ r∈m,0≤k r)→0≤(m.map k).sum:=by
    intro m
    induction m with
    | nil=>intro _;exact Int.le_refl _
    | cons q m ih=>intro h;have:=h q (.head _);have:=ih fun r hr=>h r (.tail _ hr);simp only [Gy,Hh];omega
   exact this fun q hq=>(hb q (.tail _ hq)).1
  have hbt:=fun q (hq:q∈m)=>hb q (.tail _ hq)
  simp only [Gy]
  rw [XB]
  have e:(fun j:Nat=>dL (f r::m.map f) cs (j:Int)*x ^ j)=fun j:Nat=>alt (fun c ds=>YJ ((f r).getD c []) (dL (m.map f) ds) (j:Int)*x ^ j) cs:=by
   funext j
   rw [Qb3];rfl
  rw [e,← QhQ]
  refine Ya fun c ds=>?_
  rw [Qkp f k x (N:=(m.map k).sum.toNat) hbt (by omega)]
  symm
  refine Qak (M:=(m.map k).sum.toNat) (fun e he=>QaE f k (fun q hq=>(hbt q hq).2) (by omega)) fun t ht=>?_
  have hm:(f r).getD c []∈f r∨(f r).getD c []=[]:=by
   rw [Ge]
   rcases h:(f r)[c]? with _ | y
   ·exact .inr rfl
   ·exact .inl (Gh h)
  rcases hm with hm | hm
  ·have:=hk.2 _ hm t ht
   omega
  ·rw [hm] at ht;cases ht
def rT (r:List Pol):List (List Tm):=r.map Pol.ts
theorem UC {low s:Int} {f g:Int→Int} (h:∀ e,f e=g (e+s)):∀ {l:List Tm} {e:Int},YJ (shL low l) f e=YJ l g (e+(low+s))
 | [],_=>rfl
 | t::l,e=>by
  have ih:=UC (low:=low) h (l:=l) (e:=e)
  unfold shL at ih ⊢
  simp only [Gy,YJ]
  rw [ih,h,show e-(t.1-low)+s=e+(low+s)-t.1 by omega]
theorem QgQ {r:List Pol} {c:Nat}:(esR r).getD c []=shL (bF r) ((rT r).getD c []):=by
 unfold esR rT
 simp only [Ge,Gi]
 cases r[c]? <;> rfl
theorem QbV:∀ {m:List (List Pol)} {cs:List Nat} {e:Int},dL (m.map esR) cs e=dL (m.map rT) cs (e+(m.map bF).sum)
 | [],cs,e=>by simp [dL]
 | r::m,cs,e=>by
  simp only [Gy,dL,Hh]
  refine Ya fun c ds=>?_
  rw [QgQ]
  exact UC fun e=>QbV
theorem QcY {f:List Pol→Int} {m:List (List Pol)}:∀ {n:Nat},n≤m.length→sm n (fun j=>f (m.getD j []))=((m.take n).map f).sum
 | 0,_=>rfl
 | n+1,h=>by
  simp only [sm]
  have e:m.getD n []=m[n]'(by omega):=by rw [Ge,Ga (show n < m.length by omega)];rfl
  rw [QcY (n:=n) (by omega),GF,Ga (by omega),Hb,List.sum_append,e,Option.toList_some,Gy,List.map_nil,Hh,List.sum_nil,Int.add_zero]
theorem Qc0 {f:List Pol→Int} {m:List (List Pol)}:sm m.length (fun j=>f (m.getD j []))=(m.map f).sum:=by
 rw [QcY (Gf _),Gx]
set_option maxHeartbeats 16000000
set_option maxRecDepth 20000
attribute [local irreducible] Ql wA Xr Xp QA Qp QW QY
def JE (m:List (List Pol)):Nat:=(m.getD 0 []).length
def VG (m:List (List Pol)):Prop:=∀ r∈m,r.length=JE m
instance (m:List (List Pol)):Decidable (VG m):=by unfold VG;infer_instance
def I35 (m:List (List Pol)) (ms:SV) (hb:Qa) (k:Nat) (E:Env) (h:Qa):Prop:=∃ i,i≤m.length∧k=m.length-i∧h=hb∧(∀ r∈m.take i,r.length=JE m) ∧
 E.keep [0,5,6,7]=[(0,some (.sc ms)),(5,some (.sc ms)),(6,some (.sc (.int .i64 (m.length:Nat)))),(7,some (.sc (.int .i64 (i:Nat))))]
def R35 (m:List (List Pol)) (hb:Qa) (ex:Ex) (E:Env) (h:Qa):Prop:=h=hb∧((ex=.ex 0∧VG m∧∃ a b c d e,E=[(0,a),(5,b),(6,c),(7,d),(8,e)])∨(ex=.rt∧¬ VG m∧E=[(2,some (.sc (.bool false)))]))
theorem QiW (m:List (List Pol)) (ms:SV) (hb:Qa) (hn:m.length≤1000000) (pm:PolMx hb ms m) (hl:∀ r∈m,r.length≤1000000) (k:Nat) (E:Env) (h:Qa) (hI:I35 m ms hb k E h) :
  wA FT HKt QkE (E.keep [0,5,6,7]) h (Qp (I35 m ms hb) k (R35 m hb)):=by
 obtain ⟨i,hi,rfl,rfl,hall,hE⟩:=hI
 rw [hE]
 by_cases hlt:i < m.length
 ·obtain ⟨r,hr⟩:∃ r,m[i]?=some r:=⟨_,Ga hlt⟩
  obtain ⟨q,hq⟩:∃ q,m[0]?=some q:=⟨_,Ga (by omega)⟩
  obtain ⟨id,off,cap,rs,es,rd,pr⟩:=pm.at hr
  subst es
  obtain ⟨id2,off2,cap2,qs,es2,rd2,pq⟩:=pm.at hq
  cases es2
  have lr:=pr.len
  have lq:=pq.len
  have ec:JE m=q.length:=by unfold JE;rw [Ge,hq];rfl
  have z1:=hl r (Gh hr)
  have z2:=hl q (Gh hq)
  by_cases e:r.length=q.length
  ·repeat' (first | refine Qg ?_ | refine Qb ?_ | refine Qv ?_ | refine QJ ?_ | refine Qn ?_ | refine Qf ?_ | ((refine Qh ?_);first | refine Qj rfl ?_ | refine Qk rfl ?_) | ((refine Qe ?_);first | refine QG rfl rfl rfl rfl ?_ | refine QU rfl rfl rfl rfl rfl ?_) | ((refine Qc ?_);first | (have z:=used;refine Q4 rfl rd2 ?_) | refine Qw (esz:=1) rfl rfl (by omega) ?_ | (refine Q4 rfl rd ?_;have used:=True.intro) | refine Qs rfl lr ?_ | refine Qs rfl lq ?_ | refine XS rfl rfl (by omega) ?_ | refine Qo rfl ?_ | refine QK rfl rfl (by omega) ?_ | refine Qy rfl rfl (by omega) ?_))
   refine QB (j:=m.length-(i+1)) (by omega) ⟨i+1,by omega,rfl,rfl,fun x hx=>?_,rfl⟩
   rw [GF,hr] at hx
   rcases Gv.1 hx with hx | hx
   ·exact hall x hx
   ·simp at hx;subst hx;rw [ec];exact e
  ·repeat' (first | refine Qg ?_ | refine Qb ?_ | refine QD ?_ | refine Qv ?_ | refine Xs ?_ | refine Qn ?_ | refine Qt ?_ | refine Qf ?_ | ((refine Qh ?_);refine Qj rfl ?_) | ((refine Qe ?_);first | refine Qq rfl ?_ | refine QU rfl rfl rfl rfl rfl ?_) | ((refine Qc ?_);first | (have z:=used;refine Q4 rfl rd2 ?_) | refine Qw (esz:=1) rfl rfl (by omega) ?_ | (refine Q4 rfl rd ?_;have used:=True.intro) | refine Qs rfl lr ?_ | refine Qs rfl lq ?_ | refine Yg rfl rfl (by omega) ?_ | refine Qo rfl ?_ | refine Qy rfl rfl (by omega) ?_))
   exact XI ⟨rfl,.inr ⟨rfl,fun hf=>e (by rw [← ec];exact hf r (Gh hr)),rfl⟩⟩
 ·have:i=m.length:=by omega
  subst this
  rw [Gx] at hall
  repeat' (first | refine Qg ?_ | refine Qb ?_ | refine Q0 ?_ | refine QX ?_ | refine Qf ?_ | ((refine Qh ?_);refine Qk rfl ?_) | ((refine Qe ?_);refine QU rfl rfl rfl rfl rfl ?_) | ((refine Qc ?_);refine QM rfl rfl (by omega) ?_))
  exact QN ⟨rfl,.inl ⟨rfl,hall,_,_,_,_,_,rfl⟩⟩
theorem QmC (h0:Qa) (m:List (List Pol)) (ms:SV) (hn:m.length≤1000000) (pm:PolMx h0 ms m) (hl:∀ r∈m,r.length≤1000000):∃ r h',Cal FT HKt 35 [.sc ms] h0 r h'∧(r=.sc (.bool (decide (VG m)))∧h'=h0):=by
 refine Cal.of (F:=a35) rfl rfl rfl ?_
 have lm:=pm.len
 repeat' (first | refine Qg ?_ | refine Qb ?_ | refine Qv ?_ | refine Qf ?_ | ((refine Qe ?_);first | refine Qq rfl ?_ | refine QG rfl rfl rfl rfl ?_) | ((refine Qc ?_);first | refine Qs rfl lm ?_ | refine Qo rfl ?_))
 refine Q9 (I35 m ms h0) m.length (R35 m h0) ⟨0,Gs _,rfl,rfl,by simp,rfl⟩ (QiW m ms h0 hn pm hl) ?_
 rintro ex E' h1 ⟨rfl,⟨rfl,hf,_,_,_,_,_,rfl⟩ | ⟨rfl,hf,rfl⟩⟩
 ·repeat' (first | refine Qg ?_ | refine Qb ?_ | refine QP ?_ | refine Qt ?_ | refine Qf ?_ | ((refine Qe ?_);refine Qq rfl ?_) | ((refine Qc ?_);refine Qo rfl ?_))
  exact ⟨.inr rfl,by rw [decide_eq_true hf];rfl,rfl⟩
 ·repeat' (first | refine QD ?_ | refine Xs ?_)
  exact ⟨.inr rfl,by rw [decide_eq_false hf];rfl,rfl⟩
theorem Qhe (h0:Qa) (m:List (List Pol)) (ms:SV) (hn:m.length≤1000000) (pm:PolMx h0 ms m):∃ r h',Cal FT HKt 37 [.sc ms] h0 r h'∧(r=.sc (.int .i64 (JE m:Nat))∧h'=h0):=by
 refine Cal.of (F:=a37) rfl rfl rfl ?_
 have lm:=pm.len
 by_cases h:m.length=0
 ·have e:JE m=0:=by rw [Gz h];rfl
  rw [e]
  repeat' (first | refine Qg ?_ | refine Qb ?_ | refine QD ?_ | refine Qt ?_ | refine Qf ?_ | ((refine Qh ?_);refine Qj rfl ?_) | ((refine Qe ?_);first | refine Qq rfl ?_ | refine QE rfl rfl ?_) | ((refine Qc ?_);first | refine Qs rfl lm ?_ | refine XD rfl rfl (by omega) ?_ | refine Qo rfl ?_))
  exact ⟨.inr rfl,rfl,rfl⟩
 ·obtain ⟨q,hq⟩:∃ q,m[0]?=some q:=⟨_,Ga (by omega)⟩
  obtain ⟨id,off,cap,rs,es,rd,pr⟩:=pm.at hq
  subst es
  have lr:=pr.len
  have ec:JE m=q.length:=by unfold JE;rw [Ge,hq];rfl
  rw [ec]
  repeat' (first | refine Qg ?_ | refine Qb ?_ | refine Qn ?_ | refine Qt ?_ | refine Qf ?_ | ((refine Qh ?_);refine Qk rfl ?_) | ((refine Qe ?_);first | refine Qq rfl ?_ | refine QE rfl rfl ?_) | ((refine Qc ?_);first | refine Qs rfl lm ?_ | refine Xf rfl rfl (by omega) ?_ | refine Qw (esz:=1) rfl rfl (by omega) ?_ | refine Q4 rfl rd ?_ | refine Qs rfl lr ?_ | refine Qo rfl ?_))
  exact ⟨.inr rfl,rfl,rfl⟩
theorem QmB (h0:Qa) (m:List (List Pol)) (ms:SV) (hn:m.length≤64) (hc:JE m≤64) (pm:PolMx h0 ms m):∃ r h',Cal FT HKt 36 [.sc ms] h0 r h'∧(r=.sc (.bool false)∧h'=h0):=by
 refine Cal.of (F:=a36) rfl rfl rfl ?_
 have lm:=pm.len
 have k37:=Qhe h0 m ms (by omega) pm
 repeat' (first | refine Qg ?_ | refine Qb ?_ | refine Qt ?_ | refine Qf ?_ | ((refine Qe ?_);refine Qq rfl ?_) | ((refine Qc ?_);first | refine Qs rfl lm ?_ | refine XT rfl rfl (by omega) ?_ | (refine Qi rfl k37 ?_;rintro v h1 ⟨rfl,rfl⟩) | refine QL rfl ?_ | refine Qo rfl ?_ | refine QC rfl rfl ?_))
 exact ⟨.inr rfl,rfl,rfl⟩
def I75 (r:List Pol) (rs:SV) (hb:Qa) (k:Nat) (E:Env) (h:Qa):Prop:=∃ i,i≤r.length∧k=r.length-i∧Ext hb h ∧
 E.keep [0,1,7,8]=[(0,some (.sc rs)),(1,some (.sc (.fn 39 []))),(7,some (.sc (.int .i64 (r.length:Nat)))),(8,some (.sc (.int .i64 (i:Nat))))]
def R75 (hb:Qa) (ex:Ex) (E:Env) (h:Qa):Prop:=ex=.ex 0∧Ext hb h∧∃ a b c d e,E=[(0,a),(1,b),(7,c),(8,d),(9,e)]
theorem QiQ (r:List Pol) (rs:SV) (hb:Qa) (hn:r.length≤1000000) (pr:PolRow hb rs r) (hl:∀ p∈r,p.big=false) (k:Nat) (E:Env) (h:Qa) (hI:I75 r rs hb k E h) :
  wA FT HKt Qkw (E.keep [0,1,7,8]) h (Qp (I75 r rs hb) k (R75 hb)):=by
 obtain ⟨i,hi,rfl,x,hE⟩:=hI
 rw [hE]
 by_cases hlt:i < r.length
 ·obtain ⟨p,hp⟩:∃ p,r[i]?=some p:=⟨_,Ga hlt⟩
  obtain ⟨id,off,cap,t,es,rd,dt⟩:=pr.at hp
  subst es
  have rd0:=QH x rd
  rw [hl p (Gh hp)] at rd0
  have k39:=QaF h false t
  repeat' (first | refine Qg ?_ | refine Qb ?_ | refine Qv ?_ | refine QJ ?_ | refine Qn ?_ | refine Qf ?_ | ((refine Qh ?_);first | refine Qj rfl ?_ | refine Qk rfl ?_) | ((refine Qe ?_);first | refine QG rfl rfl rfl rfl ?_ | refine QU rfl rfl rfl rfl rfl ?_ | refine QT rfl rfl rfl rfl rfl rfl ?_) | ((refine Qc ?_);first | refine Qw (esz:=2) rfl rfl (by omega) ?_ | refine XX rfl rd0 ?_ | (refine Xq rfl rfl k39 ?_;rintro v h1 ⟨e1,rfl⟩) | refine Qo rfl ?_ | refine QK rfl rfl (by omega) ?_ | refine Qy rfl rfl (by omega) ?_))
  exact QB (j:=r.length-(i+1)) (by omega) ⟨i+1,by omega,rfl,x.trans e1,rfl⟩
 ·have:i=r.length:=by omega
  subst this
  repeat' (first | refine Qg ?_ | refine Qb ?_ | refine Q0 ?_ | refine QX ?_ | refine Qf ?_ | ((refine Qh ?_);refine Qk rfl ?_) | ((refine Qe ?_);refine QU rfl rfl rfl rfl rfl ?_) | ((refine Qc ?_);refine QM rfl rfl (by omega) ?_))
  exact QN ⟨rfl,x,_,_,_,_,_,rfl⟩
theorem QmA (h0:Qa) (r:List Pol) (rs:SV) (hn:r.length≤1000000) (pr:PolRow h0 rs r) (hl:∀ p∈r,p.big=false):∃ v h',Cal FT HKt 38 [.sc rs,.sc (.fn 39 [])] h0 v h'∧(Ext h0 h'∧v=.sc (.bool false)):=by
 have k75:∃ v h',Cal FT HKt 75 [.sc rs,.sc (.fn 39 [])] h0 v h'∧(Ext h0 h'∧v=.sc (.int .i64 (-1))):=by
  refine Cal.of (F:=a75) rfl rfl rfl ?_
  have lr:=pr.len
  repeat' (first | refine Qg ?_ | refine Qb ?_ | refine Qv ?_ | refine Qf ?_ | ((refine Qe ?_);first | refine QE rfl rfl ?_ | refine QG rfl rfl rfl rfl ?_) | ((refine Qc ?_);first | refine Qs rfl lr ?_ | refine Qo rfl ?_))
  refine Q9 (I75 r rs h0) r.length (R75 h0) ⟨0,Gs _,rfl,Ext.refl _,rfl⟩ (QiQ r rs h0 hn pr hl) ?_
  rintro ex E' h1 ⟨rfl,x,_,_,_,_,_,rfl⟩
  repeat' (first | refine Qg ?_ | refine Qb ?_ | refine QP ?_ | refine Qt ?_ | refine Qf ?_ | ((refine Qe ?_);refine Qq rfl ?_) | ((refine Qc ?_);refine Qo rfl ?_))
  exact ⟨.inr rfl,x,rfl⟩
 refine Cal.of (F:=a38) rfl rfl rfl ?_
 repeat' (first | refine Qg ?_ | refine Qb ?_ | refine Qt ?_ | refine Qf ?_ | ((refine Qe ?_);first | refine Qq rfl ?_ | refine QE rfl rfl ?_) | ((refine Qc ?_);first | (refine Qi rfl k75 ?_;rintro v h1 ⟨e1,rfl⟩) | refine X3 rfl rfl (by omega) ?_ | refine Qo rfl ?_))
 exact ⟨.inr rfl,e1,rfl⟩
theorem Vv {low:Int} {xs:List Int} (h:∀ x∈xs,x.natAbs≤cM) (hl:low≤eM) (he:∀ i,i < xs.length→(low+(i:Nat)).natAbs≤eM) :
  ∃ r,ofP low xs=⟨false,r⟩∧Can r∧(∀ t∈r,low≤t.1∧t.1 < low+xs.length∧t.2.natAbs≤cM∧t.1.natAbs≤eM)∧∀ e,cf r e=if low≤e∧e < low+xs.length then xs.getD (e-low).toNat 0 else 0:=by
 have key:∀ i,i≤xs.length→∃ r,ofN low xs i=some r:=by
  intro i
  induction i with
  | zero=>intro _;exact ⟨[],rfl⟩
  | succ i ih =>
   intro hi
   obtain ⟨r,hr⟩:=ih (by omega)
   have hm:xs.getD i 0∈xs:=by rw [Ge,Ga (by omega)];exact GD _
   have h1:=h _ hm
   have h2:=he i (by omega)
   rw [ofN,hr,Gm]
   split
   ·exact ⟨_,rfl⟩
   ·rw [if_pos ⟨h1,hl,h2⟩];exact ⟨_,rfl⟩
 obtain ⟨r,hr⟩:=key xs.length (Gf _)
 obtain ⟨a,b,c⟩:=Qag hr
 exact ⟨r,by unfold ofP;rw [hr],a,b,c⟩
structure SqM (b:Nat) (m:List (List Pol)):Prop where
 n:m.length≤64
 sq:∀ r∈m,r.length=m.length
 ok:∀ r∈m,∀ p∈r,Can p.ts∧p.big=false∧p.ts.length≤100000∧∀ t∈p.ts,t.1.natAbs≤400∧t.2.natAbs≤cM
 bb:b≤60∧b*m.length≤118
 w:∀ r∈m,XP (rT r) < 2 ^ b
theorem QaX {low:Int}:∀ {l:List Tm},Yr (shL low l)=Yr l
 | []=>rfl
 | t::l=>by
  have:=QaX (low:=low) (l:=l)
  unfold shL at this ⊢
  simp only [Gy,Yr,this]
theorem Qis {r:List Pol}:XP (esR r)=XP (rT r):=by
 rw [qN,qN]
 unfold esR rT
 rw [G9,G9]
 congr 1
 exact GO fun p _=>QaX
def QaD (m:List (List Pol)):Int→Int:=dL (m.map rT) (List.range' 0 m.length)
theorem SqM.dok {b:Nat} {m:List (List Pol)} (k:SqM b m):DOk b m∧(ZE m m.length).natAbs≤25600:=by
 have hbd:∀ r∈m,bF r≤bS r∧(bF r).natAbs≤400∧(bS r).natAbs≤400:=fun r hr=>by
  have:=bFS (r:=r) (fun p hp=>(k.ok r hr p hp).1) (B:=400) fun p hp t ht=>((k.ok r hr p hp).2.2.2 t ht).1
  exact ⟨this.1,this.2.1,this.2.2.1⟩
 have mem:∀ j,j < m.length→m.getD j []∈m:=fun j hj=>by rw [Ge,Ga hj];exact GD _
 refine ⟨⟨by have:=k.n;omega,k.sq,fun r hr p hp=>?_,k.bb,fun r hr=>by rw [Qis];exact k.w r hr,?_⟩,?_⟩
 ·obtain ⟨a,b,c,d⟩:=k.ok r hr p hp
  exact ⟨a,b,c,fun t ht=>⟨by have:=(d t ht).1;omega,(d t ht).2⟩⟩
 ·have h1:(Jx m m.length).natAbs≤m.length*800:=Vi fun j hj=>by have:=hbd _ (mem j hj);omega
  have:=k.n
  omega
 ·have h1:(ZE m m.length).natAbs≤m.length*400:=Vi fun j hj=>(hbd _ (mem j hj)).2.1
  have:=k.n
  omega
theorem UN:∀ {l:List Nat},0∈l→l.foldr (·*·) 1=0
 | x::l,h=>by
  rw [List.foldr_cons]
  rcases GN.1 h with h | h
  ·rw [← h,Nat.zero_mul]
  ·rw [UN h,Nat.mul_zero]
theorem QlG {r:List Pol}:(rT r).length=r.length:=by unfold rT;rw [Gt]
theorem QjB {b:Nat} {m:List (List Pol)} (k:SqM b m) (e:Int):(QaD m e).natAbs≤((m.map rT).map XP).foldr (·*·) 1 :=
 QdL (n:=m.length) (List.Sublist.refl _) fun r hr=>by
  obtain ⟨q,hq,rfl⟩:=Gu.1 hr
  rw [QlG];exact k.sq q hq
def DetR (m:List (List Pol)) (h:Qa) (v:AV):Prop :=
 (∃ s ts,v=.tup [.agg [.bool false,s],.sc (.int .i64 0)]∧IsD h s (tms ts)∧Can ts∧(∀ t∈ts,t.2.natAbs≤cM∧t.1.natAbs≤eM∧t.1.natAbs≤100000)∧∀ e,cf ts e=QaD m e) ∨
 ((∃ e,cM < (QaD m e).natAbs)∧v=.tup [.agg [.bool false,.nilS],.sc (.int .i64 9)])
def I11 (m:List (List Pol)) (ms:SV) (q2:Nat) (hb:Qa) (k:Nat) (E:Env) (h:Qa):Prop:=∃ i,i≤m.length∧k=m.length-i∧Ext hb h ∧
 E.keep [0,2,24,25,26]=[(0,some (.sc ms)),(2,some (.sc (.ptr q2 0))),(24,some (.sc ms)),(25,some (.sc (.int .i64 (m.length:Nat)))),(26,some (.sc (.int .i64 (i:Nat))))]
def R11 (ms:SV) (q2:Nat) (hb:Qa) (ex:Ex) (E:Env) (h:Qa):Prop:=ex=.ex 1∧Ext hb h∧∃ a b c d,E=[(0,some (.sc ms)),(2,some (.sc (.ptr q2 0))),(24,a),(25,b),(26,c),(27,d)]
theorem Qi0 (m:List (List Pol)) (ms:SV) (q2:Nat) (hb:Qa) (hn:m.length≤1000000) (pm:PolMx hb ms m) (hl:∀ r∈m,r.length≤1000000∧∀ p∈r,p.big=false) (k:Nat) (E:Env) (h:Qa) (hI:I11 m ms q2 hb k E h) :
  wA FT HKt QkL (E.keep [0,2,24,25,26]) h (Qp (I11 m ms q2 hb) k (R11 ms q2 hb)):=by
 obtain ⟨i,hi,rfl,x,hE⟩:=hI
 rw [hE]
 by_cases hlt:i < m.length
 ·obtain ⟨r,hr⟩:∃ r,m[i]?=some r:=⟨_,Ga hlt⟩
  obtain ⟨id,off,cap,rs,es,rd,pr⟩:=pm.at hr
  subst es
  have rd0:=QH x rd
  obtain ⟨z1,z2⟩:=hl r (Gh hr)
  have k38:=QmA h r rs z1 (pr.ext x) z2
  repeat' (first | refine Qg ?_ | refine Qb ?_ | refine Qv ?_ | refine QJ ?_ | refine Qn ?_ | refine Qf ?_ | ((refine Qh ?_);first | refine Qj rfl ?_ | refine Qk rfl ?_) | ((refine Qe ?_);first | refine QU rfl rfl rfl rfl rfl ?_ | refine QT rfl rfl rfl rfl rfl rfl ?_) | ((refine Qc ?_);first | refine Qw (esz:=1) rfl rfl (by omega) ?_ | refine Q4 rfl rd0 ?_ | (refine Qi rfl k38 ?_;rintro v h1 ⟨e1,rfl⟩) | refine Qo rfl ?_ | refine QK rfl rfl (by omega) ?_ | refine Qy rfl rfl (by omega) ?_))
  exact QB (j:=m.length-(i+1)) (by omega) ⟨i+1,by omega,rfl,x.trans e1,rfl⟩
 ·have:i=m.length:=by omega
  subst this
  repeat' (first | refine Qg ?_ | refine Qb ?_ | refine Q0 ?_ | refine QX ?_ | refine Qf ?_ | ((refine Qh ?_);refine Qk rfl ?_) | ((refine Qe ?_);refine QT rfl rfl rfl rfl rfl rfl ?_) | ((refine Qc ?_);refine QM rfl rfl (by omega) ?_))
  exact QN ⟨rfl,x,_,_,_,_,rfl⟩
theorem QmJ (b:Nat) (m:List (List Pol)) (ms:SV) (h0:Qa) (pm:PolMx h0 ms m) (k:SqM b m):∃ r h',Cal FT HKt 11 [.sc ms] h0 r h'∧(Ext h0 h'∧DetR m h' r):=by
 refine Cal.of (F:=a11) rfl rfl rfl ?_
 obtain ⟨kd,hlow⟩:=k.dok
 have hn:=k.n
 have lm:=pm.len
 have hcol:JE m=m.length∨m.length=0:=by
  rcases Nat.eq_zero_or_pos m.length with h | h
  ·exact .inr h
  ·left
   unfold JE
   refine k.sq _ ?_
   rw [Ge,Ga h];exact GD _
 have hc0:JE m=m.length:=by
  rcases hcol with h | h
  ·exact h
  ·rw [Gz h];rfl
 have hf:VG m:=fun r hr=>by rw [hc0];exact k.sq r hr
 have hl:∀ r∈m,r.length≤1000000:=fun r hr=>by rw [k.sq r hr];omega
 have k35:=fun H (e:Ext h0 H)=>QmC H m ms (by omega) (pm.ext e) hl
 have k36:=fun H (e:Ext h0 H)=>QmB H m ms hn (by omega) (pm.ext e)
 have k37:=fun H (e:Ext h0 H)=>Qhe H m ms (by omega) (pm.ext e)
 simp only [decide_eq_true hf] at k35
 rw [hc0] at k37
 have pm0:=pm
 obtain ⟨deg,hdeg⟩:∃ deg:Nat,Jx m m.length=(deg:Int):=⟨(Jx m m.length).toNat,(Hm (QjC fun r hr=>(kd.bd hr).1)).symm⟩
 have spans:∀ r∈m,0≤bS r-bF r∧∀ l∈esR r,∀ t∈l,0≤t.1∧t.1≤bS r-bF r:=fun r hr=>by
  have h1:=(kd.bd hr).1
  refine ⟨by omega,fun l hl t ht=>?_⟩
  have:=QgP (kd.ca hr) (fun p hp t ht=>((kd.ok r hr p hp).2.2.2 t ht).1) (fun p hp t ht=>((kd.ok r hr p hp).2.2.2 t ht).2) l hl t ht
  exact ⟨this.1,this.2.1⟩
 have sums:(m.map fun r=>bS r-bF r).sum=(deg:Int):=by rw [← hdeg,← Qc0 (f:=fun r=>bS r-bF r)];rfl
 have lows:(m.map bF).sum=ZE m m.length:=(Qc0 (f:=bF)).symm
 have hsh:∀ e,dL (m.map esR) (List.range' 0 m.length) e=QaD m (e+ZE m m.length):=fun e=>by rw [QbV,lows];rfl
 have hD:∀ x:Int,D ((m.map esR).map (evR x)) (List.range' 0 m.length)=sm (deg+1) fun j=>dL (m.map esR) (List.range' 0 m.length) (j:Int)*x ^ j:=fun x=>Qkp esR (fun r=>bS r-bF r) x spans (by rw [sums];exact Int.le_refl _)
 have hdb:∀ j:Nat,(dL (m.map esR) (List.range' 0 m.length) (j:Int)).natAbs≤((m.map esR).map XP).foldr (·*·) 1:=fun j=>QdL (n:=m.length) (List.Sublist.refl _) fun r hr=>by
  obtain ⟨q,hq,rfl⟩:=Gu.1 hr
  unfold esR;rw [Gt];exact k.sq q hq
 have k40:=fun H (e:Ext h0 H)=>Qmz b deg m ms (fun j=>dL (m.map esR) (List.range' 0 m.length) (j:Int)) H (pm.ext e) kd hdeg hD hdb
 have hsupp:∀ e,e < ZE m m.length∨ZE m m.length+deg < e→QaD m e=0:=fun e he=>by
  have:=hsh (e-ZE m m.length)
  rw [Int.sub_add_cancel] at this
  rw [← this]
  exact QaE esR (fun r=>bS r-bF r) (fun r hr=>(spans r hr).2) (by rw [sums];omega)
 have hd2:deg≤65536:=by have:=kd.deg;omega
 repeat' (first | refine Qg ?_ | refine Qb ?_ | refine Qv ?_ | refine QJ ?_ | refine Qn ?_ | refine Qf ?_ | ((refine Qh ?_);refine Qk rfl ?_) | ((refine Qe ?_);first | refine QE rfl rfl ?_ | refine Qu rfl rfl rfl ?_ | refine QU rfl rfl rfl rfl rfl ?_) | ((refine Qc ?_);first | (refine Xb ?_;intro h1 e1 c2) | (refine Qi rfl (k35 _ e1) ?_;rintro v h1 ⟨rfl,rfl⟩) | (refine Qi rfl (k36 _ e1) ?_;rintro v h1 ⟨rfl,rfl⟩) | (refine Qi rfl (k37 _ e1) ?_;rintro v h1 ⟨rfl,rfl⟩) | refine Qs rfl lm ?_ | refine XS rfl rfl (by omega) ?_ | refine Qo rfl ?_ | refine XR rfl ?_))
 refine Q9 (I11 m ms h0.length h1) m.length (R11 ms h0.length h1) ⟨0,Gs _,rfl,Ext.refl _,rfl⟩ (Qi0 m ms h0.length h1 (by omega) (pm.ext e1) (fun r hr=>⟨hl r hr,fun p hp=>(k.ok r hr p hp).2.1⟩)) ?_
 rintro ex E' h2 ⟨rfl,x2,_,_,_,_,rfl⟩
 have c22:=c2.ext x2
 obtain ⟨v4,h4,cal4,x4,res⟩:=k40 h2 (e1.trans x2)
 rcases res with ⟨⟨j,hj,hz,hne⟩,rfl⟩ | ⟨nz,⟨small,s,rfl,d4⟩ | ⟨⟨j,hj,hbig⟩,rfl⟩⟩
 ·have c24:=c22.ext x4
  have k39:=fun H=>QaF H false .nilS
  have x24:=x2.trans x4
  repeat' (first | refine Qg ?_ | refine Qb ?_ | refine QP ?_ | refine Qn ?_ | refine Qt ?_ | refine Qf ?_ | ((refine Qh ?_);refine Qk rfl ?_) | ((refine Qe ?_);first | refine QE rfl rfl ?_ | refine Qu rfl rfl rfl ?_) | ((refine Qc ?_);first | (refine Qi (R:=fun v h=>v=_∧h=h4) rfl ⟨_,_,cal4,rfl,rfl⟩ ?_;rintro v h ⟨rfl,rfl⟩) | (refine qq rfl ?_;intro h5 e5 c6;replace x24:=x24.trans e5) | refine QI rfl c6 ?_ | (refine Qi rfl (k39 _) ?_;rintro v h6 ⟨e6,rfl⟩;replace c6:=c6.ext e6;replace x24:=x24.trans e6) | (refine Xm rfl rfl (c2.ext x24) ?_;intro h7 w7) | refine QL rfl ?_ | refine Qo rfl ?_ | refine QC rfl rfl ?_ | refine XR rfl ?_ | refine Xt rfl rfl ?_))
  refine ⟨.inr rfl,Zb rfl w7.cel.read rfl ⟨w7.ext (e1.trans x24) (Gf _),.inl ⟨.nilS,[],rfl,IsD.nil _,Can.nil,by simp,fun e=>?_⟩⟩⟩
  have hb0:=QjB k e
  have hm:m.getD j []∈m:=by rw [Ge,Ga hj];exact GD _
  have hw0:XP (rT (m.getD j []))=0:=by
   have:=QaI (kd.ca hm)
   rw [hz] at this
   rw [qN]
   unfold rT
   rw [G9]
   have e:(m.getD j []).map (Yr∘Pol.ts)=(m.getD j []).map fun _=>0:=GO fun p hp=>by simp [this p hp,Yr]
   rw [e]
   generalize m.getD j []=l
   induction l with
   | nil=>rfl
   | cons a l ih=>simp only [Gy,Hh,ih]
  rw [UN (Gu.2 ⟨rT (m.getD j []),Gu.2 ⟨_,hm,rfl⟩,hw0⟩)] at hb0
  show (0:Int)=_
  omega
 ·have c24:=c22.ext x4
  obtain ⟨ts,ets,can,hts,hcf⟩:=Vv (low:=ZE m m.length) (xs:=(List.range (deg+1)).map fun j:Nat=>dL (m.map esR) (List.range' 0 m.length) (j:Int)) (fun x hx=>by
   obtain ⟨j,hj,rfl⟩:=Gu.1 hx
   rw [Hk] at hj
   exact small j (by omega)) (by simp only [eM];omega) (fun i hi=>by simp only [eM];simp at hi;omega)
  rw [ets] at d4
  have k39:=fun H=>QaF H false s
  have x24:=x2.trans x4
  have d5:=d4
  rw [ets] at cal4
  repeat' (first | refine Qg ?_ | refine Qb ?_ | refine QP ?_ | refine Qn ?_ | refine Qt ?_ | refine Qf ?_ | ((refine Qh ?_);refine Qk rfl ?_) | ((refine Qe ?_);first | refine QE rfl rfl ?_ | refine Qu rfl rfl rfl ?_) | ((refine Qc ?_);first | (refine Qi (R:=fun v h=>v=_∧h=h4) rfl ⟨_,_,cal4,rfl,rfl⟩ ?_;rintro v h ⟨rfl,rfl⟩) | (refine qq rfl ?_;intro h5 e5 c6;replace x24:=x24.trans e5;replace d5:=d5.ext e5) | refine QI rfl c6 ?_ | (refine Qi rfl (k39 _) ?_;rintro v h6 ⟨e6,rfl⟩;replace c6:=c6.ext e6;replace x24:=x24.trans e6;replace d5:=d5.ext e6) | (refine Xm rfl rfl (c2.ext x24) ?_;intro h7 w7) | refine QL rfl ?_ | refine Qo rfl ?_ | refine QC rfl rfl ?_ | refine XR rfl ?_ | refine Xt rfl rfl ?_))
  refine ⟨.inr rfl,Zb rfl w7.cel.read rfl ⟨w7.ext (e1.trans x24) (Gf _),.inl ⟨s,ts,rfl,d5.wrC w7,can,fun t ht=>⟨(hts t ht).2.2.1,(hts t ht).2.2.2,?_⟩,fun e=>?_⟩⟩⟩
  ·have:=hts t ht
   simp at this;omega
  ·rw [hcf e]
   simp only [Gt,List.length_range]
   by_cases he:ZE m m.length≤e∧e < ZE m m.length+(deg+1:Nat)
   ·rw [if_pos he,Ge,Gi,Gq (by omega)]
    show dL _ _ (((e-ZE m m.length).toNat:Nat):Int)=_
    rw [Hm (by omega),hsh,Int.sub_add_cancel]
   ·rw [if_neg he,hsupp e (by omega)]
 ·have c24:=c22.ext x4
  have k39:=fun H=>QaF H false .nilS
  have x24:=x2.trans x4
  repeat' (first | refine Qg ?_ | refine Qb ?_ | refine QD ?_ | refine QP ?_ | refine Qt ?_ | refine Qf ?_ | ((refine Qh ?_);refine Qj rfl ?_) | ((refine Qe ?_);first | refine QE rfl rfl ?_ | refine Qu rfl rfl rfl ?_) | ((refine Qc ?_);first | (refine Qi (R:=fun v h=>v=_∧h=h4) rfl ⟨_,_,cal4,rfl,rfl⟩ ?_;rintro v h ⟨rfl,rfl⟩) | refine XE rfl rfl ?_ | (refine qq rfl ?_;intro h5 e5 c6;replace x24:=x24.trans e5) | (refine Xm rfl rfl (c2.ext x24) ?_;intro h7 w7) | refine Xd rfl ?_ | refine Qo rfl ?_ | refine QS rfl rfl ?_ | refine Yw rfl ?_ | refine Xt rfl rfl ?_))
  exact ⟨.inr rfl,Zb rfl w7.cel.read rfl ⟨w7.ext (e1.trans x24) (Gf _),.inr ⟨⟨_,by rw [← hsh];exact hbig⟩,rfl⟩⟩⟩
