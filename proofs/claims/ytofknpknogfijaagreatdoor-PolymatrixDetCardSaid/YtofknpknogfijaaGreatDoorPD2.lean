/- The determinant: the function. -/
import Derived.Test.YtofknpknogfijaaGreatDoorDE4
import Derived.Test.YtofknpknogfijaaGreatDoorDE1
import Derived.Test.YtofknpknogfijaaGreatDoorQ0
import Derived.Test.YtofknpknogfijaaGreatDoorAb50
import Derived.Test.YtofknpknogfijaaGreatDoorEX9
import Derived.Test.YtofknpknogfijaaGreatDoorPM
import Derived.Test.YtofknpknogfijaaGreatDoorC3
namespace Go.Proofs.YtofknpknogfijaaGreatDoor
open Go.Ab
set_option linter.unusedVariables false
set_option linter.unusedSimpArgs false
set_option maxRecDepth 20000
set_option maxHeartbeats 4000000
attribute [local irreducible] Qj wA Xm Xk QI Qo QW QV
set_option linter.unusedSectionVars false
variable [HB]
theorem QdV {l:List Tm} (hl:l≠[]) (nz:∀ t∈l,t.2≠0):0 < Yr l:=by
  cases l with
  | nil=>exact absurd rfl hl
  | cons t l =>
    have:=nz t (.head _)
    simp only [Yr];omega
theorem V3 {l:List Tm}:∀ {r:List (List Tm)},l∈r→Yr l≤XT r
  | x::r,h=>by
    simp only [XT]
    rcases List.mem_cons.1 h with rfl | h
    · omega
    · have:=V3 h;omega
theorem QdR {r:List Pol} (ca:∀ p∈r,Can p.ts) (h:YS r≠none):0 < XT (esR r):=by
  have:=VZ ca
  cases hb:YS r with
  | none=>exact absurd hb h
  | some x =>
    rw [hb] at this
    obtain ⟨-,-,⟨p,hp,t,ht,-⟩,-⟩:=this
    have hm:shL (bF r) p.ts∈esR r:=List.mem_map.2 ⟨p,hp,rfl⟩
    refine Nat.lt_of_lt_of_le (QdV (l:=shL (bF r) p.ts) (fun e=>?_) fun u hu=>?_) (V3 hm)
    · have:p.ts=[]:=List.map_eq_nil_iff.1 e
      rw [this] at ht;cases ht
    · obtain ⟨v,hv,rfl⟩:=List.mem_map.1 hu
      exact (ca p hp).nz v hv
theorem Qg3 {m:List (List Pol)} (hs:∀ r∈m,bF r≤bS r):∀ {n i:Nat},i < n→n≤m.length→bS (m.getD i [])-bF (m.getD i [])≤Jh m n∧0≤Jh m n:=by
  have ps:∀ i,i < m.length→0≤bS (m.getD i [])-bF (m.getD i []):=fun i hi=>by
    have hm:m.getD i []∈m:=by rw [List.getD_eq_getElem?_getD,List.getElem?_eq_getElem hi];exact List.getElem_mem _
    have:=hs _ hm;omega
  intro n
  induction n with
  | zero=>intro i h;omega
  | succ n ih =>
    intro i hi hn
    have e:Jh m (n+1)=Jh m n+(bS (m.getD n [])-bF (m.getD n [])):=rfl
    have p1:=ps n (by omega)
    have p0:0≤Jh m n:=by
      cases n with
      | zero=>exact Int.le_refl _
      | succ k=>exact (ih (i:=0) (by omega) (by omega)).2
    rcases Nat.lt_or_ge i n with h | h
    · have:=ih h (by omega);omega
    · obtain rfl:i=n:=by omega
      omega
theorem Qh3 {m:List (List Pol)} (hs:∀ r∈m,bF r≤bS r):0≤Jh m m.length:=by
  cases h:m.length with
  | zero=>exact Int.le_refl _
  | succ n=>exact (Qg3 hs (i:=0) (n:=n+1) (by omega) (by omega)).2
structure DOk (b:Nat) (m:List (List Pol)):Prop where
  n:m.length≤1000
  sq:∀ r∈m,r.length=m.length
  ok:∀ r∈m,∀ p∈r,Can p.ts∧p.big=false∧p.ts.length≤100000∧∀ t∈p.ts,t.1.natAbs≤50000∧t.2.natAbs≤cM
  bb:b≤60∧b*m.length≤118
  w:∀ r∈m,XT (esR r) < 2 ^ b
  deg:Jh m m.length≤65536
theorem DOk.ca {b:Nat} {m:List (List Pol)} (k:DOk b m) {r:List Pol} (hr:r∈m):∀ p∈r,Can p.ts:=fun p hp=>(k.ok r hr p hp).1
theorem DOk.bd {b:Nat} {m:List (List Pol)} (k:DOk b m) {r:List Pol} (hr:r∈m):bF r≤bS r∧(bF r).natAbs≤50000∧(bS r).natAbs≤50000∧∀ p∈r,∀ t∈p.ts,bF r≤t.1∧t.1≤bS r :=
  bFS (k.ca hr) fun p hp t ht=>((k.ok r hr p hp).2.2.2 t ht).1
theorem Qlh (b deg:Nat) (m:List (List Pol)) (ms:SV) (d:Nat→Int) (h0:Qa) (pm:PolMx h0 ms m) (k:DOk b m) (hdeg:Jh m m.length=(deg:Int))
    (hD:∀ x:Int,D ((m.map esR).map (evR x)) (List.range' 0 m.length)=sm (deg+1) fun j=>d j*x ^ j) (hdb:∀ j,(d j).natAbs≤((m.map esR).map XT).foldr (·*·) 1) :
    ∃ r h',Cal FT HKt 40 [.sc ms] h0 r h'∧Ext h0 h' ∧
      (((∃ j,j < m.length∧YS (m.getD j [])=none∧m.getD j []≠[])∧r=.tup [.agg [.bool false,.nilS],.sc (.bool true)]) ∨
       ((∀ r∈m,YS r≠none)∧(((∀ j,j≤deg→(d j).natAbs≤cM)∧∃ s,r=.tup [.agg [.bool (ofP (ZB m m.length) ((List.range (deg+1)).map d)).big,s],.sc (.bool true)]∧IsD h' s (tms (ofP (ZB m m.length) ((List.range (deg+1)).map d)).ts)) ∨
        ((∃ j,j≤deg∧cM < (d j).natAbs)∧r=.tup [.agg [.bool false,.nilS],.sc (.bool false)])))):=by
  refine Cal.of (F:=a40) rfl rfl rfl ?_
  have hn:=k.n
  have lm:=pm.len
  have bd:=fun r (hr:r∈m)=>k.bd hr
  repeat' (first | refine Qg ?_ | refine Qb ?_ | refine Qt ?_ | refine Qf ?_ | ((refine Qe ?_);first | refine Qy rfl rfl ?_ | refine QB rfl rfl rfl ?_ | refine QO rfl rfl rfl rfl rfl ?_ | refine Q8 rfl rfl rfl rfl rfl rfl rfl rfl ?_) | ((refine Qc ?_);first | (refine Xz ?_;intro h1 e1 c2) | refine Qu rfl lm ?_ | (refine QiR rfl rfl (by omega) ?_;intro h2 e2 b4) | refine Qm rfl ?_))
  rw [← U2 (f:=fun j=>bF (m.getD j []))] at b4
  refine QP (I40a m ms h0.length h1.length h1) m.length (R40a m ms h0.length h1.length h0 h1) ⟨0,Nat.zero_le _,rfl,e2,b4,fun j hj=>absurd hj (Nat.not_lt_zero _),rfl⟩
    (Qeo m ms h0.length h1.length h0 h1 e1 hn (pm.ext e1) c2 (Nat.le_refl _) (Nat.le_refl _) fun r hr=>⟨by rw [k.sq r hr];omega,fun p hp=>⟨(k.ok r hr p hp).2.1,(k.ok r hr p hp).2.2.1⟩,by have:=bd r hr;omega,by have:=bd r hr;omega⟩) ?_
  rintro ex E' h3 (⟨rfl,x3,b3,hall,_,_,_,_,rfl⟩ | ⟨rfl,x3,c3,hz,rfl⟩)
  · have c23:=c2.ext x3
    have hdg:Jh m m.length < 131072:=by rw [hdeg];have:=k.deg;omega
    have hlow:(ZB m m.length).natAbs≤1000*50000:=by
      refine Nat.le_trans (UI (B:=50000) fun j hj=>?_) (Nat.mul_le_mul_right _ hn)
      have hm:m.getD j []∈m:=by rw [List.getD_eq_getElem?_getD,List.getElem?_eq_getElem hj];exact List.getElem_mem _
      exact (bd _ hm).2.1
    have lm3:=lm
    have nz:∀ r∈m,YS r≠none:=fun r hr=>by
      obtain ⟨j,hj⟩:=List.mem_iff_getElem?.1 hr
      have hj2:=(List.getElem?_eq_some_iff.1 hj).1
      have er:m.getD j []=r:=by rw [List.getD_eq_getElem?_getD,hj];rfl
      rcases hall j hj2 with h | h
      · rw [← er];exact h
      · exfalso
        have:=k.sq r hr
        rw [← er,h] at this
        simp at this;omega
    rw [hdeg] at hdg ⊢
    generalize hL:ZB m m.length=low at *
    repeat' (first | refine Qg ?_ | refine Qb ?_ | refine Qt ?_ | refine QC ?_ | refine Qp ?_ | refine Qf ?_ | ((refine Qh ?_);refine Qi rfl ?_) | ((refine Qe ?_);first | refine QD rfl rfl rfl rfl rfl rfl ?_ | refine Q8 rfl rfl rfl rfl rfl rfl rfl rfl ?_) | ((refine Qc ?_);first | refine Qu rfl lm ?_ | (refine QiQ rfl rfl (by omega) ?_;intro h4 e4 b14) | refine XH rfl rfl (by omega) ?_ | refine Qm rfl ?_))
    have x4:=e1.trans x3
    refine QP (I40d (m.map esR) ms h0.length h1.length h3.length m.length (.sc (.int .i64 low)) (.sc (.int .i64 (deg:Nat))) h3) m.length (R40d (m.map esR) h0.length h1.length h3.length m.length (.sc (.int .i64 low)) (.sc (.int .i64 (deg:Nat))) h3)
      ⟨0,Nat.zero_le _,rfl,⟨e4,[],rfl,by simpa using b14,fun j s r a=>by simp at a⟩,rfl⟩
      (Qel m ms h0.length h1.length h3.length m.length _ _ h3 (pm.ext (e1.trans x3)) rfl hn b3 (Nat.le_refl _) fun r hr=>⟨by rw [k.sq r hr];omega,by have:=bd r hr;omega,fun p hp=>⟨(k.ok r hr p hp).1,(k.ok r hr p hp).2.1,(k.ok r hr p hp).2.2.1,fun t ht=>by have:=((k.ok r hr p hp).2.2.2 t ht).1;omega⟩⟩) ?_
    rintro ex E' h5 ⟨rfl,j5,_,_,_,_,rfl⟩
    have ee:=j5.done (by simp)
    have hd2:deg≤65536:=by have:=k.deg;omega
    have k77:=Qk9 m.length deg b d h5 (.slc h3.length 0 m.length (some m.length)) (m.map esR) hd2 hn k.bb ee (by simp) (fun r hr=>by
        obtain ⟨q,hq,rfl⟩:=List.mem_map.1 hr
        refine ⟨by unfold esR;rw [List.length_map];exact k.sq q hq,fun l hl=>⟨?_,fun t ht=>?_⟩⟩
        · obtain ⟨p,hp,rfl⟩:=List.mem_map.1 hl
          unfold shL;rw [List.length_map]
          have:=(k.ok q hq p hp).2.2.1;omega
        · have:=Qfo (k.ca hq) (fun p hp t ht=>((k.ok q hq p hp).2.2.2 t ht).1) (fun p hp t ht=>((k.ok q hq p hp).2.2.2 t ht).2) l hl t ht
          have:=bd q hq
          omega) (fun r hr=>by
        obtain ⟨q,hq,rfl⟩:=List.mem_map.1 hr
        exact ⟨QdR (k.ca hq) (nz q hq),k.w q hq⟩) hD hdb
    have c25:=c23.ext j5.x
    obtain ⟨v7,h7,cal7,x7,res⟩:=k77
    rcases res with ⟨s7,rfl,i7,ok7⟩ | ⟨rfl,bad⟩
    · have hwc:∀ x∈(List.range (deg+1)).map d,-9223372036854775808≤x∧x≤9223372036854775807:=fun x hx=>by
        obtain ⟨j,hj,rfl⟩:=List.mem_map.1 hx
        rw [List.mem_range] at hj
        have:=ok7 j (by omega)
        have hcM:cM=1125899906842624:=rfl
        omega
      have k20:=Qll h7 low (by omega) s7 ((List.range (deg+1)).map d) (by simp;omega) i7 hwc
      have c27:=c25.ext x7
      repeat' (first | refine Qg ?_ | refine Qb ?_ | refine QC ?_ | refine Qp ?_ | refine Qv ?_ | refine Qf ?_ | ((refine Qh ?_);refine Qi rfl ?_) | ((refine Qe ?_);first | refine Qy rfl rfl ?_ | refine QS rfl rfl rfl rfl ?_) | ((refine Qc ?_);first | (refine Qn (R:=fun v h=>v=_∧h=h7) rfl ⟨_,_,cal7,rfl,rfl⟩ ?_;rintro v h ⟨rfl,rfl⟩) | (refine Qn rfl k20 ?_;rintro v8 h8 ⟨e8,s8,rfl,d8⟩;have c28:=c27.ext e8) | (refine Xw rfl rfl c28 ?_;intro h9 w9) | refine Qm rfl ?_ | refine XZ rfl ?_ | refine X6 rfl rfl ?_))
      refine ⟨.inr rfl,Zc rfl w9.cel.read rfl ⟨w9.ext (((x4.trans j5.x).trans x7).trans e8) (Nat.le_refl _),.inr ⟨nz,.inl ⟨ok7,s8,rfl,d8.wrC w9⟩⟩⟩⟩
    · have c27:=c25.ext x7
      repeat' (first | refine Qg ?_ | refine Qb ?_ | refine QL ?_ | refine QC ?_ | refine Qv ?_ | refine Qf ?_ | ((refine Qh ?_);refine Qk rfl ?_) | ((refine Qe ?_);first | refine Qy rfl rfl ?_ | refine QS rfl rfl rfl rfl ?_) | ((refine Qc ?_);first | (refine Qn (R:=fun v h=>v=_∧h=h7) rfl ⟨_,_,cal7,rfl,rfl⟩ ?_;rintro v h ⟨rfl,rfl⟩) | refine X5 rfl rfl ?_ | (refine Xw rfl rfl c27 ?_;intro h9 w9) | refine Qm rfl ?_ | refine Yh rfl ?_ | refine X6 rfl rfl ?_))
      exact ⟨.inr rfl,Zc rfl w9.cel.read rfl ⟨w9.ext ((x4.trans j5.x).trans x7) (Nat.le_refl _),.inr ⟨nz,.inr ⟨bad,rfl⟩⟩⟩⟩
  · repeat' (first | refine QL ?_ | refine Q9 ?_)
    exact ⟨.inr rfl,Zc rfl c3.read rfl ⟨x3,.inl ⟨hz,rfl⟩⟩⟩
end Go.Proofs.YtofknpknogfijaaGreatDoor


namespace Go.Proofs.YtofknpknogfijaaGreatDoor
open Go.Ab
set_option linter.unusedVariables false
set_option linter.unusedSimpArgs false
set_option linter.unusedSectionVars false
variable [HB]
def YW:List Tm→(Int→Int)→Int→Int
  | [],_,_=>0
  | t::l,f,e=>t.2*f (e-t.1)+YW l f e
def dL:List (List (List Tm))→List Nat→Int→Int
  | [],_,e=>if e=0 then 1 else 0
  | r::rs,cs,e=>alt (fun c ds=>YW (r.getD c []) (dL rs ds) e) cs
theorem JS {f:Int→Int}:∀ {l:List Tm} {e:Int},(∀ t∈l,f (e-t.1)=0)→YW l f e=0
  | [],_,_=>rfl
  | t::l,e,h=>by
    simp only [YW]
    rw [h t (.head _),JS fun u hu=>h u (.tail _ hu),Int.mul_zero];rfl
theorem Vz {f:Int→Int} {B:Nat} (h:∀ e,(f e).natAbs≤B):∀ {l:List Tm} {e:Int},(YW l f e).natAbs≤Yr l*B
  | [],_=>by simp [YW,Yr]
  | t::l,e=>by
    simp only [YW,Yr]
    have h1:=Vz h (l:=l) (e:=e)
    have h2:(t.2*f (e-t.1)).natAbs≤t.2.natAbs*B:=by rw [Int.natAbs_mul];exact Nat.mul_le_mul_left _ (h _)
    rw [Nat.add_mul];omega
theorem Qgn:∀ {cs:List Nat} {f:Nat→List Nat→Int} {g:Nat→Nat},(∀ c ds,c∈cs→ds.Sublist cs→(f c ds).natAbs≤g c)→(alt f cs).natAbs≤(cs.map g).sum
  | [],_,_,_=>Nat.le_refl _
  | c::cs,f,g,h=>by
    simp only [alt,List.map_cons,List.sum_cons]
    have h1:=h c cs (.head _) (List.sublist_cons_self c cs)
    have h2:=Qgn (f:=fun d ds=>f d (c::ds)) (g:=g) fun d ds hd hs=>h d (c::ds) (.tail _ hd) (hs.cons_cons c)
    omega
theorem Uw:∀ {cs:List Nat} {f:Nat→List Nat→Int},(∀ c ds,c∈cs→ds.Sublist cs→f c ds=0)→alt f cs=0
  | [],_,_=>rfl
  | c::cs,f,h=>by
    simp only [alt]
    rw [h c cs (.head _) (List.sublist_cons_self c cs),Uw fun d ds hd hs=>h d (c::ds) (.tail _ hd) (hs.cons_cons c)];rfl
theorem Vh {g:Nat→Nat}:∀ {us vs:List Nat},us.Sublist vs→(us.map g).sum≤(vs.map g).sum
  | _,_,.slnil=>Nat.le_refl _
  | _,_,.cons a h=>by have:=Vh (g:=g) h;simp only [List.map_cons,List.sum_cons];omega
  | _,_,.cons_cons a h=>by have:=Vh (g:=g) h;simp only [List.map_cons,List.sum_cons];omega
theorem qy:∀ {r:List (List Tm)},XT r=(r.map Yr).sum
  | []=>rfl
  | l::r=>by simp only [XT,List.map_cons,List.sum_cons,qy (r:=r)]
theorem QfB {r:List (List Tm)}:((List.range' 0 r.length).map fun c=>Yr (r.getD c [])).sum=XT r:=by
  rw [qy]
  congr 1
  apply List.ext_getElem?
  intro i
  rw [List.getElem?_map,List.getElem?_map]
  rcases Nat.lt_or_ge i r.length with h | h
  · rw [List.getElem?_range' h,List.getElem?_eq_getElem h]
    simp [List.getD_eq_getElem?_getD,List.getElem?_eq_getElem h]
  · rw [List.getElem?_eq_none (by simpa using h),List.getElem?_eq_none (by omega)];rfl
theorem Qcu {g:Nat→Nat} {B:Nat}:∀ {cs:List Nat},(cs.map fun c=>g c*B).sum=(cs.map g).sum*B
  | []=>by simp
  | c::cs=>by simp only [List.map_cons,List.sum_cons,Qcu (cs:=cs),Nat.add_mul]
theorem QcK {n:Nat}:∀ {rows:List (List (List Tm))} {cs:List Nat} {e:Int},cs.Sublist (List.range' 0 n)→(∀ r∈rows,r.length=n)→(dL rows cs e).natAbs≤(rows.map XT).foldr (·*·) 1
  | [],cs,e,_,_=>by simp only [dL];split <;> simp
  | r::rs,cs,e,hs,hl=>by
    simp only [dL,List.map_cons,List.foldr_cons]
    refine Nat.le_trans (Qgn (g:=fun c=>Yr (r.getD c [])*(rs.map XT).foldr (·*·) 1) fun c ds hc hd=>Vz fun e=>QcK (hd.trans hs) fun q hq=>hl q (.tail _ hq)) ?_
    rw [Qcu]
    refine Nat.mul_le_mul_right _ ?_
    have:=Vh (g:=fun c=>Yr (r.getD c [])) hs
    rwa [← hl r (.head _),QfB] at this
theorem VU {α:Type} (f:α→List (List Tm)) (k:α→Int):∀ {m:List α} {cs:List Nat} {e:Int},(∀ r∈m,∀ l∈f r,∀ t∈l,0≤t.1∧t.1≤k r)→e < 0∨(m.map k).sum < e→dL (m.map f) cs e=0
  | [],cs,e,_,h=>by
    simp only [List.map_nil,List.sum_nil] at h
    simp only [List.map_nil,dL]
    rw [if_neg (by omega)]
  | r::m,cs,e,hb,h=>by
    simp only [List.map_cons,List.sum_cons] at h
    simp only [List.map_cons,dL]
    refine Uw fun c ds _ _=>JS fun t ht=>?_
    have hm:(f r).getD c []∈f r∨(f r).getD c []=[]:=by
      rw [List.getD_eq_getElem?_getD]
      rcases h:(f r)[c]? with _ | x
      · exact .inr rfl
      · exact .inl (List.mem_of_getElem? h)
    rcases hm with hm | hm
    · have:=hb r (.head _) _ hm t ht
      exact VU f k (fun q hq=>hb q (.tail _ hq)) (by omega)
    · rw [hm] at ht;cases ht
theorem Qaf {a:Nat} {f:Nat→Int}:∀ {n:Nat},sm (a+n) f=sm a f+sm n fun i=>f (a+i)
  | 0=>by simp [sm]
  | n+1=>by
    have e:sm (a+(n+1)) f=sm (a+n) f+f (a+n):=rfl
    rw [e,Qaf (n:=n)]
    simp only [sm];omega
theorem Qd5 {x:Int} {f:Int→Int} {a M N:Nat} (h:a+M≤N) (hz:∀ e,e < 0∨(M:Int) < e→f e=0):sm (N+1) (fun j=>f ((j:Int)-(a:Int))*x ^ j)=x ^ a*sm (M+1) fun j=>f (j:Int)*x ^ j:=by
  rw [Qd8 (n:=a+(M+1)) _ (by omega) fun j hj=>by rw [hz _ (by omega),Int.zero_mul],Qaf]
  rw [YH (n:=a) (g:=fun _=>0) fun i hi=>by rw [hz _ (by omega),Int.zero_mul],sm_zero,Int.zero_add,← Jv]
  refine YH fun i hi=>?_
  rw [show ((a+i:Nat):Int)-(a:Int)=(i:Int) by omega,Int.pow_add,Int.mul_left_comm]
theorem Qcw {x:Int} {f:Int→Int} {M N:Nat} (hz:∀ e,e < 0∨(M:Int) < e→f e=0):∀ {l:List Tm},(∀ t∈l,0≤t.1∧t.1+M≤N)→sm (N+1) (fun j=>YW l f (j:Int)*x ^ j)=evT x l*sm (M+1) fun j=>f (j:Int)*x ^ j
  | [],_=>by
    simp only [evT,Int.zero_mul]
    rw [YH (g:=fun _=>0) fun i _=>by simp [YW],sm_zero]
  | t::l,h=>by
    have h1:=h t (.head _)
    have ih:=Qcw (x:=x) hz (l:=l) fun u hu=>h u (.tail _ hu)
    have e:sm (N+1) (fun j=>YW (t::l) f (j:Int)*x ^ j)=t.2*sm (N+1) (fun j=>f ((j:Int)-(t.1.toNat:Int))*x ^ j)+sm (N+1) (fun j=>YW l f (j:Int)*x ^ j):=by
      rw [← Jv,← Qbj]
      refine YH fun i hi=>?_
      simp only [YW]
      rw [Int.add_mul,Int.mul_assoc,Int.toNat_of_nonneg h1.1]
    rw [e,ih,Qd5 (x:=x) (by omega) hz]
    simp only [evT]
    rw [Int.add_mul,Int.mul_assoc]
theorem QlB {cs:List Nat} {n:Nat} {F:Nat→List Nat→Nat→Int}:alt (fun c ds=>sm n (F c ds)) cs=sm n fun j=>alt (fun c ds=>F c ds j) cs:=by
  induction n with
  | zero=>exact JM
  | succ n ih=>simp only [sm];rw [zF,ih]
theorem Qgl (k:Int) {cs:List Nat} {f:Nat→List Nat→Int}:alt (fun c ds=>f c ds*k) cs=alt f cs*k:=by
  rw [Int.mul_comm,← Jk];exact YZ fun c ds=>Int.mul_comm _ _
theorem QiT {α:Type} (f:α→List (List Tm)) (k:α→Int) (x:Int):∀ {m:List α} {cs:List Nat} {N:Nat},(∀ r∈m,0≤k r∧∀ l∈f r,∀ t∈l,0≤t.1∧t.1≤k r)→(m.map k).sum≤N→D ((m.map f).map (evR x)) cs=sm (N+1) fun j=>dL (m.map f) cs (j:Int)*x ^ j
  | [],cs,N,_,_=>by
    simp only [List.map_nil,dL,D]
    rw [YH (g:=fun i=>if i=0 then 1 else 0) fun i hi=>?_,Qd7 0 1 (by omega)]
    by_cases h:i=0
    · subst h;simp
    · rw [if_neg h,if_neg (by omega),Int.zero_mul]
  | r::m,cs,N,hb,hN=>by
    simp only [List.map_cons,List.sum_cons] at hN
    have hk:=hb r (.head _)
    have hs0:0≤(m.map k).sum:=by
      have:∀ {m:List α},(∀ r∈m,0≤k r)→0≤(m.map k).sum:=by
        intro m
        induction m with
        | nil=>intro _;exact Int.le_refl _
        | cons q m ih=>intro h;have:=h q (.head _);have:=ih fun r hr=>h r (.tail _ hr);simp only [List.map_cons,List.sum_cons];omega
      exact this fun q hq=>(hb q (.tail _ hq)).1
    have hbt:=fun q (hq:q∈m)=>hb q (.tail _ hq)
    simp only [List.map_cons]
    rw [YB]
    have e:(fun j:Nat=>dL (f r::m.map f) cs (j:Int)*x ^ j)=fun j:Nat=>alt (fun c ds=>YW ((f r).getD c []) (dL (m.map f) ds) (j:Int)*x ^ j) cs:=by
      funext j
      rw [Qgl];rfl
    rw [e,← QlB]
    refine YZ fun c ds=>?_
    rw [QiT f k x (N:=(m.map k).sum.toNat) hbt (by omega)]
    symm
    refine Qcw (M:=(m.map k).sum.toNat) (fun e he=>VU f k (fun q hq=>(hbt q hq).2) (by omega)) fun t ht=>?_
    have hm:(f r).getD c []∈f r∨(f r).getD c []=[]:=by
      rw [List.getD_eq_getElem?_getD]
      rcases h:(f r)[c]? with _ | y
      · exact .inr rfl
      · exact .inl (List.mem_of_getElem? h)
    rcases hm with hm | hm
    · have:=hk.2 _ hm t ht
      omega
    · rw [hm] at ht;cases ht
def rT (r:List Pol):List (List Tm):=r.map Pol.ts
theorem QaC {low s:Int} {f g:Int→Int} (h:∀ e,f e=g (e+s)):∀ {l:List Tm} {e:Int},YW (shL low l) f e=YW l g (e+(low+s))
  | [],_=>rfl
  | t::l,e=>by
    have ih:=QaC (low:=low) h (l:=l) (e:=e)
    unfold shL at ih ⊢
    simp only [List.map_cons,YW]
    rw [ih,h,show e-(t.1-low)+s=e+(low+s)-t.1 by omega]
theorem Qfp {r:List Pol} {c:Nat}:(esR r).getD c []=shL (bF r) ((rT r).getD c []):=by
  unfold esR rT
  simp only [List.getD_eq_getElem?_getD,List.getElem?_map]
  cases r[c]? <;> rfl
theorem Qa1:∀ {m:List (List Pol)} {cs:List Nat} {e:Int},dL (m.map esR) cs e=dL (m.map rT) cs (e+(m.map bF).sum)
  | [],cs,e=>by simp [dL]
  | r::m,cs,e=>by
    simp only [List.map_cons,dL,List.sum_cons]
    refine YZ fun c ds=>?_
    rw [Qfp]
    exact QaC fun e=>Qa1
theorem Qb4 {f:List Pol→Int} {m:List (List Pol)}:∀ {n:Nat},n≤m.length→sm n (fun j=>f (m.getD j []))=((m.take n).map f).sum
  | 0,_=>rfl
  | n+1,h=>by
    simp only [sm]
    have e:m.getD n []=m[n]'(by omega):=by rw [List.getD_eq_getElem?_getD,List.getElem?_eq_getElem (show n < m.length by omega)];rfl
    rw [Qb4 (n:=n) (by omega),List.take_add_one,List.getElem?_eq_getElem (by omega),List.map_append,List.sum_append,e,Option.toList_some,List.map_cons,List.map_nil,List.sum_cons,List.sum_nil,Int.add_zero]
theorem Qb6 {f:List Pol→Int} {m:List (List Pol)}:sm m.length (fun j=>f (m.getD j []))=(m.map f).sum:=by
  rw [Qb4 (Nat.le_refl _),List.take_length]
end Go.Proofs.YtofknpknogfijaaGreatDoor



namespace Go.Proofs.YtofknpknogfijaaGreatDoor
set_option linter.unusedVariables false
set_option linter.unusedSectionVars false
variable [HB]
theorem Qgv (g:Int→Int) (e v:Int):∀ M:List Tm,S g (YF e v M)=S g M+v*g e
  | []=>by simp [YF,S]
  | u::r=>by
    unfold YF
    split
    · simp only [S];rw [Qgv g e v r];omega
    split
    · rename_i h1 h2
      simp only [S]
      rw [h2,Int.add_mul];omega
    · simp only [S];omega
theorem yr (g:Int→Int):∀ (L M:List Tm),S g (Xn L M)=S g M+S g L
  | [],M=>by simp [Xn,S]
  | t::L,M=>by
    show S g (Xn L (YF t.1 t.2 M))=_
    rw [yr g L,Qgv]
    simp only [S];omega
theorem S_mt (g:Int→Int) (a:Tm):∀ Q:List Tm,S g (Q.map (mt a))=a.2*S (fun b=>g (a.1+b)) Q
  | []=>by simp [S]
  | b::Q=>by
    simp only [List.map_cons,S,mt]
    rw [S_mt g a Q,Int.mul_add,Int.mul_assoc]
theorem Qbb (g:Int→Int) (Q:List Tm):∀ (P M:List Tm),S g (XN P Q M)=S g M+S2 g P Q
  | [],M=>by simp [XN,S2,S]
  | a::P,M=>by
    show S g (XN P Q (Xn (Q.map (mt a)) M))=_
    rw [Qbb g Q P,yr,S_mt]
    simp only [S2,S];omega
theorem S_nz (g:Int→Int):∀ M:List Tm,S g (M.filter nzT)=S g M
  | []=>rfl
  | u::r=>by
    rw [List.filter_cons]
    split
    · simp only [S];rw [S_nz g r]
    · rename_i h
      have:u.2=0:=by simpa [nzT] using h
      simp only [S];rw [S_nz g r,this];omega
def Asc (l:List Tm):Prop:=l.Pairwise fun a b=>a.1 < b.1
theorem Qap {e v:Int}:∀ {M:List Tm} {u:Tm},u∈YF e v M→u.1=e∨∃ w∈M,w.1=u.1
  | [],u,h=>by simp [YF] at h;subst h;exact .inl rfl
  | a::r,u,h=>by
    unfold YF at h
    split at h
    · rcases List.mem_cons.1 h with rfl | h
      · exact .inr ⟨_,.head _,rfl⟩
      · rcases Qap h with h | ⟨w,hw,e⟩
        · exact .inl h
        · exact .inr ⟨w,.tail _ hw,e⟩
    split at h
    · rcases List.mem_cons.1 h with rfl | h
      · exact .inl rfl
      · exact .inr ⟨u,.tail _ h,rfl⟩
    · rcases List.mem_cons.1 h with rfl | h
      · exact .inl rfl
      · exact .inr ⟨u,h,rfl⟩
theorem Qas {e v:Int}:∀ {M:List Tm},Asc M→Asc (YF e v M)
  | [],h=>by simp [YF,Asc]
  | a::r,h=>by
    have h':=List.pairwise_cons.1 h
    unfold YF
    split
    · rename_i h1
      refine List.pairwise_cons.2 ⟨fun u hu=>?_,Qas h'.2⟩
      rcases Qap hu with h2 | ⟨w,hw,e2⟩
      · omega
      · have:=h'.1 w hw;omega
    split
    · rename_i h1 h2
      exact List.pairwise_cons.2 ⟨fun u hu=>by have:=h'.1 u hu;simp only;omega,h'.2⟩
    · rename_i h1 h2
      refine List.pairwise_cons.2 ⟨fun u hu=>?_,h⟩
      rcases List.mem_cons.1 hu with rfl | hu
      · simp only;omega
      · have:=h'.1 u hu;simp only;omega
theorem Z5:∀ {L M:List Tm},Asc M→Asc (Xn L M)
  | [],M,h=>h
  | t::L,M,h=>Z5 (L:=L) (Qas h)
theorem Ud {Q:List Tm}:∀ {P M:List Tm},Asc M→Asc (XN P Q M)
  | [],M,h=>h
  | a::P,M,h=>Ud (P:=P) (Z5 h)
theorem Asc.can {M:List Tm} (h:Asc M):Can (M.filter nzT):=⟨List.Pairwise.filter _ h,fun t ht=>by simpa [nzT] using (List.mem_filter.1 ht).2⟩
theorem QdH {M:List Tm} (h:Asc M):Y8 M=JY∨(Y8 M).big=false∧Pok (Y8 M)∧(∀ g,S g (Y8 M).ts=S g M):=by
  unfold Y8
  split
  · rename_i ha
    refine .inr ⟨rfl,⟨by simp,h.can,fun t ht=>?_,fun t ht=>?_⟩,fun g=>S_nz g M⟩
    · have h2:=List.mem_filter.1 ht
      exact (ha t h2.1 (by simpa [nzT] using h2.2)).1
    · have h2:=List.mem_filter.1 ht
      exact (ha t h2.1 (by simpa [nzT] using h2.2)).2
  · exact .inl rfl
end Go.Proofs.YtofknpknogfijaaGreatDoor


namespace Go.Proofs.YtofknpknogfijaaGreatDoor
open Go.Ab
set_option linter.unusedVariables false
set_option linter.unusedSimpArgs false
set_option maxRecDepth 20000
set_option maxHeartbeats 8000000
attribute [local irreducible] Qj wA Xm Xk QI Qo QW QV
set_option linter.unusedSectionVars false
variable [HB]
def Wop (gf:FuncId) (w:Int→Int→Int):Prop:=∀ (h0:Qa) (a b:Int),a.natAbs≤cM→b.natAbs≤cM→(∃ r h',Cal FT HKt gf ([.sc (.int .i64 a),.sc (.int .i64 b)]++([]:List (Nat × Nat)).map fun p=>AV.sc (.ptr p.1 p.2)) h0 r h'∧r=.sc (.int .i64 (w a b))∧h'=h0)∧(w a b).natAbs≤2251799813685248
def mG (w:Int→Int→Int):List Tm→List Tm→List Tm:=mrg w
structure CbG (gf:FuncId) (h0 h:Qa) (q3 q4 q5 q6 q7 q8:Nat) (sp sq s:SV) (F:Bool) (r:List Tm):Prop where
  e:Ext h0 h
  c3:Cel h q3 (.bool false) sp
  c4:Cel h q4 (.bool false) sq
  c5:Cel1 h q5 (.fn gf [])
  c6:Cel h q6 (.bool false) .nilS
  c7:Cel h q7 (.bool false) s
  c8:Cel1 h q8 (.bool F)
  o:OwnD h0 h s (tms r)
  ord:h0.length≤q3∧q3 < q4∧q4 < q5∧q5 < q6∧q6 < q7∧q7 < q8
structure MgG (w:Int→Int→Int) (p q:List Tm) (i j:Nat) (F:Bool) (r:List Tm):Prop where
  eq:mG w p q=r++mG w (p.drop i) (q.drop j)
  ft:QaT (mG w p q)↔(F=true∧QaT (mG w (p.drop i) (q.drop j)))
  ln:r.length≤i+j
def J53 (w:Int→Int→Int) (gf:FuncId) (h0:Qa) (q3 q4 q5 q6 q7 q8:Nat) (sp sq:SV) (p q:List Tm) (E:Env) (h:Qa):Prop:=∃ (i j:Nat) (s:SV) (F:Bool) (r:List Tm),i≤p.length∧j≤q.length∧CbG gf h0 h q3 q4 q5 q6 q7 q8 sp sq s F r∧MgG w p q i j F r ∧
  E.keep [3,4,6,7,8,9,10,11]=[(3,some (.sc (.ptr q3 0))),(4,some (.sc (.ptr q4 0))),(6,some (.sc (.ptr q6 0))),(7,some (.sc (.ptr q7 0))),(8,some (.sc (.ptr q8 0))),(9,some (.sc (.fn 83 [(q5,0),(q8,0),(q7,0)]))),(10,some (.sc (.int .i64 (i:Nat)))),(11,some (.sc (.int .i64 (j:Nat))))]
def S53 (w:Int→Int→Int) (gf:FuncId) (h0:Qa) (q3 q4 q5 q6 q7 q8:Nat) (sp sq:SV) (p q:List Tm) (ex:Ex) (E:Env) (h:Qa):Prop:=ex=.ex 0∧∃ (s:SV) (F:Bool),CbG gf h0 h q3 q4 q5 q6 q7 q8 sp sq s F (mG w p q)∧(QaT (mG w p q)↔F=true)∧∃ a b c d e f,
  E=[(3,a),(4,b),(6,some (.sc (.ptr q6 0))),(7,some (.sc (.ptr q7 0))),(8,some (.sc (.ptr q8 0))),(9,c),(10,d),(11,e),(40,f)]
end Go.Proofs.YtofknpknogfijaaGreatDoor


namespace Go.Proofs.YtofknpknogfijaaGreatDoor
open Go.Ab
set_option linter.unusedVariables false
set_option linter.unusedSimpArgs false
set_option linter.unusedSectionVars false
variable [HB]
def mvL (f:Int→Int) (up:Bool) (l:List Tm):List Tm:=if up=true then l.map (fun t=>(f t.1,t.2)) else (l.map fun t=>(f t.1,t.2)).reverse
def Mvf (f:Int→Int) (up:Bool):Prop:=∀ a b,a < b→if up=true then f a < f b else f b < f a
def movP (f:Int→Int) (up:Bool) (p:Pol):Pol:=open Classical in
  if p.big=true then p else if ∀ t∈p.ts,(f t.1).natAbs≤eM then ⟨false,mvL f up p.ts⟩ else JY
def Bd (k:Nat) (l:List Tm):Prop:=∀ t∈l,t.1.natAbs≤k
end Go.Proofs.YtofknpknogfijaaGreatDoor


namespace Go.Proofs.YtofknpknogfijaaGreatDoor
open Go.Ab
set_option linter.unusedVariables false
set_option linter.unusedSimpArgs false
set_option maxRecDepth 20000
set_option maxHeartbeats 8000000
attribute [local irreducible] Qj wA Xm Xk QI Qo QW QV
set_option linter.unusedSectionVars false
variable [HB]
open Classical in
noncomputable def QiU (w:Int→Int→Int) (p q:Pol):Pol:=if p.big=true∨q.big=true then JY else if QaT (mG w p.ts q.ts) then ⟨false,mG w p.ts q.ts⟩ else JY
end Go.Proofs.YtofknpknogfijaaGreatDoor


namespace Go.Proofs.YtofknpknogfijaaGreatDoor
open Go.Ab
set_option linter.unusedVariables false
set_option linter.unusedSimpArgs false
set_option maxRecDepth 20000
set_option maxHeartbeats 8000000
attribute [local irreducible] Qj wA Xm Xk QI Qo QW QV
set_option linter.unusedSectionVars false
variable [HB]
def wSub (a b:Int):Int:=a-b
def wNeg (_ b:Int):Int := -b
noncomputable def subP (p q:Pol):Pol:=QiU wSub p q
noncomputable def negP (q:Pol):Pol:=QiU wNeg Qiw q
theorem Bd.mono {j k:Nat} {l:List Tm} (h:Bd j l) (hk:j≤k):Bd k l:=fun t ht=>Nat.le_trans (h t ht) hk
end Go.Proofs.YtofknpknogfijaaGreatDoor




namespace Go.Proofs.YtofknpknogfijaaGreatDoor
set_option linter.unusedVariables false
set_option linter.unusedSectionVars false
variable [HB]
theorem S_ng (g:Int→Int):∀ l:List Tm,S g (l.map ngT) = - S g l
  | []=>rfl
  | t::l=>by
    simp only [List.map_cons,S,ngT]
    rw [S_ng g l,Int.neg_mul];omega
theorem Qa8 {t:Tm} {r:List Tm} (h:Asc (t::r)):∀ u∈r,t.1 < u.1:=(List.pairwise_cons.1 h).1
theorem QcU:∀ {M:List Tm} {t:Tm},Asc M→t∈M→cf M t.1=t.2
  | u::r,t,h,ht=>by
    rcases List.mem_cons.1 ht with rfl | ht
    · rw [Ji,yl,JU fun v hv=>by have:=Qa8 h v hv;omega];omega
    · have:=Qa8 h t ht
      rw [Ji,U5 (by omega),QcU (List.pairwise_cons.1 h).2 ht];omega
theorem Qh4 {M:List Tm} (h:Asc M) (hb:∀ e,cf M e≠0→(cf M e).natAbs≤cM∧e.natAbs≤eM):(Y8 M).big=false:=by
  unfold Y8
  rw [if_pos]
  intro u hu h0
  have:=hb u.1
  rw [QcU h hu] at this
  exact this h0
theorem Qk2 {l:List Tm} (h:Can l):Can (l.map ngT) :=
  ⟨List.pairwise_map.2 (h.asc.imp fun {x y} hxy=>hxy),fun t ht=>by
    obtain ⟨u,hu,rfl⟩:=List.mem_map.1 ht
    have:=h.nz u hu
    show -u.2≠0
    omega⟩
theorem lo0_ng (l:List Tm):lo0 (l.map ngT)=lo0 l:=by cases l <;> rfl
def hd0 (l:List Tm):Int:=match l with
  | []=>0
  | t::_=>t.2
def shT (l:List Tm):List Tm:=l.map fun t=>(t.1-lo0 l,t.2)
def sgT (l:List Tm):List Tm:=if hd0 l < 0 then l.map ngT else l
def nrmP (p:Pol):Pol:=if p.big=true∨p.ts=[] then p else ⟨false,shT (sgT p.ts)⟩
def Sml (p:Pol):Prop:=∀ t∈p.ts,t.1.natAbs≤300
noncomputable def rfN (p:Pol):Pol:=if p.big=true∨p.ts=[] then p else if hd0 p.ts < 0 then ngP (Y8 (XN p.ts [(-lo0 p.ts,1)] [])) else Y8 (XN p.ts [(-lo0 p.ts,1)] [])
end Go.Proofs.YtofknpknogfijaaGreatDoor





namespace Go.Proofs.YtofknpknogfijaaGreatDoor
open Go.Ab
set_option linter.unusedVariables false
set_option linter.unusedSimpArgs false
set_option linter.unusedSectionVars false
variable [HB]
def UE (f:Nat→List Nat→Int) (cs:List Nat):Nat→Int
  | 0=>0
  | k+1=>UE f cs k+if k%2=1 then-f (cs.getD k 0) (cs.eraseIdx k) else f (cs.getD k 0) (cs.eraseIdx k)
theorem Va {c:Nat} {cs:List Nat} {f:Nat→List Nat→Int}:∀ {k:Nat},UE f (c::cs) (k+1)=f c cs-UE (fun d ds=>f d (c::ds)) cs k
  | 0=>by simp [UE]
  | k+1=>by
    rw [UE,Va (k:=k)]
    conv=>rhs;rw [UE]
    simp only [List.getD_cons_succ,List.eraseIdx_cons_succ]
    by_cases h:k%2=1
    · rw [if_pos h,if_neg (by omega)];omega
    · rw [if_neg h,if_pos (by omega)];omega
theorem Qba:∀ {cs:List Nat} {f:Nat→List Nat→Int},UE f cs cs.length=alt f cs
  | [],_=>rfl
  | c::cs,f=>by rw [List.length_cons,Va,Qba];rfl
structure GP (f:Int→Int) (p:Pol):Prop where
  nb:p.big=false
  can:Can p.ts
  cf:∀ e,cf p.ts e=f e
def FB (K B:Nat) (f:Int→Int):Prop:=∀ e,f e≠0→e.natAbs≤K∧(f e).natAbs≤B
theorem GP.bd {f:Int→Int} {p:Pol} {K B:Nat} (g:GP f p) (h:FB K B f):∀ t∈p.ts,t.1.natAbs≤K∧t.2.natAbs≤B:=fun t ht=>by
  have e:=Uq g.can ht
  have nz:=g.can.nz t ht
  rw [g.cf] at e
  rw [← e] at nz ⊢
  exact h _ nz
theorem GP.len {f:Int→Int} {p:Pol} {K B:Nat} (g:GP f p) (h:FB K B f):p.ts.length≤2*K+1 :=
  zy g.can (lo := -(K:Int)) fun t ht=>by have:=(g.bd h t ht).1;omega
theorem GP.eq {f:Int→Int} {p q:Pol} (a:GP f p) (b:GP f q):p=q:=by
  obtain ⟨pb,pt⟩:=p
  obtain ⟨qb,qt⟩:=q
  have h1:=a.nb
  have h2:=b.nb
  simp only at h1 h2
  subst h1;subst h2
  congr 1
  exact Can.ext a.can b.can fun e=>(a.cf e).trans (b.cf e).symm
theorem GP.cong {f g:Int→Int} {p:Pol} (a:GP f p) (h:∀ e,f e=g e):GP g p:=⟨a.nb,a.can,fun e=>(a.cf e).trans (h e)⟩
theorem GP.ofCol {M:List Tm} {f:Int→Int} (as0:Asc M) (h:∀ e,Go.Proofs.YtofknpknogfijaaGreatDoor.cf M e=f e) (hb:FB eM cM f):GP f (Y8 M):=by
  have nb:(Y8 M).big=false:=Qh4 as0 fun e he=>by
    rw [h] at he ⊢
    exact ⟨(hb e he).2,(hb e he).1⟩
  rcases QdH as0 with e | ⟨-,k,hs⟩
  · rw [e] at nb;cases nb
  · exact ⟨nb,k.can,fun e=>(hs (dl e)).trans (h e)⟩
theorem Qcv {q:List Tm} {f:Int→Int} (h:∀ e,cf q e=f e) (e:Int):∀ l:List Tm,mc l q e=YW l f e
  | []=>rfl
  | t::l=>by rw [QhJ,Qcv h e l,h];rfl
theorem VM {f:Int→Int} {p:Pol} (g:GP f p) (l:List Tm) (hb:FB eM cM (YW l f)):GP (YW l f) (Y8 (XN l p.ts [])) :=
  GP.ofCol (Ud (show Asc [] from .nil)) (fun e=>by
    show S (dl e) _=_
    rw [Qbb]
    show 0+mc l p.ts e=_
    rw [Int.zero_add,Qcv g.cf]) hb
theorem gp_ng {f:Int→Int} {p:Pol} (g:GP f p):GP (fun e => - f e) (ngP p) :=
  ⟨g.nb,Qk2 g.can,fun e=>by
    show S (dl e) (p.ts.map ngT)=_
    rw [S_ng]
    show-Go.Proofs.YtofknpknogfijaaGreatDoor.cf p.ts e=_
    rw [g.cf]⟩
theorem Qfe {f g:Int→Int} {p q:Pol} (a:GP f p) (b:GP g q) (hb:FB eM cM fun e=>f e+g e):GP (fun e=>f e+g e) (Uy p q):=by
  have e:Uy p q=Y8 (Xn q.ts (Xn p.ts [])):=by unfold Uy;rw [if_neg (by rw [a.nb,b.nb];simp)]
  rw [e]
  exact GP.ofCol (Z5 (Z5 (show Asc [] from .nil))) (fun e=>by
    show S (dl e) _=_
    rw [yr,yr]
    show 0+Go.Proofs.YtofknpknogfijaaGreatDoor.cf p.ts e+Go.Proofs.YtofknpknogfijaaGreatDoor.cf q.ts e=_
    rw [a.cf,b.cf,Int.zero_add]) hb
theorem QhR:GP (fun _=>0) ⟨false,[]⟩:=⟨rfl,.nil,fun _=>rfl⟩
theorem FB.mono {K K' B B':Nat} {f:Int→Int} (h:FB K B f) (h1:K≤K') (h2:B≤B'):FB K' B' f:=fun e he=>⟨Nat.le_trans (h e he).1 h1,Nat.le_trans (h e he).2 h2⟩
theorem Qfz {K:Nat}:∀ {rows:List (List (List Tm))} {cs:List Nat} {e:Int},(∀ r∈rows,∀ l∈r,∀ t∈l,t.1.natAbs≤K)→K*rows.length < e.natAbs→dL rows cs e=0
  | [],cs,e,_,h=>by
    simp only [dL]
    rw [if_neg (by simp at h;omega)]
  | r::rs,cs,e,hb,h=>by
    simp only [dL]
    simp only [List.length_cons,Nat.mul_add] at h
    refine Uw fun c ds _ _=>JS fun t ht=>?_
    have hm:r.getD c []∈r∨r.getD c []=[]:=by
      rw [List.getD_eq_getElem?_getD]
      rcases h:r[c]? with _ | x
      · exact .inr rfl
      · exact .inl (List.mem_of_getElem? h)
    rcases hm with hm | hm
    · have:=hb r (.head _) _ hm t ht
      exact Qfz (fun q hq=>hb q (.tail _ hq)) (by omega)
    · rw [hm] at ht;cases ht
structure EOk (p:Pol):Prop where
  nb:p.big=false
  can:Can p.ts
  len:p.ts.length≤3
  bd:∀ t∈p.ts,t.1.natAbs≤12∧t.2.natAbs≤4
theorem Qab {B:Nat}:∀ {l:List Tm},(∀ t∈l,t.2.natAbs≤B)→Yr l≤l.length*B
  | [],_=>by simp [Yr]
  | t::l,h=>by
    have:=Qab (l:=l) fun u hu=>h u (.tail _ hu)
    have:=h t (.head _)
    simp only [Yr,List.length_cons,Nat.add_mul];omega
theorem EOk.sum {p:Pol} (k:EOk p):Yr p.ts≤12:=by
  have:=Qab (B:=4) fun t ht=>(k.bd t ht).2
  have:=k.len
  omega
theorem V4 {r:List Pol} (h:∀ p∈r,EOk p):XT (rT r)≤r.length*12:=by
  unfold rT
  induction r with
  | nil=>simp [XT]
  | cons p r ih =>
    have:=ih fun q hq=>h q (.tail _ hq)
    have:=(h p (.head _)).sum
    simp only [List.map_cons,XT,List.length_cons,Nat.add_mul];omega
theorem Qcn {B:Nat}:∀ {l:List Nat},(∀ x∈l,x≤B)→l.foldr (·*·) 1≤B ^ l.length
  | [],_=>by simp
  | x::l,h=>by
    rw [List.foldr_cons,List.length_cons,Nat.pow_succ,Nat.mul_comm (B ^ _)]
    exact Nat.mul_le_mul (h x (.head _)) (Qcn fun y hy=>h y (.tail _ hy))
structure ROk (n:Nat) (rows:List (List Pol)):Prop where
  n4:n≤4
  len:∀ r∈rows,r.length=n
  ok:∀ r∈rows,∀ p∈r,EOk p
theorem ROk.tail {n:Nat} {r:List Pol} {rs:List (List Pol)} (k:ROk n (r::rs)):ROk n rs:=⟨k.n4,fun q hq=>k.len q (.tail _ hq),fun q hq=>k.ok q (.tail _ hq)⟩
theorem ROk.fb {n:Nat} {rows:List (List Pol)} (k:ROk n rows) {cs:List Nat} (hs:cs.Sublist (List.range' 0 n)):FB (12*rows.length) (48 ^ rows.length) (dL (rows.map rT) cs):=by
  intro e he
  constructor
  · refine Decidable.byContradiction fun hn=>he (Qfz (K:=12) (fun r hr l hl t ht=>?_) ?_)
    · obtain ⟨q,hq,rfl⟩:=List.mem_map.1 hr
      obtain ⟨p,hp,rfl⟩:=List.mem_map.1 hl
      exact ((k.ok q hq p hp).bd t ht).1
    · rw [List.length_map];omega
  · refine Nat.le_trans (QcK (n:=n) hs fun r hr=>?_) ?_
    · obtain ⟨q,hq,rfl⟩:=List.mem_map.1 hr
      unfold rT;rw [List.length_map];exact k.len q hq
    · have:=Qcn (B:=48) (l:=(rows.map rT).map XT) fun x hx=>by
        obtain ⟨y,hy,rfl⟩:=List.mem_map.1 hx
        obtain ⟨q,hq,rfl⟩:=List.mem_map.1 hy
        have:=V4 (k.ok q hq)
        rw [k.len q hq] at this
        have:=k.n4
        omega
      simpa using this
abbrev xp (r:List Pol) (rs:List (List Pol)) (e:Int) (c:Nat) (ds:List Nat):Int:=YW ((rT r).getD c []) (dL (rs.map rT) ds) e
theorem dL_xp {r:List Pol} {rs:List (List Pol)} {cs:List Nat} {e:Int}:dL ((r::rs).map rT) cs e=UE (xp r rs e) cs cs.length:=by rw [Qba];rfl
end Go.Proofs.YtofknpknogfijaaGreatDoor


