/- The determinant: the function. -/
import Derived.Test.YtofknpknogfijaaGreatDoorDE4
import Derived.Test.YtofknpknogfijaaGreatDoorDE1
import Derived.Test.YtofknpknogfijaaGreatDoorPE
import Derived.Test.YtofknpknogfijaaGreatDoorAb50
namespace Go.Proofs.YtofknpknogfijaaGreatDoor
open Go.Ab
set_option linter.unusedVariables false
set_option linter.unusedSimpArgs false
set_option maxRecDepth 20000
set_option maxHeartbeats 4000000
attribute [local irreducible] Qi wA Xk Xj Qz Qo QS QV
set_option linter.unusedSectionVars false
variable [HB]
theorem Qdr {l:List Tm} (hl:l≠[]) (nz:∀ t∈l,t.2≠0):0 < YA l:=by
  cases l with
  | nil=>exact absurd rfl hl
  | cons t l =>
    have:=nz t (.head _)
    simp only [YA];omega
theorem Vw {l:List Tm}:∀ {r:List (List Tm)},l∈r→YA l≤XU r
  | x::r,h=>by
    simp only [XU]
    rcases List.mem_cons.1 h with rfl | h
    · omega
    · have:=Vw h;omega
theorem Qdk {r:List Pol} (ca:∀ p∈r,Can p.ts) (h:Y2 r≠none):0 < XU (esR r):=by
  have:=Vt ca
  cases hb:Y2 r with
  | none=>exact absurd hb h
  | some x =>
    rw [hb] at this
    obtain ⟨-,-,⟨p,hp,t,ht,-⟩,-⟩:=this
    have hm:shL (bF r) p.ts∈esR r:=List.mem_map.2 ⟨p,hp,rfl⟩
    refine Nat.lt_of_lt_of_le (Qdr (l:=shL (bF r) p.ts) (fun e=>?_) fun u hu=>?_) (Vw hm)
    · have:p.ts=[]:=List.map_eq_nil_iff.1 e
      rw [this] at ht;cases ht
    · obtain ⟨v,hv,rfl⟩:=List.mem_map.1 hu
      exact (ca p hp).nz v hv
theorem Qf3 {m:List (List Pol)} (hs:∀ r∈m,bF r≤bS r):∀ {n i:Nat},i < n→n≤m.length→bS (m.getD i [])-bF (m.getD i [])≤Jp m n∧0≤Jp m n:=by
  have ps:∀ i,i < m.length→0≤bS (m.getD i [])-bF (m.getD i []):=fun i hi=>by
    have hm:m.getD i []∈m:=by rw [List.getD_eq_getElem?_getD,List.getElem?_eq_getElem hi];exact List.getElem_mem _
    have:=hs _ hm;omega
  intro n
  induction n with
  | zero=>intro i h;omega
  | succ n ih =>
    intro i hi hn
    have e:Jp m (n+1)=Jp m n+(bS (m.getD n [])-bF (m.getD n [])):=rfl
    have p1:=ps n (by omega)
    have p0:0≤Jp m n:=by
      cases n with
      | zero=>exact Int.le_refl _
      | succ k=>exact (ih (i:=0) (by omega) (by omega)).2
    rcases Nat.lt_or_ge i n with h | h
    · have:=ih h (by omega);omega
    · obtain rfl:i=n:=by omega
      omega
theorem QgT {m:List (List Pol)} (hs:∀ r∈m,bF r≤bS r):0≤Jp m m.length:=by
  cases h:m.length with
  | zero=>exact Int.le_refl _
  | succ n=>exact (Qf3 hs (i:=0) (n:=n+1) (by omega) (by omega)).2
structure DOk (b:Nat) (m:List (List Pol)):Prop where
  n:m.length≤1000
  sq:∀ r∈m,r.length=m.length
  ok:∀ r∈m,∀ p∈r,Can p.ts∧p.big=false∧p.ts.length≤100000∧∀ t∈p.ts,t.1.natAbs≤50000∧t.2.natAbs≤cM
  bb:b≤60∧b*m.length≤118
  w:∀ r∈m,XU (esR r) < 2 ^ b
  deg:Jp m m.length≤65536
theorem DOk.ca {b:Nat} {m:List (List Pol)} (k:DOk b m) {r:List Pol} (hr:r∈m):∀ p∈r,Can p.ts:=fun p hp=>(k.ok r hr p hp).1
theorem DOk.bd {b:Nat} {m:List (List Pol)} (k:DOk b m) {r:List Pol} (hr:r∈m):bF r≤bS r∧(bF r).natAbs≤50000∧(bS r).natAbs≤50000∧∀ p∈r,∀ t∈p.ts,bF r≤t.1∧t.1≤bS r :=
  bFS (k.ca hr) fun p hp t ht=>((k.ok r hr p hp).2.2.2 t ht).1
theorem QjF (b deg:Nat) (m:List (List Pol)) (ms:SV) (d:Nat→Int) (h0:Qa) (pm:PolMx h0 ms m) (k:DOk b m) (hdeg:Jp m m.length=(deg:Int))
    (hD:∀ x:Int,D ((m.map esR).map (evR x)) (List.range' 0 m.length)=sm (deg+1) fun j=>d j*x ^ j) (hdb:∀ j,(d j).natAbs≤((m.map esR).map XU).foldr (·*·) 1) :
    ∃ r h',Cal FT HKt 40 [.sc ms] h0 r h'∧Ext h0 h' ∧
      (((∃ j,j < m.length∧Y2 (m.getD j [])=none∧m.getD j []≠[])∧r=.tup [.agg [.bool false,.nilS],.sc (.bool true)]) ∨
       ((∀ r∈m,Y2 r≠none)∧(((∀ j,j≤deg→(d j).natAbs≤cM)∧∃ s,r=.tup [.agg [.bool (ofP (ZG m m.length) ((List.range (deg+1)).map d)).big,s],.sc (.bool true)]∧IsD h' s (tms (ofP (ZG m m.length) ((List.range (deg+1)).map d)).ts)) ∨
        ((∃ j,j≤deg∧cM < (d j).natAbs)∧r=.tup [.agg [.bool false,.nilS],.sc (.bool false)])))):=by
  refine Cal.of (F:=a40) rfl rfl rfl ?_
  have hn:=k.n
  have lm:=pm.len
  have bd:=fun r (hr:r∈m)=>k.bd hr
  repeat' (first | refine Qh ?_ | refine Qb ?_ | refine Qt ?_ | refine Qf ?_ | ((refine Qe ?_);first | refine Qv rfl rfl ?_ | refine Qy rfl rfl rfl ?_ | refine QU rfl rfl rfl rfl rfl ?_ | refine Q5 rfl rfl rfl rfl rfl rfl rfl rfl ?_) | ((refine Qc ?_);first | (refine Xm ?_;intro h1 e1 c2) | refine QA rfl lm ?_ | (refine Qhx rfl rfl (by omega) ?_;intro h2 e2 b4) | refine Qp rfl ?_))
  rw [← UC (f:=fun j=>bF (m.getD j []))] at b4
  refine Q2 (I40a m ms h0.length h1.length h1) m.length (R40a m ms h0.length h1.length h0 h1) ⟨0,Nat.zero_le _,rfl,e2,b4,fun j hj=>absurd hj (Nat.not_lt_zero _),rfl⟩
    (QdJ m ms h0.length h1.length h0 h1 e1 hn (pm.ext e1) c2 (Nat.le_refl _) (Nat.le_refl _) fun r hr=>⟨by rw [k.sq r hr];omega,fun p hp=>⟨(k.ok r hr p hp).2.1,(k.ok r hr p hp).2.2.1⟩,by have:=bd r hr;omega,by have:=bd r hr;omega⟩) ?_
  rintro ex E' h3 (⟨rfl,x3,b3,hall,_,_,_,_,rfl⟩ | ⟨rfl,x3,c3,hz,rfl⟩)
  · have c23:=c2.ext x3
    have hdg:Jp m m.length < 131072:=by rw [hdeg];have:=k.deg;omega
    have hlow:(ZG m m.length).natAbs≤1000*50000:=by
      refine Nat.le_trans (Uh (B:=50000) fun j hj=>?_) (Nat.mul_le_mul_right _ hn)
      have hm:m.getD j []∈m:=by rw [List.getD_eq_getElem?_getD,List.getElem?_eq_getElem hj];exact List.getElem_mem _
      exact (bd _ hm).2.1
    have lm3:=lm
    have nz:∀ r∈m,Y2 r≠none:=fun r hr=>by
      obtain ⟨j,hj⟩:=List.mem_iff_getElem?.1 hr
      have hj2:=(List.getElem?_eq_some_iff.1 hj).1
      have er:m.getD j []=r:=by rw [List.getD_eq_getElem?_getD,hj];rfl
      rcases hall j hj2 with h | h
      · rw [← er];exact h
      · exfalso
        have:=k.sq r hr
        rw [← er,h] at this
        simp at this;omega
    rw [hdeg] at hdg ⊢
    generalize hL:ZG m m.length=low at *
    repeat' (first | refine Qh ?_ | refine Qb ?_ | refine Qt ?_ | refine QE ?_ | refine Qn ?_ | refine Qf ?_ | ((refine Qg ?_);refine Qj rfl ?_) | ((refine Qe ?_);first | refine QM rfl rfl rfl rfl rfl rfl ?_ | refine Q5 rfl rfl rfl rfl rfl rfl rfl rfl ?_) | ((refine Qc ?_);first | refine QA rfl lm ?_ | (refine Qhw rfl rfl (by omega) ?_;intro h4 e4 b14) | refine Xv rfl rfl (by omega) ?_ | refine Qp rfl ?_))
    have x4:=e1.trans x3
    refine Q2 (I40d (m.map esR) ms h0.length h1.length h3.length m.length (.sc (.int .i64 low)) (.sc (.int .i64 (deg:Nat))) h3) m.length (R40d (m.map esR) h0.length h1.length h3.length m.length (.sc (.int .i64 low)) (.sc (.int .i64 (deg:Nat))) h3)
      ⟨0,Nat.zero_le _,rfl,⟨e4,[],rfl,by simpa using b14,fun j s r a=>by simp at a⟩,rfl⟩
      (QdG m ms h0.length h1.length h3.length m.length _ _ h3 (pm.ext (e1.trans x3)) rfl hn b3 (Nat.le_refl _) fun r hr=>⟨by rw [k.sq r hr];omega,by have:=bd r hr;omega,fun p hp=>⟨(k.ok r hr p hp).1,(k.ok r hr p hp).2.1,(k.ok r hr p hp).2.2.1,fun t ht=>by have:=((k.ok r hr p hp).2.2.2 t ht).1;omega⟩⟩) ?_
    rintro ex E' h5 ⟨rfl,j5,_,_,_,_,rfl⟩
    have ee:=j5.done (by simp)
    have hd2:deg≤65536:=by have:=k.deg;omega
    have k77:=Qjv m.length deg b d h5 (.slc h3.length 0 m.length (some m.length)) (m.map esR) hd2 hn k.bb ee (by simp) (fun r hr=>by
        obtain ⟨q,hq,rfl⟩:=List.mem_map.1 hr
        refine ⟨by unfold esR;rw [List.length_map];exact k.sq q hq,fun l hl=>⟨?_,fun t ht=>?_⟩⟩
        · obtain ⟨p,hp,rfl⟩:=List.mem_map.1 hl
          unfold shL;rw [List.length_map]
          have:=(k.ok q hq p hp).2.2.1;omega
        · have:=QeB (k.ca hq) (fun p hp t ht=>((k.ok q hq p hp).2.2.2 t ht).1) (fun p hp t ht=>((k.ok q hq p hp).2.2.2 t ht).2) l hl t ht
          have:=bd q hq
          omega) (fun r hr=>by
        obtain ⟨q,hq,rfl⟩:=List.mem_map.1 hr
        exact ⟨Qdk (k.ca hq) (nz q hq),k.w q hq⟩) hD hdb
    have c25:=c23.ext j5.x
    obtain ⟨v7,h7,cal7,x7,res⟩:=k77
    rcases res with ⟨s7,rfl,i7,ok7⟩ | ⟨rfl,bad⟩
    · have hwc:∀ x∈(List.range (deg+1)).map d,-9223372036854775808≤x∧x≤9223372036854775807:=fun x hx=>by
        obtain ⟨j,hj,rfl⟩:=List.mem_map.1 hx
        rw [List.mem_range] at hj
        have:=ok7 j (by omega)
        have hcM:cM=1125899906842624:=rfl
        omega
      have k20:=QjK h7 low (by omega) s7 ((List.range (deg+1)).map d) (by simp;omega) i7 hwc
      have c27:=c25.ext x7
      repeat' (first | refine Qh ?_ | refine Qb ?_ | refine QE ?_ | refine Qn ?_ | refine Qs ?_ | refine Qf ?_ | ((refine Qg ?_);refine Qj rfl ?_) | ((refine Qe ?_);first | refine Qv rfl rfl ?_ | refine QQ rfl rfl rfl rfl ?_) | ((refine Qc ?_);first | (refine Qm (R:=fun v h=>v=_∧h=h7) rfl ⟨_,_,cal7,rfl,rfl⟩ ?_;rintro v h ⟨rfl,rfl⟩) | (refine Qm rfl k20 ?_;rintro v8 h8 ⟨e8,s8,rfl,d8⟩;have c28:=c27.ext e8) | (refine Xu rfl rfl c28 ?_;intro h9 w9) | refine Qp rfl ?_ | refine XQ rfl ?_ | refine XF rfl rfl ?_))
      refine ⟨.inr rfl,Zf rfl w9.cel.read rfl ⟨w9.ext (((x4.trans j5.x).trans x7).trans e8) (Nat.le_refl _),.inr ⟨nz,.inl ⟨ok7,s8,rfl,d8.wrC w9⟩⟩⟩⟩
    · have c27:=c25.ext x7
      repeat' (first | refine Qh ?_ | refine Qb ?_ | refine QF ?_ | refine QE ?_ | refine Qs ?_ | refine Qf ?_ | ((refine Qg ?_);refine Qk rfl ?_) | ((refine Qe ?_);first | refine Qv rfl rfl ?_ | refine QQ rfl rfl rfl rfl ?_) | ((refine Qc ?_);first | (refine Qm (R:=fun v h=>v=_∧h=h7) rfl ⟨_,_,cal7,rfl,rfl⟩ ?_;rintro v h ⟨rfl,rfl⟩) | refine Y0 rfl rfl ?_ | (refine Xu rfl rfl c27 ?_;intro h9 w9) | refine Qp rfl ?_ | refine XW rfl ?_ | refine XF rfl rfl ?_))
      exact ⟨.inr rfl,Zf rfl w9.cel.read rfl ⟨w9.ext ((x4.trans j5.x).trans x7) (Nat.le_refl _),.inr ⟨nz,.inr ⟨bad,rfl⟩⟩⟩⟩
  · repeat' (first | refine QF ?_ | refine Xg ?_)
    exact ⟨.inr rfl,Zf rfl c3.read rfl ⟨x3,.inl ⟨hz,rfl⟩⟩⟩
end Go.Proofs.YtofknpknogfijaaGreatDoor


namespace Go.Proofs.YtofknpknogfijaaGreatDoor
open Go.Ab
set_option linter.unusedVariables false
set_option linter.unusedSimpArgs false
set_option linter.unusedSectionVars false
variable [HB]
def X7:List Tm→(Int→Int)→Int→Int
  | [],_,_=>0
  | t::l,f,e=>t.2*f (e-t.1)+X7 l f e
def dL:List (List (List Tm))→List Nat→Int→Int
  | [],_,e=>if e=0 then 1 else 0
  | r::rs,cs,e=>alt (fun c ds=>X7 (r.getD c []) (dL rs ds) e) cs
theorem V1 {f g:Int→Int}:∀ {l:List Tm} {e:Int},(∀ t∈l,f (e-t.1)=g (e-t.1))→X7 l f e=X7 l g e
  | [],_,_=>rfl
  | t::l,e,h=>by
    simp only [X7]
    rw [h t (.head _),V1 fun u hu=>h u (.tail _ hu)]
theorem Z3 {f:Int→Int}:∀ {l:List Tm} {e:Int},(∀ t∈l,f (e-t.1)=0)→X7 l f e=0
  | [],_,_=>rfl
  | t::l,e,h=>by
    simp only [X7]
    rw [h t (.head _),Z3 fun u hu=>h u (.tail _ hu),Int.mul_zero];rfl
theorem U4 {f:Int→Int} {B:Nat} (h:∀ e,(f e).natAbs≤B):∀ {l:List Tm} {e:Int},(X7 l f e).natAbs≤YA l*B
  | [],_=>by simp [X7,YA]
  | t::l,e=>by
    simp only [X7,YA]
    have h1:=U4 h (l:=l) (e:=e)
    have h2:(t.2*f (e-t.1)).natAbs≤t.2.natAbs*B:=by rw [Int.natAbs_mul];exact Nat.mul_le_mul_left _ (h _)
    rw [Nat.add_mul];omega
theorem Qfq:∀ {cs:List Nat} {f:Nat→List Nat→Int} {g:Nat→Nat},(∀ c ds,c∈cs→ds.Sublist cs→(f c ds).natAbs≤g c)→(alt f cs).natAbs≤(cs.map g).sum
  | [],_,_,_=>Nat.le_refl _
  | c::cs,f,g,h=>by
    simp only [alt,List.map_cons,List.sum_cons]
    have h1:=h c cs (.head _) (List.sublist_cons_self c cs)
    have h2:=Qfq (f:=fun d ds=>f d (c::ds)) (g:=g) fun d ds hd hs=>h d (c::ds) (.tail _ hd) (hs.cons_cons c)
    omega
theorem QaA:∀ {cs:List Nat} {f:Nat→List Nat→Int},(∀ c ds,c∈cs→ds.Sublist cs→f c ds=0)→alt f cs=0
  | [],_,_=>rfl
  | c::cs,f,h=>by
    simp only [alt]
    rw [h c cs (.head _) (List.sublist_cons_self c cs),QaA fun d ds hd hs=>h d (c::ds) (.tail _ hd) (hs.cons_cons c)];rfl
theorem UO {g:Nat→Nat}:∀ {us vs:List Nat},us.Sublist vs→(us.map g).sum≤(vs.map g).sum
  | _,_,.slnil=>Nat.le_refl _
  | _,_,.cons a h=>by have:=UO (g:=g) h;simp only [List.map_cons,List.sum_cons];omega
  | _,_,.cons_cons a h=>by have:=UO (g:=g) h;simp only [List.map_cons,List.sum_cons];omega
theorem qz:∀ {r:List (List Tm)},XU r=(r.map YA).sum
  | []=>rfl
  | l::r=>by simp only [XU,List.map_cons,List.sum_cons,qz (r:=r)]
theorem QeM {r:List (List Tm)}:((List.range' 0 r.length).map fun c=>YA (r.getD c [])).sum=XU r:=by
  rw [qz]
  congr 1
  apply List.ext_getElem?
  intro i
  rw [List.getElem?_map,List.getElem?_map]
  rcases Nat.lt_or_ge i r.length with h | h
  · rw [List.getElem?_range' h,List.getElem?_eq_getElem h]
    simp [List.getD_eq_getElem?_getD,List.getElem?_eq_getElem h]
  · rw [List.getElem?_eq_none (by simpa using h),List.getElem?_eq_none (by omega)];rfl
theorem QbP {g:Nat→Nat} {B:Nat}:∀ {cs:List Nat},(cs.map fun c=>g c*B).sum=(cs.map g).sum*B
  | []=>by simp
  | c::cs=>by simp only [List.map_cons,List.sum_cons,QbP (cs:=cs),Nat.add_mul]
theorem QeL {n:Nat}:∀ {rows:List (List (List Tm))} {cs:List Nat} {e:Int},cs.Sublist (List.range' 0 n)→(∀ r∈rows,r.length=n)→(dL rows cs e).natAbs≤(rows.map XU).foldr (·*·) 1
  | [],cs,e,_,_=>by simp only [dL];split <;> simp
  | r::rs,cs,e,hs,hl=>by
    simp only [dL,List.map_cons,List.foldr_cons]
    refine Nat.le_trans (Qfq (g:=fun c=>YA (r.getD c [])*(rs.map XU).foldr (·*·) 1) fun c ds hc hd=>U4 fun e=>QeL (hd.trans hs) fun q hq=>hl q (.tail _ hq)) ?_
    rw [QbP]
    refine Nat.mul_le_mul_right _ ?_
    have:=UO (g:=fun c=>YA (r.getD c [])) hs
    rwa [← hl r (.head _),QeM] at this
theorem Vn {α:Type} (f:α→List (List Tm)) (k:α→Int):∀ {m:List α} {cs:List Nat} {e:Int},(∀ r∈m,∀ l∈f r,∀ t∈l,0≤t.1∧t.1≤k r)→e < 0∨(m.map k).sum < e→dL (m.map f) cs e=0
  | [],cs,e,_,h=>by
    simp only [List.map_nil,List.sum_nil] at h
    simp only [List.map_nil,dL]
    rw [if_neg (by omega)]
  | r::m,cs,e,hb,h=>by
    simp only [List.map_cons,List.sum_cons] at h
    simp only [List.map_cons,dL]
    refine QaA fun c ds _ _=>Z3 fun t ht=>?_
    have hm:(f r).getD c []∈f r∨(f r).getD c []=[]:=by
      rw [List.getD_eq_getElem?_getD]
      rcases h:(f r)[c]? with _ | x
      · exact .inr rfl
      · exact .inl (List.mem_of_getElem? h)
    rcases hm with hm | hm
    · have:=hb r (.head _) _ hm t ht
      exact Vn f k (fun q hq=>hb q (.tail _ hq)) (by omega)
    · rw [hm] at ht;cases ht
theorem VH {a:Nat} {f:Nat→Int}:∀ {n:Nat},sm (a+n) f=sm a f+sm n fun i=>f (a+i)
  | 0=>by simp [sm]
  | n+1=>by
    have e:sm (a+(n+1)) f=sm (a+n) f+f (a+n):=rfl
    rw [e,VH (n:=n)]
    simp only [sm];omega
theorem Qdy {x:Int} {f:Int→Int} {a M N:Nat} (h:a+M≤N) (hz:∀ e,e < 0∨(M:Int) < e→f e=0):sm (N+1) (fun j=>f ((j:Int)-(a:Int))*x ^ j)=x ^ a*sm (M+1) fun j=>f (j:Int)*x ^ j:=by
  rw [QdB (n:=a+(M+1)) _ (by omega) fun j hj=>by rw [hz _ (by omega),Int.zero_mul],VH]
  rw [YO (n:=a) (g:=fun _=>0) fun i hi=>by rw [hz _ (by omega),Int.zero_mul],sm_zero,Int.zero_add,← JB]
  refine YO fun i hi=>?_
  rw [show ((a+i:Nat):Int)-(a:Int)=(i:Int) by omega,Int.pow_add,Int.mul_left_comm]
theorem QbU {x:Int} {f:Int→Int} {M N:Nat} (hz:∀ e,e < 0∨(M:Int) < e→f e=0):∀ {l:List Tm},(∀ t∈l,0≤t.1∧t.1+M≤N)→sm (N+1) (fun j=>X7 l f (j:Int)*x ^ j)=evT x l*sm (M+1) fun j=>f (j:Int)*x ^ j
  | [],_=>by
    simp only [evT,Int.zero_mul]
    rw [YO (g:=fun _=>0) fun i _=>by simp [X7],sm_zero]
  | t::l,h=>by
    have h1:=h t (.head _)
    have ih:=QbU (x:=x) hz (l:=l) fun u hu=>h u (.tail _ hu)
    have e:sm (N+1) (fun j=>X7 (t::l) f (j:Int)*x ^ j)=t.2*sm (N+1) (fun j=>f ((j:Int)-(t.1.toNat:Int))*x ^ j)+sm (N+1) (fun j=>X7 l f (j:Int)*x ^ j):=by
      rw [← JB,← QaH]
      refine YO fun i hi=>?_
      simp only [X7]
      rw [Int.add_mul,Int.mul_assoc,Int.toNat_of_nonneg h1.1]
    rw [e,ih,Qdy (x:=x) (by omega) hz]
    simp only [evT]
    rw [Int.add_mul,Int.mul_assoc]
theorem QjW {cs:List Nat} {n:Nat} {F:Nat→List Nat→Nat→Int}:alt (fun c ds=>sm n (F c ds)) cs=sm n fun j=>alt (fun c ds=>F c ds j) cs:=by
  induction n with
  | zero=>exact ZE
  | succ n ih=>simp only [sm];rw [zl,ih]
theorem Qfo (k:Int) {cs:List Nat} {f:Nat→List Nat→Int}:alt (fun c ds=>f c ds*k) cs=alt f cs*k:=by
  rw [Int.mul_comm,← Jr];exact Y6 fun c ds=>Int.mul_comm _ _
theorem QhC {α:Type} (f:α→List (List Tm)) (k:α→Int) (x:Int):∀ {m:List α} {cs:List Nat} {N:Nat},(∀ r∈m,0≤k r∧∀ l∈f r,∀ t∈l,0≤t.1∧t.1≤k r)→(m.map k).sum≤N→D ((m.map f).map (evR x)) cs=sm (N+1) fun j=>dL (m.map f) cs (j:Int)*x ^ j
  | [],cs,N,_,_=>by
    simp only [List.map_nil,dL,D]
    rw [YO (g:=fun i=>if i=0 then 1 else 0) fun i hi=>?_,QdA 0 1 (by omega)]
    by_cases h:i=0
    · subst h;simp
    · rw [if_neg h,if_neg (by omega),Int.zero_mul]
  | r::m,cs,N,hb,hN=>by
    simp only [List.map_cons,List.sum_cons] at hN
    have hk:=hb r (.head _)
    have hs0:0≤(m.map k).sum:=by
      have:∀ {m:List α},(∀ r∈m,0≤k r)→0≤(m.map k).sum:=by
        intro m
        induction m with
        | nil=>intro _;exact Int.le_refl _
        | cons q m ih=>intro h;have:=h q (.head _);have:=ih fun r hr=>h r (.tail _ hr);simp only [List.map_cons,List.sum_cons];omega
      exact this fun q hq=>(hb q (.tail _ hq)).1
    have hbt:=fun q (hq:q∈m)=>hb q (.tail _ hq)
    simp only [List.map_cons]
    rw [YG]
    have e:(fun j:Nat=>dL (f r::m.map f) cs (j:Int)*x ^ j)=fun j:Nat=>alt (fun c ds=>X7 ((f r).getD c []) (dL (m.map f) ds) (j:Int)*x ^ j) cs:=by
      funext j
      rw [Qfo];rfl
    rw [e,← QjW]
    refine Y6 fun c ds=>?_
    rw [QhC f k x (N:=(m.map k).sum.toNat) hbt (by omega)]
    symm
    refine QbU (M:=(m.map k).sum.toNat) (fun e he=>Vn f k (fun q hq=>(hbt q hq).2) (by omega)) fun t ht=>?_
    have hm:(f r).getD c []∈f r∨(f r).getD c []=[]:=by
      rw [List.getD_eq_getElem?_getD]
      rcases h:(f r)[c]? with _ | y
      · exact .inr rfl
      · exact .inl (List.mem_of_getElem? h)
    rcases hm with hm | hm
    · have:=hk.2 _ hm t ht
      omega
    · rw [hm] at ht;cases ht
def rT (r:List Pol):List (List Tm):=r.map Pol.ts
theorem V0 {low s:Int} {f g:Int→Int} (h:∀ e,f e=g (e+s)):∀ {l:List Tm} {e:Int},X7 (shL low l) f e=X7 l g (e+(low+s))
  | [],_=>rfl
  | t::l,e=>by
    have ih:=V0 (low:=low) h (l:=l) (e:=e)
    unfold shL at ih ⊢
    simp only [List.map_cons,X7]
    rw [ih,h,show e-(t.1-low)+s=e+(low+s)-t.1 by omega]
theorem QeC {r:List Pol} {c:Nat}:(esR r).getD c []=shL (bF r) ((rT r).getD c []):=by
  unfold esR rT
  simp only [List.getD_eq_getElem?_getD,List.getElem?_map]
  cases r[c]? <;> rfl
theorem Qas:∀ {m:List (List Pol)} {cs:List Nat} {e:Int},dL (m.map esR) cs e=dL (m.map rT) cs (e+(m.map bF).sum)
  | [],cs,e=>by simp [dL]
  | r::m,cs,e=>by
    simp only [List.map_cons,dL,List.sum_cons]
    refine Y6 fun c ds=>?_
    rw [QeC]
    exact V0 fun e=>Qas
theorem Qbt {f:List Pol→Int} {m:List (List Pol)}:∀ {n:Nat},n≤m.length→sm n (fun j=>f (m.getD j []))=((m.take n).map f).sum
  | 0,_=>rfl
  | n+1,h=>by
    simp only [sm]
    have e:m.getD n []=m[n]'(by omega):=by rw [List.getD_eq_getElem?_getD,List.getElem?_eq_getElem (show n < m.length by omega)];rfl
    rw [Qbt (n:=n) (by omega),List.take_add_one,List.getElem?_eq_getElem (by omega),List.map_append,List.sum_append,e,Option.toList_some,List.map_cons,List.map_nil,List.sum_cons,List.sum_nil,Int.add_zero]
theorem Qbv {f:List Pol→Int} {m:List (List Pol)}:sm m.length (fun j=>f (m.getD j []))=(m.map f).sum:=by
  rw [Qbt (Nat.le_refl _),List.take_length]
end Go.Proofs.YtofknpknogfijaaGreatDoor

