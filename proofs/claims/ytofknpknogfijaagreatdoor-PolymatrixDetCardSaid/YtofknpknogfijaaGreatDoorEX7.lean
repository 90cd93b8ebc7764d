/- The reference's put,78: a number is added to sums that are sorted by their exponents. -/
import Derived.Test.YtofknpknogfijaaGreatDoorEX3
import Derived.Test.YtofknpknogfijaaGreatDoorO5
namespace Go.Proofs.YtofknpknogfijaaGreatDoor
open Go.Ab
set_option linter.unusedVariables false
set_option linter.unusedSimpArgs false
set_option maxRecDepth 20000
set_option maxHeartbeats 4000000
attribute [local irreducible] Qj wA Xm Xk QI Qo QW QV
set_option linter.unusedSectionVars false
variable [HB]
section
variable {FT:FuncId→Option AFun} {HK:FuncId→Option Xe} {E:Env} {h:Qa} {K:Env→Qa→Prop} {d:Option Nat} {r:List AOp} {x:AO}
theorem k_bl0 {z:SV} (hw:Qj FT HK r (Qr d (some (.sc (.slc h.length 0 0 (some 0)))) E) (h++[.cells [] true 1]) K):Qj FT HK (⟨d,.bsl 1 [z] 0 [],none⟩::r) E h K :=
  QZ rfl rfl (by simp [Ql,XJ,YL,rep]) hw
theorem Qe6 {a z0:SV} (hx:ev E x=some (.sc a)) (hw:Qj FT HK r (Qr d (some (.sc (.slc h.length 0 1 (some 1)))) E) (h++[.cells [a] true 1]) K):Qj FT HK (⟨d,.bsl 1 [z0] 1 [(0,x)],none⟩::r) E h K:=by
  refine QZ (v:=some (.sc (.slc h.length 0 1 (some 1)))) (h':=h++[.cells [a] true 1]) rfl rfl ?_ hw
  simp [Ql,XJ,hx,AV.cells,YL,rep,Q1]
end
def idS:SV→List Nat
  | .slc id _ _ _=>[id]
  | _=>[]
theorem Qfb (s:SV) (id:Nat) (h:(match some s with | some (.slc id _ _ _)=>some id | _=>none)=some id):id∈idS s:=by
  cases s <;> simp [idS] at h ⊢
  exact h.symm
theorem QkT {h:Qa} {s:SV} {ps:List P2} (hs:IsD h s ps):∀ id∈idS s,id < h.length:=fun id hid=>by
  rcases hs with ⟨rfl,-,-⟩ | ⟨id',off,cap,b,rfl,h1,-⟩
  · simp [idS] at hid
  · simp [idS] at hid
    subst hid
    exact (List.getElem?_eq_some_iff.1 h1).1
theorem QcF {h h':Qa} {s s':SV} (f:Fram h h' s s') {id:Nat} (hl:id < h.length) (hn:XS s id):h'[id]?=h[id]?∧XS s' id:=by
  have:=f id _ (List.getElem?_eq_getElem hl) hn
  exact ⟨by rw [this.1,List.getElem?_eq_getElem hl],this.2⟩
theorem zM {h h':Qa} (he:Ext h h') {e:ESz} {l u:Nat} {s s':SV} (hs:YE h e l u s=some s'):YE h' e l u s=some s':=by
  cases s
  case nilS=>exact hs
  case slc =>
    simp only [YE] at hs ⊢
    split at hs
    · rename_i b hg
      rw [he.get _ _ hg]
      exact hs
    · cases hs
  all_goals exact hs
section
variable {FT:FuncId→Option AFun} {HK:FuncId→Option Xe} {E:Env} {h hb:Qa} {K:Env→Qa→Prop} {d:Option Nat} {r:List AOp} {x lo hi:AO}
theorem QkO {z0 z1:SV} (hw:Qj FT HK r (Qr d (some (.sc (.slc h.length 0 0 (some 0)))) E) (h++[.cells [] true 2]) K):Qj FT HK (⟨d,.bsl 2 [z0,z1] 0 [],none⟩::r) E h K :=
  QZ rfl rfl (by simp [Ql,XJ,YL,rep]) hw
theorem QkN {a b z0 z1:SV} (hx:ev E x=some (.agg [a,b])) (hw:Qj FT HK r (Qr d (some (.sc (.slc h.length 0 1 (some 1)))) E) (h++[.cells [a,b] true 2]) K):Qj FT HK (⟨d,.bsl 2 [z0,z1] 1 [(0,x)],none⟩::r) E h K:=by
  refine QZ (v:=some (.sc (.slc h.length 0 1 (some 1)))) (h':=h++[.cells [a,b] true 2]) rfl rfl ?_ hw
  simp [Ql,XJ,hx,AV.cells,YL,rep,Q1,ez2]
theorem Qe1 {s:SV} {ps:List P2} {u:Int} (he:Ext hb h) (hs:IsD hb s ps) (hx:evS E x=some s) (hh:evS E hi=some (.int .i64 u)) (hu:0≤u∧u≤ps.length)
    (hw:∀ s',IsD hb s' (ps.take u.toNat)→Qj FT HK r (Qr d (some (.sc s')) E) h K):Qj FT HK (⟨d,.sl 2 x none (some hi),none⟩::r) E h K:=by
  obtain ⟨s',h1,h2⟩:=prsTo (u:=u.toNat) hs (by omega)
  refine QZ (v:=some (.sc s')) (h':=h) rfl rfl ?_ (hw s' h2)
  simp [Ql,hx,hh,hs.len,bnd,zM he h1,hu.1]
theorem QbB {s:SV} {ps:List P2} {l:Int} (he:Ext hb h) (hs:IsD hb s ps) (hx:evS E x=some s) (hh:evS E lo=some (.int .i64 l)) (hl:0≤l∧l≤ps.length)
    (hw:∀ s',IsD hb s' (ps.drop l.toNat)→Qj FT HK r (Qr d (some (.sc s')) E) h K):Qj FT HK (⟨d,.sl 2 x (some lo) none,none⟩::r) E h K:=by
  obtain ⟨s',h1,h2⟩:=Qhz (l:=l.toNat) hs (by omega)
  refine QZ (v:=some (.sc s')) (h':=h) rfl rfl ?_ (hw s' h2)
  simp [Ql,hx,hh,hs.len,bnd,zM he h1,hl.1]
end
theorem Qag {a:Int}:∀ {l:List Int} {i:Nat},l[i]?=some a→l.set i a=l
  | [],i,h=>by simp at h
  | x::r,0,h=>by simp at h;simp [h]
  | x::r,i+1,h=>by simp at h;simp [Qag h]
def wp (u:Tm):P2:=(nh u.2,nl u.2)
def YF (e v:Int):List Tm→List Tm
  | []=>[(e,v)]
  | u::r=>if u.1 < e then u::YF e v r else if u.1=e then (e,u.2+v)::r else (e,v)::u::r
theorem Qao {e v:Int}:∀ {M:List Tm} {i:Nat} {w:Int},(∀ u∈M.take i,u.1 < e)→M[i]?=some (e,w)→YF e v M=M.set i (e,w+v)
  | [],i,w,h,hi=>by simp at hi
  | u::r,0,w,h,hi=>by
    simp at hi
    subst hi
    simp [YF]
  | u::r,i+1,w,h,hi=>by
    have h0:u.1 < e:=h u (by simp)
    have ih:=Qao (v:=v) (M:=r) (i:=i) (w:=w) (fun u' hu=>h u' (by simp [hu])) (by simpa using hi)
    simp only [YF,if_pos h0,ih,List.set_cons_succ]
theorem Qar {e v:Int}:∀ {M:List Tm} {i:Nat},(∀ u∈M.take i,u.1 < e)→i≤M.length→(∀ u,M[i]?=some u→e < u.1)→YF e v M=M.take i++(e,v)::M.drop i
  | [],i,h,hl,hi=>by simp [YF]
  | u::r,0,h,hl,hi=>by
    have:=hi u (by simp)
    simp only [YF,if_neg (show ¬ u.1 < e by omega),if_neg (show ¬ u.1=e by omega),List.take_zero,List.drop_zero,List.nil_append]
  | u::r,i+1,h,hl,hi=>by
    have h0:u.1 < e:=h u (by simp)
    have ih:=Qar (v:=v) (M:=r) (i:=i) (fun u' hu=>h u' (by simp [hu])) (by simpa using hl) (fun u' hu=>hi u' (by simpa using hu))
    simp only [YF,if_pos h0,ih,List.take_succ_cons,List.drop_succ_cons,List.cons_append]
def I80 (h1:Qa) (q7:Nat) (sx st:SV) (e:Int) (M:List Tm) (k:Nat) (E:Env) (h:Qa):Prop:=∃ i:Nat,i≤M.length∧k=M.length-i∧(∀ u∈M.take i,u.1 < e)∧h=h1 ∧
  E.keep [0,1,2,7,10]=[(0,some (.sc sx)),(1,some (.sc st)),(2,some (.sc (.int .i64 e))),(7,some (.sc (.ptr q7 0))),(10,some (.sc (.int .i64 (i:Nat))))]
def R80 (h1:Qa) (q7:Nat) (sx st:SV) (e:Int) (M:List Tm) (ex:Ex) (E:Env) (h:Qa):Prop:=ex=.ex 0∧∃ i:Nat,∃ d,i≤M.length∧(∀ u∈M.take i,u.1 < e)∧(∀ u,M[i]?=some u→e≤u.1)∧h=h1 ∧
  E=[(0,some (.sc sx)),(1,some (.sc st)),(2,some (.sc (.int .i64 e))),(7,some (.sc (.ptr q7 0))),(10,some (.sc (.int .i64 (i:Nat)))),(25,d)]
theorem Qhc (h1:Qa) (q7:Nat) (sx st:SV) (e:Int) (M:List Tm) (hx:IsInts h1 sx (M.map (·.1))) (hn:M.length≤1000000) (k:Nat) (E:Env) (h:Qa) (hI:I80 h1 q7 sx st e M k E h) :
    wA FT HKt Qi1 (E.keep [0,1,2,7,10]) h (Qo (I80 h1 q7 sx st e M) k (R80 h1 q7 sx st e M)):=by
  obtain ⟨i,hi,rfl,hlt,rfl,hE⟩:=hI
  rw [hE]
  have ls:=IsSl.len hx
  rw [List.length_map] at ls
  by_cases h1:i < M.length
  · obtain ⟨u,hu⟩:∃ u,M[i]?=some u:=⟨_,List.getElem?_eq_getElem h1⟩
    obtain ⟨id,off,cap,rfl,rd⟩:=IsInts.at hx (i:=i) (x:=u.1) (by rw [List.getElem?_map,hu];rfl)
    rw [List.length_map] at ls ⊢
    by_cases h2:u.1 < e
    · repeat' (first | refine Qg ?_ | refine Qb ?_ | refine Qt ?_ | refine QG ?_ | refine Qp ?_ | refine Qf ?_ | ((refine Qh ?_);refine Qk rfl ?_) | ((refine Qe ?_);first | refine QO rfl rfl rfl rfl rfl ?_ | refine QD rfl rfl rfl rfl rfl rfl ?_) | ((refine Qc ?_);first | refine Qu rfl ls ?_ | refine Qx (esz:=1) rfl rfl (by omega) ?_ | refine Q2 rfl rd ?_ | refine QX rfl ?_ | refine Qm rfl ?_ | refine QY rfl rfl ?_ | refine QM rfl rfl (by omega) ?_ | refine Qw rfl rfl (by omega) ?_))
      refine Qs (j:=M.length-(i+1)) (by omega) ⟨i+1,by omega,rfl,fun x hx=>?_,rfl,rfl⟩
      rw [List.take_add_one,hu] at hx
      rcases List.mem_append.1 hx with hx | hx
      · exact hlt x hx
      · simp at hx;subst hx;exact h2
    · repeat' (first | refine Qg ?_ | refine Qb ?_ | refine QK ?_ | refine QH ?_ | refine Qf ?_ | ((refine Qh ?_);refine Qi rfl ?_) | ((refine Qe ?_);refine QD rfl rfl rfl rfl rfl rfl ?_) | ((refine Qc ?_);first | refine Qu rfl ls ?_ | refine Qx (esz:=1) rfl rfl (by omega) ?_ | refine Q2 rfl rd ?_ | refine QX rfl ?_ | refine Qm rfl ?_ | refine QY rfl rfl ?_ | refine Qw rfl rfl (by omega) ?_ | refine QE rfl rfl (by omega) ?_))
      exact Qz ⟨rfl,i,_,hi,hlt,(fun x hx=>by rw [hu] at hx;cases hx;omega),rfl,rfl⟩
  · repeat' (first | refine Qg ?_ | refine Qb ?_ | refine QK ?_ | refine QH ?_ | refine Qf ?_ | ((refine Qh ?_);refine Qi rfl ?_) | ((refine Qe ?_);refine QD rfl rfl rfl rfl rfl rfl ?_) | ((refine Qc ?_);first | refine Qu rfl ls ?_ | refine Xo rfl ?_ | refine Qm rfl ?_ | refine QU rfl rfl ?_ | refine QE rfl rfl (by omega) ?_))
    exact Qz ⟨rfl,i,_,hi,hlt,(fun x hx=>by rw [List.getElem?_eq_none (by omega)] at hx;cases hx),rfl,rfl⟩
theorem Qk8 (h0:Qa) (sx st:SV) (e v:Int) (M:List Tm) (hx:IsInts h0 sx (M.map (·.1))) (ht:IsD h0 st (M.map wp)) (hn:M.length≤1000000) (hv:v.natAbs≤2 ^ 104) (hM:∀ u∈M,u.2.natAbs≤2 ^ 104) :
    ∃ r h',Cal FT HKt 80 [.sc sx,.sc st,.sc (.int .i64 e),nf v] h0 r h'∧Ext h0 h'∧∃ s1 s2,r=.tup [.sc s1,.sc s2]∧IsInts h' s1 ((YF e v M).map (·.1))∧IsD h' s2 ((YF e v M).map wp):=by
  refine Cal.of (F:=a80) rfl rfl rfl ?_
  repeat' (first | refine Qg ?_ | refine Qb ?_ | refine Qt ?_ | refine Qf ?_ | ((refine Qe ?_);first | refine QS rfl rfl rfl rfl ?_ | refine QO rfl rfl rfl rfl rfl ?_) | ((refine Qc ?_);first | (refine Q3 rfl ?_;intro h1 e1 c1) | refine Qm rfl ?_))
  refine QP (I80 h1 h0.length sx st e M) M.length (R80 h1 h0.length sx st e M) ⟨0,Nat.zero_le _,rfl,by simp,rfl,rfl⟩ (Qhc h1 h0.length sx st e M (IsSl.ext hx e1) hn) ?_
  rintro ex E' h1 ⟨rfl,i,d,hi,hlt,hge,rfl,rfl⟩
  have hx1:IsInts h1 sx (M.map (·.1)):=IsSl.ext hx e1
  have ht1:IsD h1 st (M.map wp):=ht.ext e1
  have ls:=IsSl.len hx1
  rw [List.length_map] at ls
  have lt:=ht1.len
  rw [List.length_map] at lt
  by_cases heq:∃ w,M[i]?=some (e,w)
  · obtain ⟨w,hw⟩:=heq
    have hiM:i < M.length:=(List.getElem?_eq_some_iff.1 hw).1
    have hwm:(e,w)∈M:=List.mem_of_getElem? hw
    have hp:(M.map wp)[i]?=some (wp (e,w)):=by rw [List.getElem?_map,hw];rfl
    have hpm:=Qao (v:=v) hlt hw
    have k94:=fun H=>Ur H w v (by have:=hM _ hwm;simp only at this;omega) (by omega)
    obtain ⟨id,off,cap,rfl,rd⟩:=IsInts.at hx1 (i:=i) (x:=e) (by rw [List.getElem?_map,hw];rfl)
    rw [List.length_map] at ls hx1 ⊢
    repeat' (first | refine Qg ?_ | refine Qb ?_ | refine QL ?_ | refine QC ?_ | refine Qv ?_ | refine Qf ?_ | refine Xb ?_ | refine Xq ?_ | refine Xr ?_ | ((refine Qh ?_);refine Qk rfl ?_) | ((refine Qe ?_);first | refine Xd ?_ | refine XI ?_ | refine Qy rfl rfl ?_ | refine QS rfl rfl rfl rfl ?_ | refine QD rfl rfl rfl rfl rfl rfl ?_) | ((refine Qc ?_);first | refine Qu rfl ls ?_ | refine Qx (esz:=1) rfl rfl (by omega) ?_ | refine Q2 rfl rd ?_ | (refine QhQ ?_;intro h2 e2 o2;have c2:=c1.ext e2;have t2:=ht1.ext e2) | (refine zu e2 o2 rfl rfl t2 (by simp only [XQ,List.length_map,List.length_nil];omega) ?_;intro s3 h3 o3 e3 f3 l3;have c3:=c2.fram f3 (o2.cel c2);rw [List.nil_append] at o3;obtain ⟨id3,cap3,rfl,rd3⟩:=o3.rd hp;rw [List.length_map]) | refine Qx (esz:=2) rfl rfl (by omega) ?_ | refine Yo rfl rd3 ?_ | refine Xa rfl c3 ?_ | (refine Qn rfl (k94 h3) ?_;rintro r h4 ⟨e4,rfl⟩;have o4:=o3.ext e4;obtain ⟨id5,cap5,h5,q5,wr5,o5,e5,f5,l5⟩:=o4.wr (e3.trans e4) (i:=i) (by rw [List.length_map];exact hiM) (nh (w+v)) (nl (w+v));cases q5) | refine k_stD rfl rfl wr5 ?_ | refine QX rfl ?_ | refine Qm rfl ?_ | refine QY rfl rfl ?_ | refine Qw rfl rfl (by omega) ?_ | refine Xt rfl rfl (by omega) ?_))
    refine ⟨.inr rfl,e1.trans e5,_,_,rfl,?_,?_⟩
    · rw [hpm,List.map_set,Qag (by rw [List.getElem?_map,hw];rfl)]
      have:=IsSl.ext hx1 e5
      unfold IsInts
      rwa [List.length_map] at this ⊢
    · rw [hpm,List.map_set]
      have:=o5.is
      rw [List.length_map] at this
      exact this
  · have hgt:∀ u,M[i]?=some u→e < u.1:=fun u hu=>by
      have h1:=hge u hu
      by_cases h2:u.1=e
      · exact absurd ⟨u.2,by rw [hu,← h2]⟩ heq
      · omega
    have hpm:=Qar (v:=v) hlt hi hgt
    obtain ⟨s57,q57,p57⟩:=QkS (u:=i) hx1 (by rw [List.length_map];exact hi)
    obtain ⟨s64,q64,p64⟩:=Qfa (l:=i) hx1 (by rw [List.length_map];exact hi)
    rw [List.length_map] at q64
    have nol:∀ {S:List Nat} {ord:Bool} {k:AK} (E:Env) (id:Nat),ldX E ord k=some id→ldX E ord k=none→id∈S:=fun E id h1 h2=>by rw [h2] at h1;cases h1
    by_cases hiM:i < M.length
    case' pos =>
      obtain ⟨u,hu⟩:∃ u,M[i]?=some u:=⟨_,List.getElem?_eq_getElem hiM⟩
      have hne:u.1≠e:=by have:=hgt u hu;omega
      obtain ⟨id,off,cap,rfl,rd⟩:=IsInts.at hx1 (i:=i) (x:=u.1) (by rw [List.getElem?_map,hu];rfl)
      rw [List.length_map] at ls hx1 q57 q64 ⊢
      repeat' (first | refine Qg ?_ | refine Qb ?_ | refine QC ?_ | refine Qp ?_ | refine Qf ?_ | ((refine Qh ?_);refine Qi rfl ?_) | ((refine Qe ?_);refine QD rfl rfl rfl rfl rfl rfl ?_) | ((refine Qc ?_);first | refine Qu rfl ls ?_ | refine Qx (esz:=1) rfl rfl (by omega) ?_ | refine Q2 rfl rd ?_ | refine QX rfl ?_ | refine Qm rfl ?_ | refine QY rfl rfl ?_ | refine Qw rfl rfl (by omega) ?_ | refine Xh rfl rfl (by omega) ?_))
      generalize SV.slc id off M.length cap=sx at *
    case' neg =>
      repeat' (first | refine Qg ?_ | refine Qb ?_ | refine QC ?_ | refine Qp ?_ | refine Qf ?_ | ((refine Qh ?_);refine Qi rfl ?_) | ((refine Qe ?_);refine QD rfl rfl rfl rfl rfl rfl ?_) | ((refine Qc ?_);first | refine Qu rfl ls ?_ | refine Xo rfl ?_ | refine Qm rfl ?_ | refine QU rfl rfl ?_ | refine QE rfl rfl (by omega) ?_))
    all_goals
      refine QbY [] [h1.length+1] ?_
      refine Ya (fun id h=>nol _ id h rfl) (k_bl0 (Qeb ⟨_,rfl⟩ (by simp) ?_))
      refine Ya (fun id h=>nol _ id h rfl) (Qm rfl (Yy ?_))
      refine Ya (fun id h=>nol _ id h rfl) (Qm rfl (Yy ?_))
      refine Ya (fun id h=>nol _ id h rfl) (k_to rfl ls rfl (by omega) q57 (Yy ?_))
      refine Ya (fun id h=>nol _ id h rfl) (Qm rfl (Yy ?_))
      refine Ya (fun id h=>nol _ id h rfl) (Qe6 rfl (s_al ⟨_,rfl⟩ (by simp) (fun id i1 i2=>by simp at i1 i2 ⊢;omega) ?_))
      have lB1:(h1++[Blk.cells [] true 1]).length=h1.length+1:=by simp
      rw [lB1]
      generalize hBe:h1++[Blk.cells [] true 1]++[Blk.cells [SV.int .i64 e] true 1]=hB
      have eB:Ext h1 hB:=by rw [← hBe,List.append_assoc];exact ⟨_,rfl⟩
      have oB:Own h1 hB (.slc h1.length 0 0 (some 0)) []:=by rw [← hBe];exact (Own.lit0 h1).ext ⟨_,rfl⟩
      have gB:hB[h1.length+1]?=some (Blk.cells [SV.int .i64 e] true 1):=by rw [← hBe,List.getElem?_append_right (by simp)];simp
      refine Ya (fun id h=>nol _ id h rfl) (Qm rfl (Yy ?_))
      refine Ya (fun id h=>nol _ id h rfl) (Qm rfl (Yy ?_))
      refine Ya (fun id h=>nol _ id h rfl) (Qe4 rfl ls rfl (by omega) q64 (Yy ?_))
      refine Ya (fun id h=>nol _ id h rfl) (QkP eB oB rfl rfl (IsInts.src (IsSl.ext p57 eB)) (by simp only [XQ,List.length_map,List.length_take];omega) ?_)
      intro s58 h3 o3 e3 f3
      have g3:=e3.get _ _ gB
      have e13:=eB.trans e3
      refine Qb8 (fun id hid=>nomatch hid) ?_ (fun id hid _=>by rw [List.mem_singleton.1 hid,gB,g3])
      have sr2:Xi h3 1 (.slc (h1.length+1) 0 1 (some 1))=some ([SV.int .i64 e].length,[SV.int .i64 e]):=by simp [Xi,QT,g3,cut]
      refine Ya (fun id h=>nol _ id h rfl) (U0 e13 o3 rfl rfl sr2 (by simp only [XQ,List.length_map,List.length_take,List.length_cons,List.length_nil];omega) ?_)
      intro s61 h4 o4 e4 l4 f4
      refine Vk rfl ?_
      refine Ya (fun id h=>nol _ id h rfl) (U0 e4 o4 rfl rfl (IsInts.src (IsSl.ext p64 e4)) (by simp only [XQ,List.length_append,List.length_map,List.length_take,List.length_drop,List.length_cons,List.length_nil];omega) ?_)
      intro s65 h5 o5 e5 l5 f5
      refine Vk rfl ?_
      refine Ya (fun id h=>nol _ id h rfl) (Qm rfl (Yy ?_))
      refine Qea ?_
      repeat' (first | refine Qg ?_ | refine Qb ?_ | ((refine Qe ?_);refine QS rfl rfl rfl rfl ?_))
      have c5:=c1.ext e5
      have t5:=ht1.ext e5
      have hS:∀ id∈h0.length::idS st,id < h5.length:=fun id hid=>by
        rcases List.mem_cons.1 hid with rfl | hid
        · exact c5.lt
        · exact QkT t5 id hid
      have noS:∀ id∈h0.length::idS st,∀ n c,XS (.slc h5.length 0 n c) id:=fun id hid n c o n' c' e=>by
        have:=hS id hid
        cases e;omega
      refine QbY (h0.length::idS st) [h5.length+1] ?_
      refine Ya (fun id h=>nol _ id h rfl) (QkO (Qeb ⟨_,rfl⟩ hS ?_))
      have eA:Ext h5 (h5++[Blk.cells [] true 2]):=⟨_,rfl⟩
      refine Ya (fun id h=>nol _ id h rfl) (Qm rfl (Yy ?_))
      refine Ya (fun id h=>nol _ id h rfl) (Qm rfl (Yy ?_))
      refine Ya (fun id h=>List.mem_cons_of_mem _ (Qfb st id h)) (Qe1 eA t5 rfl rfl (by rw [List.length_map];omega) ?_)
      intro s69 d69
      refine Yy ?_
      refine Ya (fun id h=>by cases h;exact List.mem_cons_self ..) (Xa rfl (c5.ext eA) (Yy ?_))
      refine Ya (fun id h=>nol _ id h rfl) (QkN rfl (s_al ⟨_,rfl⟩ (fun id hid=>by have:=hS id hid;simp;omega) (fun id i1 i2=>by simp at i1 i2 ⊢;omega) ?_))
      have lC1:(h5++[Blk.cells [] true 2]).length=h5.length+1:=by simp
      rw [lC1]
      generalize hCe:h5++[Blk.cells [] true 2]++[Blk.cells [nh v,nl v] true 2]=hC
      have eC:Ext h5 hC:=by rw [← hCe,List.append_assoc];exact ⟨_,rfl⟩
      have lC:hC.length=h5.length+2:=by rw [← hCe];simp
      have oC:OwnD h5 hC (.slc h5.length 0 0 (some 0)) []:=by
        rw [← hCe]
        exact OwnD.ext (.inr ⟨h5.length,some 0,[],rfl,Nat.le_refl _,by simp,by simp [prs],by simp [RoomD]⟩) ⟨_,rfl⟩
      have gC:hC[h5.length+1]?=some (Blk.cells [nh v,nl v] true 2):=by rw [← hCe,List.getElem?_append_right (by simp)];simp
      have dC:IsD hC (.slc (h5.length+1) 0 1 (some 1)) [(nh v,nl v)]:=.inr ⟨_,_,_,_,rfl,gC,rfl,fun h=>by simp at h,fun _=>⟨_,_,rfl,by simp [cut,prs,ez2]⟩⟩
      refine Ya (fun id h=>nol _ id h rfl) (Qm rfl (Yy ?_))
      refine Ya (fun id h=>nol _ id h rfl) (Qm rfl (Yy ?_))
      refine Ya (fun id h=>List.mem_cons_of_mem _ (Qfb st id h)) (QbB eC t5 rfl rfl (by rw [List.length_map];omega) ?_)
      intro s76 d76
      refine Yy ?_
      refine Ya (fun id h=>nol _ id h rfl) (zu eC oC rfl rfl (d69.ext eC) (by simp only [XQ,List.length_map,List.length_take,List.length_nil];omega) ?_)
      intro s70 h6 o6 e6 f6 l6
      have nA:XS (.slc h5.length 0 0 (some 0)) (h5.length+1):=fun o n c e=>by simp only [SV.slc.injEq] at e;omega
      have k6:=fun id (hid:id∈h0.length::idS st)=>QcF f6 (show id < hC.length by have:=hS id hid;omega) (noS id hid _ _)
      have k6A:=QcF f6 (show h5.length+1 < hC.length by omega) nA
      refine Qb8 (fun id hid=>(k6 id hid).1) ?_ (fun id hid _=>by rw [List.mem_singleton.1 hid];exact k6A.1)
      have g6:h6[h5.length+1]?=some (Blk.cells [nh v,nl v] true 2):=by rw [k6A.1,gC]
      have d6:IsD h6 (.slc (h5.length+1) 0 1 (some 1)) [(nh v,nl v)]:=.inr ⟨_,_,_,_,rfl,g6,rfl,fun h=>by simp at h,fun _=>⟨_,_,rfl,by simp [cut,prs,ez2]⟩⟩
      refine Ya (fun id h=>nol _ id h rfl) (zu e6 o6 rfl rfl d6 (by simp only [XQ,List.length_append,List.length_map,List.length_take,List.length_cons,List.length_nil];omega) ?_)
      intro s73 h7 o7 e7 f7 l7
      refine Qb8 (fun id hid=>(QcF f7 (by have:=hS id hid;omega) (k6 id hid).2).1) ?_ (fun id hid _=>by rw [List.mem_singleton.1 hid];exact (QcF f7 (by omega) k6A.2).1)
      refine Ya (fun id h=>nol _ id h rfl) (zu e7 o7 rfl rfl (d76.ext e7) (by simp only [XQ,List.length_append,List.length_map,List.length_take,List.length_drop,List.length_cons,List.length_nil];omega) ?_)
      intro s77 h8 o8 e8 f8 l8
      refine Vk rfl ?_
      refine Ya (fun id h=>nol _ id h rfl) (Qm rfl (Yy ?_))
      refine Qea ?_
      repeat' (first | refine Qg ?_ | refine Qb ?_ | refine Qv ?_ | refine Qf ?_ | ((refine Qe ?_);refine Qy rfl rfl ?_) | ((refine Qc ?_);refine Qm rfl ?_))
      refine ⟨.inr rfl,e1.trans (e5.trans e8),_,_,rfl,?_,?_⟩
      · have:=IsSl.ext o5.sl e8
        rw [hpm]
        unfold IsInts
        simpa [List.map_take,List.map_drop] using this
      · have:=o8.is
        rw [hpm]
        simpa [List.map_take,List.map_drop,wp] using this
end Go.Proofs.YtofknpknogfijaaGreatDoor


namespace Go.Proofs.YtofknpknogfijaaGreatDoor
open Go.Ab
set_option linter.unusedVariables false
set_option linter.unusedSimpArgs false
set_option maxRecDepth 20000
set_option maxHeartbeats 4000000
attribute [local irreducible] Qj wA Xm Xk QI Qo QW QV
set_option linter.unusedSectionVars false
variable [HB]
def okT (u:Tm):Prop:=u.2≠0→u.2.natAbs≤cM∧u.1.natAbs≤eM
abbrev nzT (u:Tm):Bool:=decide (u.2≠0)
noncomputable def Y8 (M:List Tm):Pol:=open Classical in if ∀ u∈M,okT u then ⟨false,M.filter nzT⟩ else JY
theorem QfM (h0:Qa) (x:Int) (hx:x.natAbs≤cM):∃ r h',Cal FT HKt 113 [nf x] h0 r h'∧Ext h0 h'∧r=.tup [.sc (.int .i64 x),.sc (.bool true)]:=by
  obtain ⟨r,h',a,b,n,ok,rfl,c,d⟩:=QcR h0 (x / 1125899906842624) (x%1125899906842624) (by omega)
  rw [show x / 1125899906842624*1125899906842624+x%1125899906842624=x by omega] at c d
  have:=c.2 hx
  subst this
  exact ⟨_,h',a,b,by rw [d rfl]⟩
theorem QfN (h0:Qa) (x:Int) (hx:¬ x.natAbs≤cM):∃ r h',Cal FT HKt 113 [nf x] h0 r h'∧Ext h0 h'∧∃ n,r=.tup [.sc (.int .i64 n),.sc (.bool false)]:=by
  obtain ⟨r,h',a,b,n,ok,rfl,c,d⟩:=QcR h0 (x / 1125899906842624) (x%1125899906842624) (by omega)
  rw [show x / 1125899906842624*1125899906842624+x%1125899906842624=x by omega] at c d
  cases ok with
  | true=>exact absurd (c.1 rfl) hx
  | false=>exact ⟨_,h',a,b,n,rfl⟩
def I82 (h0:Qa) (q4 q5:Nat) (sx st:SV) (M:List Tm) (k:Nat) (E:Env) (h:Qa):Prop:=∃ (i:Nat) (s:SV),i≤M.length∧k=M.length-i∧(∀ u∈M.take i,okT u)∧St27 h0 h q4 q5 false s ((M.take i).filter nzT) ∧
  E.keep [0,1,4,5,6]=[(0,some (.sc sx)),(1,some (.sc st)),(4,some (.sc (.ptr q4 0))),(5,some (.sc (.ptr q5 0))),(6,some (.sc (.int .i64 (i:Nat))))]
def R82 (h0:Qa) (q4 q5:Nat) (M:List Tm) (ex:Ex) (E:Env) (h:Qa):Prop :=
  (ex=.ex 0∧∃ s a b c d,(∀ u∈M,okT u)∧St27 h0 h q4 q5 false s (M.filter nzT)∧E=[(0,a),(1,b),(4,some (.sc (.ptr q4 0))),(5,some (.sc (.ptr q5 0))),(6,c),(12,d)]) ∨
  (ex=.rt∧¬ (∀ u∈M,okT u)∧Ext h0 h∧Cel h q4 .nilS (.bool true)∧E=[(4,some (.sc (.ptr q4 0)))])
theorem Qhb (h0:Qa) (q4 q5:Nat) (sx st:SV) (M:List Tm) (hx:IsInts h0 sx (M.map (·.1))) (ht:IsD h0 st (M.map wp)) (hn:M.length≤1000000) (k:Nat) (E:Env) (h:Qa) (hI:I82 h0 q4 q5 sx st M k E h) :
    wA FT HKt QiY (E.keep [0,1,4,5,6]) h (Qo (I82 h0 q4 q5 sx st M) k (R82 h0 q4 q5 M)):=by
  obtain ⟨i,s,hi,rfl,hall,sg,hE⟩:=hI
  rw [hE]
  have ls:=IsSl.len hx
  rw [List.length_map] at ls
  by_cases hlt:i < M.length
  · obtain ⟨u,hu⟩:∃ u,M[i]?=some u:=⟨_,List.getElem?_eq_getElem hlt⟩
    have hum:u∈M:=List.mem_of_getElem? hu
    obtain ⟨id,off,cap,rfl,rd0⟩:=IsInts.at hx (i:=i) (x:=u.1) (by rw [List.getElem?_map,hu];rfl)
    obtain ⟨id2,off2,cap2,rfl,rd20⟩:=IsD.at ht (i:=i) (p:=wp u) (by rw [List.getElem?_map,hu];rfl)
    have rd:=QA sg.e rd0
    have rd2:=QA sg.e rd20
    rw [List.length_map] at ls
    rw [List.length_map,List.length_map]
    have c4:=sg.c4
    have c5:=sg.c5
    have l:=sg.l
    have tk:M.take (i+1)=M.take i++[u]:=by rw [List.take_add_one,hu];rfl
    have step:okT u→∀ x∈M.take (i+1),okT x:=fun h x hx=>by
      rw [tk] at hx
      rcases List.mem_append.1 hx with hx | hx
      · exact hall x hx
      · rw [List.mem_singleton.1 hx];exact h
    by_cases hz:u.2=0
    · have hq:(u.2 / 1125899906842624 == 0 && u.2%1125899906842624 == 0)=true:=by rw [hz];rfl
      have fl:(M.take (i+1)).filter nzT=(M.take i).filter nzT:=by rw [tk,List.filter_append];simp [nzT,hz]
      repeat' (first | refine Qg ?_ | refine Qb ?_ | refine QK ?_ | refine Qt ?_ | refine QC ?_ | refine Qp ?_ | refine QH ?_ | refine Qf ?_ | ((refine Qh ?_);refine Qk rfl ?_) | ((refine Qe ?_);first | refine QO rfl rfl rfl rfl rfl ?_ | refine QD rfl rfl rfl rfl rfl rfl ?_) | ((refine Qc ?_);first | refine Qu rfl ls ?_ | refine Qx (esz:=2) rfl rfl (by omega) ?_ | refine Yo rfl rd2 ?_ | refine X5 rfl rfl ?_ | (refine Ug rfl rfl ?_;rw [if_neg (by decide),hq]) | refine Qm rfl ?_ | refine QM rfl rfl (by omega) ?_ | refine Qw rfl rfl (by omega) ?_))
      exact Qs (j:=M.length-(i+1)) (by omega) ⟨i+1,s,by omega,rfl,step fun h=>absurd hz h,by rw [fl];exact sg,rfl⟩
    have hq:(u.2 / 1125899906842624 == 0 && u.2%1125899906842624 == 0)=false:=by
      rw [Bool.and_eq_false_iff]
      by_cases h1:u.2 / 1125899906842624=0
      · right;simp only [beq_eq_false_iff_ne];omega
      · left;simpa using h1
    by_cases a1:u.2.natAbs≤cM
    · have k96:=fun H=>QfM H u.2 a1
      by_cases a2:u.1.natAbs≤eM
      · have fl:(M.take (i+1)).filter nzT=(M.take i).filter nzT++[(u.1,u.2)]:=by rw [tk,List.filter_append];simp [nzT,hz]
        have hfl:((M.take i).filter nzT).length≤i:=Nat.le_trans (List.length_filter_le _ _) (by rw [List.length_take];omega)
        simp only [eM] at a2
        repeat' (first | refine Qg ?_ | refine Qb ?_ | refine Qt ?_ | refine QG ?_ | refine Qp ?_ | refine Qf ?_ | refine Xb ?_ | refine Xq ?_ | refine Xr ?_ | ((refine Qh ?_);first | refine Qk rfl ?_ | refine Qi rfl ?_) | ((refine Qe ?_);first | refine Xd ?_ | refine XI ?_ | refine XD (by assumption) ?_ | refine QO rfl rfl rfl rfl rfl ?_ | refine QD rfl rfl rfl rfl rfl rfl ?_ | refine Q4 rfl rfl rfl rfl rfl rfl rfl ?_) | ((refine Qc ?_);first | refine Qu rfl ls ?_ | refine Qx (esz:=2) rfl rfl (by omega) ?_ | refine Qx (esz:=1) rfl rfl (by omega) ?_ | refine Yo rfl rd2 ?_ | refine Q2 rfl rdb ?_ | refine X5 rfl rfl ?_ | (refine Ug rfl rfl ?_;rw [if_neg (by decide),hq]) | (refine Qn rfl (k96 h) ?_;rintro r h7 ⟨e7,rfl⟩;have st7:=sg.ext e7;have c57:=st7.c5;have rdb:=QA e7 rd) | refine QQ rfl ?_ | refine Q6 rfl c57 ?_ | (refine JE rfl ?_;intro h8 e8 src8;have st8:=st7.ext e8) | (refine ZK st8.e st8.o rfl rfl src8 (by rw [Xg];simp only [XQ];omega) ?_;intro s' h2 o2 e2 f2 l2;have d5:=st8.c5.fram f2 (st8.o.cel st8.c5);have d4:=st8.c4.fram f2 (st8.o.cel st8.c4)) | (refine yD rfl rfl d5 ?_;intro h3 w3) | refine QX rfl ?_ | refine Qm rfl ?_ | refine QU rfl rfl ?_ | refine XZ rfl ?_ | refine QM rfl rfl (by omega) ?_ | refine Qw rfl rfl (by omega) ?_ | refine QE rfl rfl (by omega) ?_ | refine XA rfl rfl (by omega) ?_ | refine X6 rfl rfl ?_))
        refine Qs (j:=M.length-(i+1)) (by omega) ⟨i+1,s',by omega,rfl,step fun _=>⟨a1,a2⟩,⟨w3.ext e2 (by omega),w3.keep d4 (by omega),w3.cel,?_,l⟩,rfl⟩
        have:=o2.wrC w3
        rw [fl]
        simpa [tms,tmP] using this
      · have bad:¬ ∀ u∈M,okT u:=fun h=>a2 (h u hum hz).2
        simp only [eM] at a2
        by_cases a3:u.1 < -1048576
        · repeat' (first | refine Qg ?_ | refine Qb ?_ | refine QL ?_ | refine Qt ?_ | refine Q9 ?_ | refine Qp ?_ | refine Qv ?_ | refine Qf ?_ | ((refine Qh ?_);first | refine Qk rfl ?_ | refine Qi rfl ?_) | ((refine Qe ?_);first | refine Qq rfl ?_ | refine QD rfl rfl rfl rfl rfl rfl ?_ | refine Q4 rfl rfl rfl rfl rfl rfl rfl ?_) | ((refine Qc ?_);first | refine Qu rfl ls ?_ | refine Qx (esz:=2) rfl rfl (by omega) ?_ | refine Qx (esz:=1) rfl rfl (by omega) ?_ | refine Yo rfl rd2 ?_ | refine Q2 rfl rdb ?_ | refine X5 rfl rfl ?_ | (refine Ug rfl rfl ?_;rw [if_neg (by decide),hq]) | (refine Qn rfl (k96 h) ?_;rintro r h7 ⟨e7,rfl⟩;have st7:=sg.ext e7;have c47:=st7.c4;have rdb:=QA e7 rd) | (refine Xw rfl rfl c47 ?_;intro h3 w3) | refine Xo rfl ?_ | refine QX rfl ?_ | refine Qm rfl ?_ | refine QY rfl rfl ?_ | refine QU rfl rfl ?_ | refine XZ rfl ?_ | refine Qw rfl rfl (by omega) ?_ | refine X6 rfl rfl ?_))
          exact Xs (.inr ⟨rfl,bad,w3.ext st7.e l.1,w3.cel,rfl⟩)
        · repeat' (first | refine Qg ?_ | refine Qb ?_ | refine QL ?_ | refine Qt ?_ | refine Q9 ?_ | refine Qp ?_ | refine Qv ?_ | refine Qf ?_ | ((refine Qh ?_);first | refine Qk rfl ?_ | refine Qi rfl ?_) | ((refine Qe ?_);first | refine Qq rfl ?_ | refine QD rfl rfl rfl rfl rfl rfl ?_ | refine Q4 rfl rfl rfl rfl rfl rfl rfl ?_) | ((refine Qc ?_);first | refine Qu rfl ls ?_ | refine Qx (esz:=2) rfl rfl (by omega) ?_ | refine Qx (esz:=1) rfl rfl (by omega) ?_ | refine Yo rfl rd2 ?_ | refine Q2 rfl rdb ?_ | refine X5 rfl rfl ?_ | (refine Ug rfl rfl ?_;rw [if_neg (by decide),hq]) | (refine Qn rfl (k96 h) ?_;rintro r h7 ⟨e7,rfl⟩;have st7:=sg.ext e7;have c47:=st7.c4;have rdb:=QA e7 rd) | (refine Xw rfl rfl c47 ?_;intro h3 w3) | refine QX rfl ?_ | refine Qm rfl ?_ | refine QU rfl rfl ?_ | refine XZ rfl ?_ | refine Qw rfl rfl (by omega) ?_ | refine QE rfl rfl (by omega) ?_ | refine XG rfl rfl (by omega) ?_ | refine X6 rfl rfl ?_))
          exact Xs (.inr ⟨rfl,bad,w3.ext st7.e l.1,w3.cel,rfl⟩)
    · have bad:¬ ∀ u∈M,okT u:=fun h=>a1 (h u hum hz).1
      have k96:=fun H=>QfN H u.2 a1
      repeat' (first | refine Qg ?_ | refine Qb ?_ | refine QL ?_ | refine Qt ?_ | refine Q9 ?_ | refine Qp ?_ | refine Qv ?_ | refine Qf ?_ | ((refine Qh ?_);first | refine Qk rfl ?_ | refine Qi rfl ?_) | ((refine Qe ?_);first | refine Qq rfl ?_ | refine QD rfl rfl rfl rfl rfl rfl ?_ | refine Q4 rfl rfl rfl rfl rfl rfl rfl ?_) | ((refine Qc ?_);first | refine Qu rfl ls ?_ | refine Qx (esz:=2) rfl rfl (by omega) ?_ | refine Yo rfl rd2 ?_ | refine X5 rfl rfl ?_ | (refine Ug rfl rfl ?_;rw [if_neg (by decide),hq]) | (refine Qn rfl (k96 h) ?_;rintro r h7 ⟨e7,n,rfl⟩;have st7:=sg.ext e7;have c47:=st7.c4) | (refine Xw rfl rfl c47 ?_;intro h3 w3) | refine Xo rfl ?_ | refine Qm rfl ?_ | refine QY rfl rfl ?_ | refine Yh rfl ?_ | refine Qw rfl rfl (by omega) ?_ | refine X6 rfl rfl ?_))
      exact Xs (.inr ⟨rfl,bad,w3.ext st7.e l.1,w3.cel,rfl⟩)
  · have:M.take i=M:=List.take_of_length_le (by omega)
    rw [this] at hall sg
    repeat' (first | refine Qg ?_ | refine Qb ?_ | refine QK ?_ | refine QH ?_ | refine Qf ?_ | ((refine Qh ?_);refine Qi rfl ?_) | ((refine Qe ?_);refine QD rfl rfl rfl rfl rfl rfl ?_) | ((refine Qc ?_);first | refine Qu rfl ls ?_ | refine Qm rfl ?_ | refine QE rfl rfl (by omega) ?_))
    exact Qz (.inl ⟨rfl,s,_,_,_,_,hall,sg,rfl⟩)
def QjQ (h0 h:Qa) (v:AV) (p:Pol):Prop:=∃ s,v=.agg [s,.bool p.big]∧OwnD h0 h s (tms p.ts)
theorem QcL (h0:Qa) (sx st:SV) (M:List Tm) (hx:IsInts h0 sx (M.map (·.1))) (ht:IsD h0 st (M.map wp)) (hn:M.length≤1000000) :
    ∃ r h',Cal FT HKt 82 [.sc sx,.sc st] h0 r h'∧Ext h0 h'∧QjQ h0 h' r (Y8 M):=by
  refine Cal.of (F:=a82) rfl rfl rfl ?_
  repeat' (first | refine Qg ?_ | refine Qb ?_ | refine Qt ?_ | refine Qf ?_ | ((refine Qe ?_);first | refine QB rfl rfl rfl ?_ | refine QS rfl rfl rfl rfl ?_ | refine QO rfl rfl rfl rfl rfl ?_) | ((refine Qc ?_);first | (have z:=e1;refine Xz ?_;intro h2 e2 c2;have d1:=c1.ext e2;have m1:=c1.lt) | (refine Xz ?_;intro h1 e1 c1) | refine Qm rfl ?_))
  refine QP (I82 h0 h0.length h1.length sx st M) M.length (R82 h0 h0.length h1.length M) ⟨0,.nilS,Nat.zero_le _,rfl,by simp,⟨e1.trans e2,d1,c2,.inl ⟨rfl,rfl⟩,⟨Nat.le_refl _,m1⟩⟩,rfl⟩ (Qhb h0 h0.length h1.length sx st M hx ht hn) ?_
  rintro ex E' h3 (⟨rfl,s,_,_,_,_,hall,sg,rfl⟩ | ⟨rfl,hb,e3,c4,rfl⟩)
  · have c4:=sg.c4
    have e:Y8 M=⟨false,M.filter nzT⟩:=by unfold Y8;rw [if_pos hall]
    rw [e]
    repeat' (first | refine Qg ?_ | refine Qb ?_ | refine QC ?_ | refine Qv ?_ | refine Qf ?_ | ((refine Qe ?_);refine Qq rfl ?_) | ((refine Qc ?_);first | refine Xa rfl sg.c5 ?_ | (refine Xw rfl rfl c4 ?_;intro h4 w4)))
    exact ⟨.inr rfl,XM rfl w4.cel.read ⟨w4.ext sg.e (Nat.le_refl _),s,rfl,sg.o.wrC w4⟩⟩
  · have e:Y8 M=JY:=by unfold Y8;rw [if_neg hb]
    rw [e]
    repeat' (first | refine QL ?_ | refine Q9 ?_)
    exact ⟨.inr rfl,XM rfl c4.read ⟨e3,.nilS,rfl,.inl ⟨rfl,rfl⟩⟩⟩
theorem Qk7 (h0:Qa) (sx st:SV) (M:List Tm) (hx:IsInts h0 sx (M.map (·.1))) (ht:IsD h0 st (M.map wp)) (hn:M.length≤1000000) :
    ∃ r h',Cal FT HKt 82 [.sc sx,.sc st] h0 r h'∧Ext h0 h'∧IsRf h' r (Y8 M):=by
  obtain ⟨r,h',a,b,s,c,d⟩:=QcL h0 sx st M hx ht hn
  exact ⟨r,h',a,b,s,c,d.is⟩
end Go.Proofs.YtofknpknogfijaaGreatDoor


namespace Go.Proofs.YtofknpknogfijaaGreatDoor
open Go.Ab
set_option linter.unusedVariables false
set_option linter.unusedSimpArgs false
set_option maxRecDepth 20000
set_option maxHeartbeats 4000000
attribute [local irreducible] Qj wA Xm Xk QI Qo QW QV
set_option linter.unusedSectionVars false
variable [HB]
def ngT (t:Tm):Tm:=(t.1,-t.2)
def ngP (p:Pol):Pol:=⟨p.big,p.ts.map ngT⟩
structure St48 (h0 h:Qa) (q1 q2 q3:Nat) (b:Bool) (s so:SV) (r:List Tm):Prop where
  e:Ext h0 h
  c1:Cel h q1 s (.bool b)
  c2:Cel h q2 .nilS (.bool false)
  c3:Cel h q3 so (.bool b)
  o:OwnD h0 h so (tms r)
  l:h0.length≤q1∧q1 < q2∧q2 < q3
theorem St48.ext {h0 h h':Qa} {q1 q2 q3:Nat} {b:Bool} {s so:SV} {r:List Tm} (u:St48 h0 h q1 q2 q3 b s so r) (e:Ext h h'):St48 h0 h' q1 q2 q3 b s so r:=⟨u.e.trans e,u.c1.ext e,u.c2.ext e,u.c3.ext e,u.o.ext e,u.l⟩
def I48 (h0:Qa) (q1 q2 q3:Nat) (s:SV) (p:Pol) (k:Nat) (E:Env) (h:Qa):Prop:=∃ (i:Nat) (so:SV),i≤p.ts.length∧k=p.ts.length-i∧St48 h0 h q1 q2 q3 p.big s so ((p.ts.take i).map ngT) ∧
  E.keep [1,2,3,4]=[(1,some (.sc (.ptr q1 0))),(2,some (.sc (.ptr q2 0))),(3,some (.sc (.ptr q3 0))),(4,some (.sc (.int .i64 (i:Nat))))]
def R48 (h0:Qa) (q1 q2 q3:Nat) (s:SV) (p:Pol) (ex:Ex) (E:Env) (h:Qa):Prop:=ex=.ex 0∧∃ so a b,St48 h0 h q1 q2 q3 p.big s so (p.ts.map ngT) ∧
  E=[(1,some (.sc (.ptr q1 0))),(2,some (.sc (.ptr q2 0))),(3,some (.sc (.ptr q3 0))),(4,a),(12,b)]
theorem Qhg (h0:Qa) (q1 q2 q3:Nat) (s:SV) (p:Pol) (hp:IsD h0 s (tms p.ts)) (hc:∀ t∈p.ts,t.2.natAbs≤cM) (hn:p.ts.length≤1000000) (k:Nat) (E:Env) (h:Qa) (hI:I48 h0 q1 q2 q3 s p k E h) :
    wA FT HKt Qi9 (E.keep [1,2,3,4]) h (Qo (I48 h0 q1 q2 q3 s p) k (R48 h0 q1 q2 q3 s p)):=by
  obtain ⟨i,so,hi,rfl,sg,hE⟩:=hI
  rw [hE]
  have ls:=hp.len
  rw [Xg] at ls
  have c1:=sg.c1
  have c3:=sg.c3
  have l:=sg.l
  by_cases hlt:i < p.ts.length
  · obtain ⟨t,ht⟩:∃ t,p.ts[i]?=some t:=⟨_,List.getElem?_eq_getElem hlt⟩
    have hct:=hc t (List.mem_of_getElem? ht)
    simp only [cM] at hct
    obtain ⟨id,off,cap,rfl,rd0⟩:=IsD.at hp (i:=i) (p:=tmP t) (by rw [List.getElem?_map,ht];rfl)
    have rd:=QA sg.e rd0
    obtain ⟨rda,rdb⟩:=rd1 rd
    rw [Xg] at ls c1
    have en:(p.ts.take (i+1)).map ngT=(p.ts.take i).map ngT++[(t.1,-t.2)]:=by rw [List.take_add_one,ht,List.map_append];rfl
    repeat' (first | refine Qg ?_ | refine Qb ?_ | refine Qt ?_ | refine QG ?_ | refine Qp ?_ | refine Qf ?_ | refine Xb ?_ | refine Xq ?_ | refine Xr ?_ | ((refine Qh ?_);refine Qk rfl ?_) | ((refine Qe ?_);first | refine Xd ?_ | refine XI ?_ | refine XD (by assumption) ?_ | refine QS rfl rfl rfl rfl ?_ | refine QO rfl rfl rfl rfl rfl ?_) | ((refine Qc ?_);first | refine QQ rfl ?_ | refine Q6 rfl c1 ?_ | refine Q6 rfl c3 ?_ | refine Qu rfl ls ?_ | refine Qx (esz:=2) rfl rfl (by omega) ?_ | refine Q2 rfl rda ?_ | refine Q2 rfl rdb ?_ | refine X5 rfl rfl ?_ | (refine JE rfl ?_;intro h8 e8 src8;have st8:=sg.ext e8) | (refine ZK st8.e st8.o rfl rfl src8 (by rw [Xg,List.length_map,List.length_take];simp only [XQ];omega) ?_;intro s' h2 o2 e2 f2 l2;have d3:=st8.c3.fram f2 (st8.o.cel st8.c3);have d1:=st8.c1.fram f2 (st8.o.cel st8.c1);have d2:=st8.c2.fram f2 (st8.o.cel st8.c2)) | (refine yD rfl rfl d3 ?_;intro h3 w3) | refine Qm rfl ?_ | refine QM rfl rfl (by omega) ?_ | refine Y1 rfl (by omega) ?_ | refine Qw rfl rfl (by omega) ?_))
    refine Qs (j:=p.ts.length-(i+1)) (by omega) ⟨i+1,s',by omega,rfl,⟨w3.ext e2 (by omega),w3.keep d1 (by omega),w3.keep d2 (by omega),w3.cel,?_,l⟩,rfl⟩
    have:=o2.wrC w3
    rw [en]
    simpa [tms,tmP] using this
  · have hie:p.ts.take i=p.ts:=List.take_of_length_le (by omega)
    rw [hie] at sg
    repeat' (first | refine Qg ?_ | refine Qb ?_ | refine QK ?_ | refine QH ?_ | refine Qf ?_ | ((refine Qh ?_);refine Qi rfl ?_) | ((refine Qe ?_);refine QO rfl rfl rfl rfl rfl ?_) | ((refine Qc ?_);first | refine QQ rfl ?_ | refine Q6 rfl c1 ?_ | refine Qu rfl ls ?_ | refine Qm rfl ?_ | refine QE rfl rfl (by omega) ?_))
    exact Qz ⟨rfl,so,_,_,sg,rfl⟩
theorem Qlc (h0:Qa) (s:SV) (p:Pol) (hp:IsD h0 s (tms p.ts)) (hc:∀ t∈p.ts,t.2.natAbs≤cM) (hn:p.ts.length≤1000000) :
    ∃ r h',Cal FT HKt 48 [.agg [s,.bool p.big]] h0 r h'∧Ext h0 h'∧IsRf h' r (ngP p):=by
  refine Cal.of (F:=a48) rfl rfl rfl ?_
  repeat' (first | refine Qg ?_ | refine Qb ?_ | refine Qt ?_ | refine Qf ?_ | ((refine Qe ?_);first | refine Qy rfl rfl ?_ | refine QB rfl rfl rfl ?_ | refine QS rfl rfl rfl rfl ?_) | ((refine Qc ?_);first | (have z:=e2;refine Jb rfl ?_;intro h3 e3 c3;have d1:=(c1.ext e2).ext e3;have d2:=c2.ext e3;have m2:=c2.lt;have m1:=c1.lt) | (have z:=e1;refine Xz ?_;intro h2 e2 c2;have c1':=c1.ext e2) | (refine Q3 rfl ?_;intro h1 e1 c1) | refine QQ rfl ?_ | refine Xc rfl c1' ?_ | refine X5 rfl rfl ?_ | refine Qm rfl ?_))
  refine QP (I48 h0 h0.length h1.length h2.length s p) p.ts.length (R48 h0 h0.length h1.length h2.length s p) ⟨0,.nilS,Nat.zero_le _,rfl,⟨e1.trans (e2.trans e3),d1,d2,c3,.inl ⟨rfl,rfl⟩,⟨Nat.le_refl _,m1,m2⟩⟩,rfl⟩ (Qhg h0 h0.length h1.length h2.length s p hp hc hn) ?_
  rintro ex E' h4 ⟨rfl,so,_,_,sg,rfl⟩
  have c2':=sg.c2
  repeat' (first | refine Qg ?_ | refine Qb ?_ | refine QC ?_ | refine Qv ?_ | refine Qf ?_ | ((refine Qe ?_);refine Qq rfl ?_) | ((refine Qc ?_);first | refine Xa rfl sg.c3 ?_ | (refine Xw rfl rfl c2' ?_;intro h5 w5)))
  exact ⟨.inr rfl,XM rfl w5.cel.read ⟨w5.ext sg.e e1.len,so,rfl,(sg.o.wrC w5).is⟩⟩
end Go.Proofs.YtofknpknogfijaaGreatDoor


