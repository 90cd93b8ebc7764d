/- The reference's -/
import Derived.Shelf.SlIterI.Nil
import Derived.Shelf.SortM.Plain
import Derived.Shelf.SortM.SortNone
import Derived.Shelf.LaysM
import Derived.Shelf.Spec.TrailingZeros
import Derived.Shelf.Strconv.Itoa3
import Derived.Test.YtofknpknogfijaaGreatDoorAwake
import Derived.Test.YtofknpknogfijaaGreatDoorDE1
namespace Go.Proofs.YtofknpknogfijaaGreatDoor
open Go.Ab
set_option linter.all false
set_option maxHeartbeats 16000000
set_option maxRecDepth 20000
attribute [local irreducible] Qm wA Xp Xo QI Qp QZ QY
variable [HB]
section
variable {FT:zzA} {HK:zzH} {E:Env} {h:Qa} {K:Env->Qa->Prop} {d:Option Nat} {r:List AOp} {x:AO}
theorem k_bl0{z:SV}(hw:Qm FT HK r (Qv d (some (.sc (.slc h.length 0 0 (some 0)))) E) (h++[.cells [] true 1]) K):Qm FT HK (⟨d,.bsl 1 [z] 0 [],none⟩::r) E h K :=
 Q2 rfl rfl (by simp[Qo,XR,YX,rep]) hw
theorem Qn6{a z0:SV}(hx:ev E x=some (.sc a))(hw:Qm FT HK r (Qv d (some (.sc (.slc h.length 0 1 (some 1)))) E) (h++[.cells [a] true 1]) K):Qm FT HK (⟨d,.bsl 1 [z0] 1 [(0,x)],none⟩::r) E h K:=by
 refine Q2 (v:=some (.sc (.slc h.length 0 1 (some 1)))) (h':=h++[.cells [a] true 1]) rfl rfl ?_ hw
 simp[Qo,XR,hx,AV.cells,YX,rep,Q8]
end
def idS:SV->List Nat
 | .slc id _ _ _=>[id]
 | _=>[]
theorem QhH(s:SV)(id:Nat)(h:(match some s with|some (.slc id _ _ _)=>some id|_=>none)=some id):id∈idS s:=by
 cases s <;> simp[idS]at h ⊢
 exact h.symm
theorem Qoc{h:Qa}{s:SV}{ps:List P2}(hs:IsD h s ps):∀ id∈idS s,id<h.length:=fun id hid=>by
 rcases hs with ⟨rfl,-,-⟩|⟨id',off,cap,b,rfl,h1,-⟩
 ·simp[idS]at hid
 ·simp[idS]at hid
  subst hid
  exact(Gb.1 h1).1
theorem Qew{h h':Qa}{s s':SV}(f:Fram h h' s s'){id:Nat}(hl:id<h.length)(hn:XW s id):h'[id]?=h[id]?/\XW s' id:=by
 have:=f id _ (Ga hl) hn
 exact⟨by rw[this.1,Ga hl],this.2⟩
theorem UU{h h':Qa}(he:Ext h h'){e:ESz}{l u:Nat}{s s':SV}(hs:YR h e l u s=some s'):YR h' e l u s=some s':=by
 cases s
 case nilS=>exact hs
 case slc =>
  simp only[YR]at hs ⊢
  split at hs
  ·rename_i b hg
   rw[he.get _ _ hg]
   exact hs
  ·cases hs
 all_goals exact hs
section
variable {FT:zzA} {HK:zzH} {E:Env} {h hb:Qa} {K:Env->Qa->Prop} {d:Option Nat} {r:List AOp} {x lo hi:AO}
theorem Qn7{z0 z1:SV}(hw:Qm FT HK r (Qv d (some (.sc (.slc h.length 0 0 (some 0)))) E) (h++[.cells [] true 2]) K):Qm FT HK (⟨d,.bsl 2 [z0,z1] 0 [],none⟩::r) E h K :=
 Q2 rfl rfl (by simp[Qo,XR,YX,rep]) hw
theorem Qn5{a b z0 z1:SV}(hx:ev E x=some (.agg [a,b]))(hw:Qm FT HK r (Qv d (some (.sc (.slc h.length 0 1 (some 1)))) E) (h++[.cells [a,b] true 2]) K):Qm FT HK (⟨d,.bsl 2 [z0,z1] 1 [(0,x)],none⟩::r) E h K:=by
 refine Q2 (v:=some (.sc (.slc h.length 0 1 (some 1)))) (h':=h++[.cells [a,b] true 2]) rfl rfl ?_ hw
 simp[Qo,XR,hx,AV.cells,YX,rep,Q8,ez2]
theorem Qhv{s:SV}{ps:List P2}{u:Int}(he:Ext hb h)(hs:IsD hb s ps)(hx:evS E x=some s)(hh:evS E hi=some (.int .i64 u))(hu:0<=u/\u<=ps.length)
  (hw:∀ s',IsD hb s' (ps.take u.toNat)->Qm FT HK r (Qv d (some (.sc s')) E) h K):Qm FT HK (⟨d,.sl 2 x none (some hi),none⟩::r) E h K:=by
 obtain⟨s',h1,h2⟩:=prsTo (u:=u.toNat) hs (by omega)
 refine Q2 (v:=some (.sc s')) (h':=h) rfl rfl ?_ (hw s' h2)
 simp[Qo,hx,hh,hs.len,bnd,UU he h1,hu.1]
theorem Qc7{s:SV}{ps:List P2}{l:Int}(he:Ext hb h)(hs:IsD hb s ps)(hx:evS E x=some s)(hh:evS E lo=some (.int .i64 l))(hl:0<=l/\l<=ps.length)
  (hw:∀ s',IsD hb s' (ps.drop l.toNat)->Qm FT HK r (Qv d (some (.sc s')) E) h K):Qm FT HK (⟨d,.sl 2 x (some lo) none,none⟩::r) E h K:=by
 obtain⟨s',h1,h2⟩:=Qks (l:=l.toNat) hs (by omega)
 refine Q2 (v:=some (.sc s')) (h':=h) rfl rfl ?_ (hw s' h2)
 simp[Qo,hx,hh,hs.len,bnd,UU he h1,hl.1]
end
theorem QbG{a:Int}:∀ {l:List Int} {i:Nat},l[i]?=some a->l.set i a=l
 | [],i,h=>by simp at h
 | x::r,0,h=>by simp at h;simp[h]
 | x::r,i+1,h=>by simp at h;simp[QbG h]
def wp(u:Tm):P2:=(nh u.2,nl u.2)
def YS(e v:Int):List Tm->List Tm
 | []=>[(e,v)]
 | u::r=>if u.1<e then u::YS e v r else if u.1=e then (e,u.2+v)::r else (e,v)::u::r
theorem QbQ{e v:Int}:∀ {M:List Tm} {i:Nat} {w:Int},(∀ u∈M.take i,u.1<e)->M[i]?=some (e,w)->YS e v M=M.set i (e,w+v)
 | [],i,w,h,hi=>by simp at hi
 | u::r,0,w,h,hi=>by
  simp at hi
  subst hi
  simp[YS]
 | u::r,i+1,w,h,hi=>by
  have h0:u.1<e:=h u (by simp)
  have ih:=QbQ (v:=v) (M:=r) (i:=i) (w:=w) (fun u' hu=>h u' (by simp[hu])) (by simpa using hi)
  simp only[YS,if_pos h0,ih,List.set_cons_succ]
theorem QbT{e v:Int}:∀ {M:List Tm} {i:Nat},(∀ u∈M.take i,u.1<e)->i<=M.length->(∀ u,M[i]?=some u->e<u.1)->YS e v M=M.take i++(e,v)::M.drop i
 | [],i,h,hl,hi=>by simp[YS]
 | u::r,0,h,hl,hi=>by
  have:=hi u (by simp)
  simp only[YS,if_neg (show ¬ u.1<e by omega),if_neg (show ¬ u.1=e by omega),List.take_zero,Hi,List.nil_append]
 | u::r,i+1,h,hl,hi=>by
  have h0:u.1<e:=h u (by simp)
  have ih:=QbT (v:=v) (M:=r) (i:=i) (fun u' hu=>h u' (by simp[hu])) (by simpa using hl) (fun u' hu=>hi u' (by simpa using hu))
  simp only[YS,if_pos h0,ih,Hb,HC,List.cons_append]
def I80(h1:Qa)(q7:Nat)(sx st:SV)(e:Int)(M:List Tm)(k:Nat)(E:Env)(h:Qa):Prop:=∃ i:Nat,i<=M.length/\k=M.length-i/\(∀ u∈M.take i,u.1<e)/\h=h1 ∧
 E.keep [0,1,2,7,10]=[(0,some (.sc sx)),(1,some (.sc st)),(2,some (.sc (.int .i64 e))),(7,some (.sc (.ptr q7 0))),(10,some (.sc (.int .i64 (i:Nat))))]
def R80(h1:Qa)(q7:Nat)(sx st:SV)(e:Int)(M:List Tm)(ex:Ex)(E:Env)(h:Qa):Prop:=ex = .ex 0/\∃ i:Nat,∃ d,i<=M.length/\(∀ u∈M.take i,u.1<e)/\(∀ u,M[i]?=some u->e<=u.1)/\h=h1 ∧
 E=[(0,some (.sc sx)),(1,some (.sc st)),(2,some (.sc (.int .i64 e))),(7,some (.sc (.ptr q7 0))),(10,some (.sc (.int .i64 (i:Nat)))),(25,d)]
theorem Qj4(h1:Qa)(q7:Nat)(sx st:SV)(e:Int)(M:List Tm)(hx:IsInts h1 sx (M.map (·.1)))(hn:M.length<=1000000)(k:Nat)(E:Env)(h:Qa)(hI:I80 h1 q7 sx st e M k E h) :
  wA FT HKt Ql1 (E.keep [0,1,2,7,10]) h (Qp (I80 h1 q7 sx st e M) k (R80 h1 q7 sx st e M)):=by
 obtain⟨i,hi,rfl,hlt,rfl,hE⟩:=hI
 rw[hE]
 have ls:=IsSl.len hx
 rw[Gj]at ls
 by_cases h1:i<M.length
 ·obtain⟨u,hu⟩:∃ u,M[i]?=some u:=⟨_,Ga h1⟩
  obtain⟨id,off,cap,rfl,rd⟩:=IsInts.at hx (i:=i) (x:=u.1) (by rw[Gh,hu];rfl)
  rw[Gj]at ls ⊢
  by_cases h2:u.1<e
  ·repeat' first|apply Qf|apply Qb|apply Qt|apply QL|apply Qn|apply Qe|(apply Qg;refine Qk rfl ?_)|(apply Qd;first|refine QO rfl rfl rfl rfl rfl ?_|refine QE rfl rfl rfl rfl rfl rfl ?_)|(apply Qc;first|refine Qr rfl ls ?_|refine Qy (esz:=1) rfl rfl (by omega) ?_|refine Q1 rfl rd ?_|refine QP rfl ?_|refine Ql rfl ?_|refine QR rfl rfl ?_|refine QM rfl rfl (by omega) ?_|refine Qx rfl rfl (by omega) ?_)
   refine Qz (j:=M.length-(i+1)) (by omega) ⟨i+1,by omega,rfl,fun x hx=>?_,rfl,rfl⟩
   rw[GB,hu]at hx
   rcases Gy.1 hx with hx|hx
   ·exact hlt x hx
   ·simp at hx;subst hx;exact h2
  ·repeat' first|apply Qf|apply Qb|apply QS|apply QQ|apply Qe|(apply Qg;refine Qi rfl ?_)|(apply Qd;refine QE rfl rfl rfl rfl rfl rfl ?_)|(apply Qc;first|refine Qr rfl ls ?_|refine Qy (esz:=1) rfl rfl (by omega) ?_|refine Q1 rfl rd ?_|refine QP rfl ?_|refine Ql rfl ?_|refine QR rfl rfl ?_|refine Qx rfl rfl (by omega) ?_|refine QF rfl rfl (by omega) ?_)
   exact QB ⟨rfl,i,_,hi,hlt,(fun x hx=>by rw[hu]at hx;cases hx;omega),rfl,rfl⟩
 ·repeat' first|apply Qf|apply Qb|apply QS|apply QQ|apply Qe|(apply Qg;refine Qi rfl ?_)|(apply Qd;refine QE rfl rfl rfl rfl rfl rfl ?_)|(apply Qc;first|refine Qr rfl ls ?_|refine Xd rfl ?_|refine Ql rfl ?_|refine QJ rfl rfl ?_|refine QF rfl rfl (by omega) ?_)
  exact QB ⟨rfl,i,_,hi,hlt,(fun x hx=>by rw[Gr (by omega)]at hx;cases hx),rfl,rfl⟩
theorem Qot(h0:Qa)(sx st:SV)(e v:Int)(M:List Tm)(hx:IsInts h0 sx (M.map (·.1)))(ht:IsD h0 st (M.map wp))(hn:M.length<=1000000)(hv:v.natAbs<=2^104)(hM:∀ u∈M,u.2.natAbs<=2^104) :
  ∃ r h',Cal FT HKt 80 [.sc sx,.sc st,.sc (.int .i64 e),nf v] h0 r h'/\Ext h0 h'/\∃ s1 s2,r = .tup [.sc s1,.sc s2]/\IsInts h' s1 ((YS e v M).map (·.1))/\IsD h' s2 ((YS e v M).map wp):=by
 refine Cal.of (F:=a80) rfl rfl rfl ?_
 repeat' first|apply Qf|apply Qb|apply Qt|apply Qe|(apply Qd;first|refine QG rfl rfl rfl rfl ?_|refine QO rfl rfl rfl rfl rfl ?_)|(apply Qc;first|(refine QD rfl ?_;intro h1 e1 c1)|refine Ql rfl ?_)
 refine QV (I80 h1 h0.length sx st e M) M.length (R80 h1 h0.length sx st e M) ⟨0,Gm _,rfl,by simp,rfl,rfl⟩ (Qj4 h1 h0.length sx st e M (IsSl.ext hx e1) hn) ?_
 rintro ex E' h1 ⟨rfl,i,d,hi,hlt,hge,rfl,rfl⟩
 have hx1:IsInts h1 sx (M.map (·.1)):=IsSl.ext hx e1
 have ht1:IsD h1 st (M.map wp):=ht.ext e1
 have ls:=IsSl.len hx1
 rw[Gj]at ls
 have lt:=ht1.len
 rw[Gj]at lt
 by_cases heq:∃ w,M[i]?=some (e,w)
 ·obtain⟨w,hw⟩:=heq
  have hiM:i<M.length:=(Gb.1 hw).1
  have hwm:(e,w)∈M:=Gg hw
  have hp:(M.map wp)[i]?=some (wp (e,w)):=by rw[Gh,hw];rfl
  have hpm:=QbQ (v:=v) hlt hw
  have k94:=fun H=>VA H w v (by have:=hM _ hwm;simp only at this;omega) (by omega)
  obtain⟨id,off,cap,rfl,rd⟩:=IsInts.at hx1 (i:=i) (x:=e) (by rw[Gh,hw];rfl)
  rw[Gj]at ls hx1 ⊢
  repeat' first|apply Qf|apply Qb|apply QC|apply QK|apply Qs|apply Qe|apply Q7|apply Xm|apply Xn|(apply Qg;refine Qk rfl ?_)|(apply Qd;first|apply Q5|apply Xw|refine QA rfl rfl ?_|refine QG rfl rfl rfl rfl ?_|refine QE rfl rfl rfl rfl rfl rfl ?_)|(apply Qc;first|refine Qr rfl ls ?_|refine Qy (esz:=1) rfl rfl (by omega) ?_|refine Q1 rfl rd ?_|(apply QkH;intro h2 e2 o2;have c2:=c1.ext e2;have t2:=ht1.ext e2)|(refine UE e2 o2 rfl rfl t2 (by simp only[XS,Gj,GC];omega) ?_;intro s3 h3 o3 e3 f3 l3;have c3:=c2.fram f3 (o2.cel c2);rw[List.nil_append]at o3;obtain⟨id3,cap3,rfl,rd3⟩:=o3.rd hp;rw[Gj])|refine Qy (esz:=2) rfl rfl (by omega) ?_|refine XH rfl rd3 ?_|refine QU rfl c3 ?_|(refine Qj rfl (k94 h3) ?_;rintro r h4 ⟨e4,rfl⟩;have o4:=o3.ext e4;obtain⟨id5,cap5,h5,q5,wr5,o5,e5,f5,l5⟩:=o4.wr (e3.trans e4) (i:=i) (by rw[Gj];exact hiM) (nh (w+v)) (nl (w+v));cases q5)|refine QlO rfl rfl wr5 ?_|refine QP rfl ?_|refine Ql rfl ?_|refine QR rfl rfl ?_|refine Qx rfl rfl (by omega) ?_|refine Xu rfl rfl (by omega) ?_)
  refine⟨.inr rfl,e1.trans e5,_,_,rfl,?_,?_⟩
  ·rw[hpm,List.map_set,QbG (by rw[Gh,hw];rfl)]
   have:=IsSl.ext hx1 e5
   unfold IsInts
   rwa [Gj]at this ⊢
  ·rw[hpm,List.map_set]
   have:=o5.is
   rw[Gj]at this
   exact this
 ·have hgt:∀ u,M[i]?=some u->e<u.1:=fun u hu=>by
   have h1:=hge u hu
   by_cases h2:u.1=e
   ·exact absurd ⟨u.2,by rw[hu,← h2]⟩ heq
   ·omega
  have hpm:=QbT (v:=v) hlt hi hgt
  obtain⟨s57,q57,p57⟩:=Qob (u:=i) hx1 (by rw[Gj];exact hi)
  obtain⟨s64,q64,p64⟩:=QhG (l:=i) hx1 (by rw[Gj];exact hi)
  rw[Gj]at q64
  have nol:∀ {S:List Nat} {ord:Bool} {k:AK} (E:Env) (id:Nat),ldX E ord k=some id->ldX E ord k=none->id∈S:=fun E id h1 h2=>by rw[h2]at h1;cases h1
  by_cases hiM:i<M.length
  case' pos =>
   obtain⟨u,hu⟩:∃ u,M[i]?=some u:=⟨_,Ga hiM⟩
   have hne:u.1≠e:=by have:=hgt u hu;omega
   obtain⟨id,off,cap,rfl,rd⟩:=IsInts.at hx1 (i:=i) (x:=u.1) (by rw[Gh,hu];rfl)
   rw[Gj]at ls hx1 q57 q64 ⊢
   repeat' first|apply Qf|apply Qb|apply QK|apply Qn|apply Qe|(apply Qg;refine Qi rfl ?_)|(apply Qd;refine QE rfl rfl rfl rfl rfl rfl ?_)|(apply Qc;first|refine Qr rfl ls ?_|refine Qy (esz:=1) rfl rfl (by omega) ?_|refine Q1 rfl rd ?_|refine QP rfl ?_|refine Ql rfl ?_|refine QR rfl rfl ?_|refine Qx rfl rfl (by omega) ?_|refine Xl rfl rfl (by omega) ?_)
   generalize SV.slc id off M.length cap=sx at *
  case' neg =>
   repeat' first|apply Qf|apply Qb|apply QK|apply Qn|apply Qe|(apply Qg;refine Qi rfl ?_)|(apply Qd;refine QE rfl rfl rfl rfl rfl rfl ?_)|(apply Qc;first|refine Qr rfl ls ?_|refine Xd rfl ?_|refine Ql rfl ?_|refine QJ rfl rfl ?_|refine QF rfl rfl (by omega) ?_)
  all_goals
   refine QdA [] [h1.length+1] ?_
   refine Yl (fun id h=>nol _ id h rfl) (k_bl0 (Qgp ⟨_,rfl⟩ (by simp) ?_))
   refine Yl (fun id h=>nol _ id h rfl) (Ql rfl (YF ?_))
   refine Yl (fun id h=>nol _ id h rfl) (Ql rfl (YF ?_))
   refine Yl (fun id h=>nol _ id h rfl) (k_to rfl ls rfl (by omega) q57 (YF ?_))
   refine Yl (fun id h=>nol _ id h rfl) (Ql rfl (YF ?_))
   refine Yl (fun id h=>nol _ id h rfl) (Qn6 rfl (s_al ⟨_,rfl⟩ (by simp) (fun id i1 i2=>by simp at i1 i2 ⊢;omega) ?_))
   have lB1:(h1++[Blk.cells [] true 1]).length=h1.length+1:=by simp
   rw[lB1]
   generalize hBe:h1++[Blk.cells [] true 1]++[Blk.cells [SV.int .i64 e] true 1]=hB
   have eB:Ext h1 hB:=by rw[← hBe,GK];exact⟨_,rfl⟩
   have oB:Own h1 hB (.slc h1.length 0 0 (some 0)) []:=by rw[← hBe];exact(Own.lit0 h1).ext ⟨_,rfl⟩
   have gB:hB[h1.length+1]?=some (Blk.cells [SV.int .i64 e] true 1):=by rw[← hBe,Gi (by simp)];simp
   refine Yl (fun id h=>nol _ id h rfl) (Ql rfl (YF ?_))
   refine Yl (fun id h=>nol _ id h rfl) (Ql rfl (YF ?_))
   refine Yl (fun id h=>nol _ id h rfl) (QhA rfl ls rfl (by omega) q64 (YF ?_))
   refine Yl (fun id h=>nol _ id h rfl) (Qn8 eB oB rfl rfl (IsInts.src (IsSl.ext p57 eB)) (by simp only[XS,Gj,GJ];omega) ?_)
   intro s58 h3 o3 e3 f3
   have g3:=e3.get _ _ gB
   have e13:=eB.trans e3
   refine QdP (fun id hid=>nomatch hid) ?_ (fun id hid _=>by rw[GX.1 hid,gB,g3])
   have sr2:Xs h3 1 (.slc (h1.length+1) 0 1 (some 1))=some ([SV.int .i64 e].length,[SV.int .i64 e]):=by simp[Xs,Q3,g3,cut]
   refine Yl (fun id h=>nol _ id h rfl) (Qag e13 o3 rfl rfl sr2 (by simp only[XS,Gj,GJ,Gu,GC];omega) ?_)
   intro s61 h4 o4 e4 l4 f4
   refine QaF rfl ?_
   refine Yl (fun id h=>nol _ id h rfl) (Qag e4 o4 rfl rfl (IsInts.src (IsSl.ext p64 e4)) (by simp only[XS,Gz,Gj,GJ,Hf,Gu,GC];omega) ?_)
   intro s65 h5 o5 e5 l5 f5
   refine QaF rfl ?_
   refine Yl (fun id h=>nol _ id h rfl) (Ql rfl (YF ?_))
   refine Qgo ?_
   repeat' first|apply Qf|apply Qb|(apply Qd;refine QG rfl rfl rfl rfl ?_)
   have c5:=c1.ext e5
   have t5:=ht1.ext e5
   have hS:∀ id∈h0.length::idS st,id<h5.length:=fun id hid=>by
    rcases GO.1 hid with rfl|hid
    ·exact c5.lt
    ·exact Qoc t5 id hid
   have noS:∀ id∈h0.length::idS st,∀ n c,XW (.slc h5.length 0 n c) id:=fun id hid n c o n' c' e=>by
    have:=hS id hid
    cases e;omega
   refine QdA (h0.length::idS st) [h5.length+1] ?_
   refine Yl (fun id h=>nol _ id h rfl) (Qn7 (Qgp ⟨_,rfl⟩ hS ?_))
   have eA:Ext h5 (h5++[Blk.cells [] true 2]):=⟨_,rfl⟩
   refine Yl (fun id h=>nol _ id h rfl) (Ql rfl (YF ?_))
   refine Yl (fun id h=>nol _ id h rfl) (Ql rfl (YF ?_))
   refine Yl (fun id h=>List.mem_cons_of_mem _ (QhH st id h)) (Qhv eA t5 rfl rfl (by rw[Gj];omega) ?_)
   intro s69 d69
   refine YF ?_
   refine Yl (fun id h=>by cases h;exact List.mem_cons_self ..) (QU rfl (c5.ext eA) (YF ?_))
   refine Yl (fun id h=>nol _ id h rfl) (Qn5 rfl (s_al ⟨_,rfl⟩ (fun id hid=>by have:=hS id hid;simp;omega) (fun id i1 i2=>by simp at i1 i2 ⊢;omega) ?_))
   have lC1:(h5++[Blk.cells [] true 2]).length=h5.length+1:=by simp
   rw[lC1]
   generalize hCe:h5++[Blk.cells [] true 2]++[Blk.cells [nh v,nl v] true 2]=hC
   have eC:Ext h5 hC:=by rw[← hCe,GK];exact⟨_,rfl⟩
   have lC:hC.length=h5.length+2:=by rw[← hCe];simp
   have oC:OwnD h5 hC (.slc h5.length 0 0 (some 0)) []:=by
    rw[← hCe]
    exact OwnD.ext (.inr ⟨h5.length,some 0,[],rfl,Gd _,by simp,by simp[prs],by simp[RoomD]⟩) ⟨_,rfl⟩
   have gC:hC[h5.length+1]?=some (Blk.cells [nh v,nl v] true 2):=by rw[← hCe,Gi (by simp)];simp
   have dC:IsD hC (.slc (h5.length+1) 0 1 (some 1)) [(nh v,nl v)] := .inr ⟨_,_,_,_,rfl,gC,rfl,fun h=>by simp at h,fun _=>⟨_,_,rfl,by simp[cut,prs,ez2]⟩⟩
   refine Yl (fun id h=>nol _ id h rfl) (Ql rfl (YF ?_))
   refine Yl (fun id h=>nol _ id h rfl) (Ql rfl (YF ?_))
   refine Yl (fun id h=>List.mem_cons_of_mem _ (QhH st id h)) (Qc7 eC t5 rfl rfl (by rw[Gj];omega) ?_)
   intro s76 d76
   refine YF ?_
   refine Yl (fun id h=>nol _ id h rfl) (UE eC oC rfl rfl (d69.ext eC) (by simp only[XS,Gj,GJ,GC];omega) ?_)
   intro s70 h6 o6 e6 f6 l6
   have nA:XW (.slc h5.length 0 0 (some 0)) (h5.length+1):=fun o n c e=>by simp only[SV.slc.injEq]at e;omega
   have k6:=fun id (hid:id∈h0.length::idS st)=>Qew f6 (show id<hC.length by have:=hS id hid;omega) (noS id hid _ _)
   have k6A:=Qew f6 (show h5.length+1<hC.length by omega) nA
   refine QdP (fun id hid=>(k6 id hid).1) ?_ (fun id hid _=>by rw[GX.1 hid];exact k6A.1)
   have g6:h6[h5.length+1]?=some (Blk.cells [nh v,nl v] true 2):=by rw[k6A.1,gC]
   have d6:IsD h6 (.slc (h5.length+1) 0 1 (some 1)) [(nh v,nl v)] := .inr ⟨_,_,_,_,rfl,g6,rfl,fun h=>by simp at h,fun _=>⟨_,_,rfl,by simp[cut,prs,ez2]⟩⟩
   refine Yl (fun id h=>nol _ id h rfl) (UE e6 o6 rfl rfl d6 (by simp only[XS,Gz,Gj,GJ,Gu,GC];omega) ?_)
   intro s73 h7 o7 e7 f7 l7
   refine QdP (fun id hid=>(Qew f7 (by have:=hS id hid;omega) (k6 id hid).2).1) ?_ (fun id hid _=>by rw[GX.1 hid];exact(Qew f7 (by omega) k6A.2).1)
   refine Yl (fun id h=>nol _ id h rfl) (UE e7 o7 rfl rfl (d76.ext e7) (by simp only[XS,Gz,Gj,GJ,Hf,Gu,GC];omega) ?_)
   intro s77 h8 o8 e8 f8 l8
   refine QaF rfl ?_
   refine Yl (fun id h=>nol _ id h rfl) (Ql rfl (YF ?_))
   refine Qgo ?_
   repeat' first|apply Qf|apply Qb|apply Qs|apply Qe|(apply Qd;refine QA rfl rfl ?_)|(apply Qc;refine Ql rfl ?_)
   refine⟨.inr rfl,e1.trans (e5.trans e8),_,_,rfl,?_,?_⟩
   ·have:=IsSl.ext o5.sl e8
    rw[hpm]
    unfold IsInts
    simpa [List.map_take,List.map_drop]using this
   ·have:=o8.is
    rw[hpm]
    simpa [List.map_take,List.map_drop,wp]using this
def okT(u:Tm):Prop:=u.2≠0->u.2.natAbs<=cM/\u.1.natAbs<=eM
abbrev nzT(u:Tm):Bool:=decide (u.2≠0)
noncomputable def ZA(M:List Tm):Pol:=open Classical in if ∀ u∈M,okT u then ⟨false,M.filter nzT⟩ else Zi
theorem Qil(h0:Qa)(x:Int)(hx:x.natAbs<=cM):∃ r h',Cal FT HKt 113 [nf x] h0 r h'/\Ext h0 h'/\r = .tup [.sc (.int .i64 x),.sc (.bool true)]:=by
 obtain⟨r,h',a,b,n,ok,rfl,c,d⟩:=QeN h0 (x/1125899906842624) (x%1125899906842624) (by omega)
 rw[show x/1125899906842624*1125899906842624+x%1125899906842624=x by omega]at c d
 have:=c.2 hx
 subst this
 exact⟨_,h',a,b,by rw[d rfl]⟩
theorem Qim(h0:Qa)(x:Int)(hx:¬ x.natAbs<=cM):∃ r h',Cal FT HKt 113 [nf x] h0 r h'/\Ext h0 h'/\∃ n,r = .tup [.sc (.int .i64 n),.sc (.bool false)]:=by
 obtain⟨r,h',a,b,n,ok,rfl,c,d⟩:=QeN h0 (x/1125899906842624) (x%1125899906842624) (by omega)
 rw[show x/1125899906842624*1125899906842624+x%1125899906842624=x by omega]at c d
 cases ok with
 | true=>exact absurd (c.1 rfl) hx
 | false=>exact⟨_,h',a,b,n,rfl⟩
def I82(h0:Qa)(q4 q5:Nat)(sx st:SV)(M:List Tm)(k:Nat)(E:Env)(h:Qa):Prop:=∃(i:Nat) (s:SV),i<=M.length/\k=M.length-i/\(∀ u∈M.take i,okT u)/\St27 h0 h q4 q5 false s ((M.take i).filter nzT) ∧
 E.keep [0,1,4,5,6]=[(0,some (.sc sx)),(1,some (.sc st)),(4,some (.sc (.ptr q4 0))),(5,some (.sc (.ptr q5 0))),(6,some (.sc (.int .i64 (i:Nat))))]
def R82(h0:Qa)(q4 q5:Nat)(M:List Tm)(ex:Ex)(E:Env)(h:Qa):Prop :=
 (ex = .ex 0/\∃ s a b c d,(∀ u∈M,okT u)/\St27 h0 h q4 q5 false s (M.filter nzT)/\E=[(0,a),(1,b),(4,some (.sc (.ptr q4 0))),(5,some (.sc (.ptr q5 0))),(6,c),(12,d)]) ∨
 (ex = .rt/\¬(∀ u∈M,okT u)/\Ext h0 h/\Cel h q4 .nilS (.bool true)/\E=[(4,some (.sc (.ptr q4 0)))])
theorem Qj3(h0:Qa)(q4 q5:Nat)(sx st:SV)(M:List Tm)(hx:IsInts h0 sx (M.map (·.1)))(ht:IsD h0 st (M.map wp))(hn:M.length<=1000000)(k:Nat)(E:Env)(h:Qa)(hI:I82 h0 q4 q5 sx st M k E h) :
  wA FT HKt QlY (E.keep [0,1,4,5,6]) h (Qp (I82 h0 q4 q5 sx st M) k (R82 h0 q4 q5 M)):=by
 obtain⟨i,s,hi,rfl,hall,sg,hE⟩:=hI
 rw[hE]
 have ls:=IsSl.len hx
 rw[Gj]at ls
 by_cases hlt:i<M.length
 ·obtain⟨u,hu⟩:∃ u,M[i]?=some u:=⟨_,Ga hlt⟩
  have hum:u∈M:=Gg hu
  obtain⟨id,off,cap,rfl,rd0⟩:=IsInts.at hx (i:=i) (x:=u.1) (by rw[Gh,hu];rfl)
  obtain⟨id2,off2,cap2,rfl,rd20⟩:=IsD.at ht (i:=i) (p:=wp u) (by rw[Gh,hu];rfl)
  have rd:=Qw sg.e rd0
  have rd2:=Qw sg.e rd20
  rw[Gj]at ls
  rw[Gj,Gj]
  have c4:=sg.c4
  have c5:=sg.c5
  have l:=sg.l
  have tk:M.take (i+1)=M.take i++[u]:=by rw[GB,hu];rfl
  have step:okT u->∀ x∈M.take (i+1),okT x:=fun h x hx=>by
   rw[tk]at hx
   rcases Gy.1 hx with hx|hx
   ·exact hall x hx
   ·rw[GX.1 hx];exact h
  by_cases hz:u.2=0
  ·have hq:(u.2/1125899906842624==0&&u.2%1125899906842624==0)=true:=by rw[hz];rfl
   have fl:(M.take (i+1)).filter nzT=(M.take i).filter nzT:=by rw[tk,List.filter_append];simp[nzT,hz]
   repeat' first|apply Qf|apply Qb|apply QS|apply Qt|apply QK|apply Qn|apply QQ|apply Qe|(apply Qg;refine Qk rfl ?_)|(apply Qd;first|refine QO rfl rfl rfl rfl rfl ?_|refine QE rfl rfl rfl rfl rfl rfl ?_)|(apply Qc;first|refine Qr rfl ls ?_|refine Qy (esz:=2) rfl rfl (by omega) ?_|refine XH rfl rd2 ?_|refine Xz rfl rfl ?_|(refine qT rfl rfl ?_;rw[if_neg (by decide),hq])|refine Ql rfl ?_|refine QM rfl rfl (by omega) ?_|refine Qx rfl rfl (by omega) ?_)
   exact Qz (j:=M.length-(i+1)) (by omega) ⟨i+1,s,by omega,rfl,step fun h=>absurd hz h,by rw[fl];exact sg,rfl⟩
  have hq:(u.2/1125899906842624==0&&u.2%1125899906842624==0)=false:=by
   rw[Bool.and_eq_false_iff]
   by_cases h1:u.2/1125899906842624=0
   ·right;simp only[beq_eq_false_iff_ne];omega
   ·left;simpa using h1
  by_cases a1:u.2.natAbs<=cM
  ·have k96:=fun H=>Qil H u.2 a1
   by_cases a2:u.1.natAbs<=eM
   ·have fl:(M.take (i+1)).filter nzT=(M.take i).filter nzT++[(u.1,u.2)]:=by rw[tk,List.filter_append];simp[nzT,hz]
    have hfl:((M.take i).filter nzT).length<=i:=Gq (List.length_filter_le _ _) (by rw[GJ];omega)
    simp only[eM]at a2
    repeat' first|apply Qf|apply Qb|apply Qt|apply QL|apply Qn|apply Qe|apply Q7|apply Xm|apply Xn|(apply Qg;first|refine Qk rfl ?_|refine Qi rfl ?_)|(apply Qd;first|apply Q5|apply Xw|refine XP (by assumption) ?_|refine QO rfl rfl rfl rfl rfl ?_|refine QE rfl rfl rfl rfl rfl rfl ?_|refine Q4 rfl rfl rfl rfl rfl rfl rfl ?_)|(apply Qc;first|refine Qr rfl ls ?_|refine Qy (esz:=2) rfl rfl (by omega) ?_|refine Qy (esz:=1) rfl rfl (by omega) ?_|refine XH rfl rd2 ?_|refine Q1 rfl rdb ?_|refine Xz rfl rfl ?_|(refine qT rfl rfl ?_;rw[if_neg (by decide),hq])|(refine Qj rfl (k96 h) ?_;rintro r h7 ⟨e7,rfl⟩;have st7:=sg.ext e7;have c57:=st7.c5;have rdb:=Qw e7 rd)|refine QW rfl ?_|refine QN rfl c57 ?_|(refine qU rfl ?_;intro h8 e8 src8;have st8:=st7.ext e8)|(refine JG st8.e st8.o rfl rfl src8 (by rw[Q6];simp only[XS];omega) ?_;intro s' h2 o2 e2 f2 l2;have d5:=st8.c5.fram f2 (st8.o.cel st8.c5);have d4:=st8.c4.fram f2 (st8.o.cel st8.c4))|(refine Vi rfl rfl d5 ?_;intro h3 w3)|refine QP rfl ?_|refine Ql rfl ?_|refine QJ rfl rfl ?_|refine XC rfl ?_|refine QM rfl rfl (by omega) ?_|refine Qx rfl rfl (by omega) ?_|refine QF rfl rfl (by omega) ?_|refine XD rfl rfl (by omega) ?_|refine Xk rfl rfl ?_)
    refine Qz (j:=M.length-(i+1)) (by omega) ⟨i+1,s',by omega,rfl,step fun _=>⟨a1,a2⟩,⟨w3.ext e2 (by omega),w3.keep d4 (by omega),w3.cel,?_,l⟩,rfl⟩
    have:=o2.wrC w3
    rw[fl]
    simpa [tms,tmP]using this
   ·have bad:¬ ∀ u∈M,okT u:=fun h=>a2 (h u hum hz).2
    simp only[eM]at a2
    by_cases a3:u.1 < -1048576
    ·repeat' first|apply Qf|apply Qb|apply QC|apply Qt|apply Xi|apply Qn|apply Qs|apply Qe|(apply Qg;first|refine Qk rfl ?_|refine Qi rfl ?_)|(apply Qd;first|refine Qq rfl ?_|refine QE rfl rfl rfl rfl rfl rfl ?_|refine Q4 rfl rfl rfl rfl rfl rfl rfl ?_)|(apply Qc;first|refine Qr rfl ls ?_|refine Qy (esz:=2) rfl rfl (by omega) ?_|refine Qy (esz:=1) rfl rfl (by omega) ?_|refine XH rfl rd2 ?_|refine Q1 rfl rdb ?_|refine Xz rfl rfl ?_|(refine qT rfl rfl ?_;rw[if_neg (by decide),hq])|(refine Qj rfl (k96 h) ?_;rintro r h7 ⟨e7,rfl⟩;have st7:=sg.ext e7;have c47:=st7.c4;have rdb:=Qw e7 rd)|(refine Xg rfl rfl c47 ?_;intro h3 w3)|refine Xd rfl ?_|refine QP rfl ?_|refine Ql rfl ?_|refine QR rfl rfl ?_|refine QJ rfl rfl ?_|refine XC rfl ?_|refine Qx rfl rfl (by omega) ?_|refine Xk rfl rfl ?_)
     exact Xt (.inr ⟨rfl,bad,w3.ext st7.e l.1,w3.cel,rfl⟩)
    ·repeat' first|apply Qf|apply Qb|apply QC|apply Qt|apply Xi|apply Qn|apply Qs|apply Qe|(apply Qg;first|refine Qk rfl ?_|refine Qi rfl ?_)|(apply Qd;first|refine Qq rfl ?_|refine QE rfl rfl rfl rfl rfl rfl ?_|refine Q4 rfl rfl rfl rfl rfl rfl rfl ?_)|(apply Qc;first|refine Qr rfl ls ?_|refine Qy (esz:=2) rfl rfl (by omega) ?_|refine Qy (esz:=1) rfl rfl (by omega) ?_|refine XH rfl rd2 ?_|refine Q1 rfl rdb ?_|refine Xz rfl rfl ?_|(refine qT rfl rfl ?_;rw[if_neg (by decide),hq])|(refine Qj rfl (k96 h) ?_;rintro r h7 ⟨e7,rfl⟩;have st7:=sg.ext e7;have c47:=st7.c4;have rdb:=Qw e7 rd)|(refine Xg rfl rfl c47 ?_;intro h3 w3)|refine QP rfl ?_|refine Ql rfl ?_|refine QJ rfl rfl ?_|refine XC rfl ?_|refine Qx rfl rfl (by omega) ?_|refine QF rfl rfl (by omega) ?_|refine XK rfl rfl (by omega) ?_|refine Xk rfl rfl ?_)
     exact Xt (.inr ⟨rfl,bad,w3.ext st7.e l.1,w3.cel,rfl⟩)
  ·have bad:¬ ∀ u∈M,okT u:=fun h=>a1 (h u hum hz).1
   have k96:=fun H=>Qim H u.2 a1
   repeat' first|apply Qf|apply Qb|apply QC|apply Qt|apply Xi|apply Qn|apply Qs|apply Qe|(apply Qg;first|refine Qk rfl ?_|refine Qi rfl ?_)|(apply Qd;first|refine Qq rfl ?_|refine QE rfl rfl rfl rfl rfl rfl ?_|refine Q4 rfl rfl rfl rfl rfl rfl rfl ?_)|(apply Qc;first|refine Qr rfl ls ?_|refine Qy (esz:=2) rfl rfl (by omega) ?_|refine XH rfl rd2 ?_|refine Xz rfl rfl ?_|(refine qT rfl rfl ?_;rw[if_neg (by decide),hq])|(refine Qj rfl (k96 h) ?_;rintro r h7 ⟨e7,n,rfl⟩;have st7:=sg.ext e7;have c47:=st7.c4)|(refine Xg rfl rfl c47 ?_;intro h3 w3)|refine Xd rfl ?_|refine Ql rfl ?_|refine QR rfl rfl ?_|refine X1 rfl ?_|refine Qx rfl rfl (by omega) ?_|refine Xk rfl rfl ?_)
   exact Xt (.inr ⟨rfl,bad,w3.ext st7.e l.1,w3.cel,rfl⟩)
 ·have:M.take i=M:=GG (by omega)
  rw[this]at hall sg
  repeat' first|apply Qf|apply Qb|apply QS|apply QQ|apply Qe|(apply Qg;refine Qi rfl ?_)|(apply Qd;refine QE rfl rfl rfl rfl rfl rfl ?_)|(apply Qc;first|refine Qr rfl ls ?_|refine Ql rfl ?_|refine QF rfl rfl (by omega) ?_)
  exact QB (.inl ⟨rfl,s,_,_,_,_,hall,sg,rfl⟩)
def QmY(h0 h:Qa)(v:AV)(p:Pol):Prop:=∃ s,v = .agg [s,.bool p.big]/\OwnD h0 h s (tms p.ts)
theorem QeH(h0:Qa)(sx st:SV)(M:List Tm)(hx:IsInts h0 sx (M.map (·.1)))(ht:IsD h0 st (M.map wp))(hn:M.length<=1000000) :
  ∃ r h',Cal FT HKt 82 [.sc sx,.sc st] h0 r h'/\Ext h0 h'/\QmY h0 h' r (ZA M):=by
 refine Cal.of (F:=a82) rfl rfl rfl ?_
 repeat' first|apply Qf|apply Qb|apply Qt|apply Qe|(apply Qd;first|refine Qu rfl rfl rfl ?_|refine QG rfl rfl rfl rfl ?_|refine QO rfl rfl rfl rfl rfl ?_)|(apply Qc;first|(have z:=e1;apply Xa;intro h2 e2 c2;have d1:=c1.ext e2;have m1:=c1.lt)|(apply Xa;intro h1 e1 c1)|refine Ql rfl ?_)
 refine QV (I82 h0 h0.length h1.length sx st M) M.length (R82 h0 h0.length h1.length M) ⟨0,.nilS,Gm _,rfl,by simp,⟨e1.trans e2,d1,c2,.inl ⟨rfl,rfl⟩,⟨Gd _,m1⟩⟩,rfl⟩ (Qj3 h0 h0.length h1.length sx st M hx ht hn) ?_
 rintro ex E' h3 (⟨rfl,s,_,_,_,_,hall,sg,rfl⟩|⟨rfl,hb,e3,c4,rfl⟩)
 ·have c4:=sg.c4
  have e:ZA M=⟨false,M.filter nzT⟩:=by unfold ZA;rw[if_pos hall]
  rw[e]
  repeat' first|apply Qf|apply Qb|apply QK|apply Qs|apply Qe|(apply Qd;refine Qq rfl ?_)|(apply Qc;first|refine QU rfl sg.c5 ?_|(refine Xg rfl rfl c4 ?_;intro h4 w4))
  exact⟨.inr rfl,Xc rfl w4.cel.read ⟨w4.ext sg.e (Gd _),s,rfl,sg.o.wrC w4⟩⟩
 ·have e:ZA M=Zi:=by unfold ZA;rw[if_neg hb]
  rw[e]
  repeat' first|apply QC|apply Xi
  exact⟨.inr rfl,Xc rfl c4.read ⟨e3,.nilS,rfl,.inl ⟨rfl,rfl⟩⟩⟩
theorem Qos(h0:Qa)(sx st:SV)(M:List Tm)(hx:IsInts h0 sx (M.map (·.1)))(ht:IsD h0 st (M.map wp))(hn:M.length<=1000000) :
  ∃ r h',Cal FT HKt 82 [.sc sx,.sc st] h0 r h'/\Ext h0 h'/\IsRf h' r (ZA M):=by
 obtain⟨r,h',a,b,s,c,d⟩:=QeH h0 sx st M hx ht hn
 exact⟨r,h',a,b,s,c,d.is⟩
structure St48(h0 h:Qa)(q1 q2 q3:Nat)(b:Bool)(s so:SV)(r:List Tm):Prop where
 e:Ext h0 h
 c1:Cel h q1 s (.bool b)
 c2:Cel h q2 .nilS (.bool false)
 c3:Cel h q3 so (.bool b)
 o:OwnD h0 h so (tms r)
 l:h0.length<=q1/\q1<q2/\q2<q3
def Xy(L:List Tm)(M:List Tm):List Tm:=L.foldl (fun M t=>YS t.1 t.2 M) M
theorem JZ{L M:List Tm}{t:Tm}{i:Nat}(h:L[i]?=some t):Xy (L.take (i+1)) M=YS t.1 t.2 (Xy (L.take i) M):=by
 unfold Xy
 rw[GB,h,List.foldl_append]
 rfl
theorem QbS(e v:Int):∀ M:List Tm,(YS e v M).length<=M.length+1
 | []=>by simp[YS]
 | u::r=>by
  have:=QbS e v r
  unfold YS
  split
  ·simp only[Gu];omega
  split <;> simp only[Gu] <;> omega
theorem Qd1{e v:Int}{B:Nat}:∀ {M:List Tm},(∀ u∈M,u.2.natAbs<=B)->∀ u∈YS e v M,u.2.natAbs<=B+v.natAbs
 | [],h,u,hu=>by simp[YS]at hu;subst hu;simp
 | a::r,h,u,hu=>by
  have h0:=h a (.head _)
  have h1:∀ u∈r,u.2.natAbs<=B:=fun u hu=>h u (.tail _ hu)
  unfold YS at hu
  split at hu
  ·rcases GO.1 hu with rfl|hu
   ·omega
   ·exact Qd1 h1 u hu
  split at hu
  ·rcases GO.1 hu with rfl|hu
   ·simp only;omega
   ·have:=h1 u hu;omega
  ·rcases GO.1 hu with rfl|hu
   ·simp only;omega
   ·have:=h u hu;omega
structure Sm2(h:Qa)(sx st:SV)(M:List Tm)(n B:Nat):Prop where
 x:IsInts h sx (M.map (·.1))
 t:IsD h st (M.map wp)
 len:M.length<=n
 bd:∀ u∈M,u.2.natAbs<=n*B
theorem Sm2.ext{h h':Qa}{sx st:SV}{M:List Tm}{n B:Nat}(m:Sm2 h sx st M n B)(e:Ext h h'):Sm2 h' sx st M n B:=⟨IsSl.ext m.x e,m.t.ext e,m.len,m.bd⟩
theorem Sm2.put{h h':Qa}{sx st s1 s2:SV}{M:List Tm}{n B:Nat}{e v:Int}(m:Sm2 h sx st M n B)(hv:v.natAbs<=B)(hx:IsInts h' s1 ((YS e v M).map (·.1)))(ht:IsD h' s2 ((YS e v M).map wp)):Sm2 h' s1 s2 (YS e v M) (n+1) B :=
 ⟨hx,ht,Gq (QbS e v M) (by have:=m.len;omega),fun u hu=>by have:=Qd1 m.bd u hu;rw[GS];omega⟩
theorem Qbj(h0:Qa)(sx st:SV)(e v:Int)(M:List Tm)(n B:Nat)(m:Sm2 h0 sx st M n B)(hn:n<=1000000)(hB:n*B<=2^104)(hv:v.natAbs<=2^104)(hvB:v.natAbs<=B) :
  ∃ r h',Cal FT HKt 80 [.sc sx,.sc st,.sc (.int .i64 e),nf v] h0 r h'/\Ext h0 h'/\∃ s1 s2,r = .tup [.sc s1,.sc s2]/\Sm2 h' s1 s2 (YS e v M) (n+1) B:=by
 obtain⟨r,h',a,b,s1,s2,rfl,c,d⟩:=Qot h0 sx st e v M m.x m.t (by have:=m.len;omega) hv fun u hu=>Gq (m.bd u hu) hB
 exact⟨_,h',a,b,s1,s2,rfl,m.put hvB c d⟩
structure St49(h0 h:Qa)(q2 q3 q4:Nat)(s t:SV)(bp bq:Bool):Prop where
 e:Ext h0 h
 c2:Cel h q2 s (.bool bp)
 c3:Cel h q3 t (.bool bq)
 c4:Cel h q4 .nilS (.bool false)
theorem St49.ext{h0 h h':Qa}{q2 q3 q4:Nat}{s t:SV}{bp bq:Bool}(u:St49 h0 h q2 q3 q4 s t bp bq)(e:Ext h h'):St49 h0 h' q2 q3 q4 s t bp bq:=⟨u.e.trans e,u.c2.ext e,u.c3.ext e,u.c4.ext e⟩
def I49a(h0:Qa)(q2 q3 q4:Nat)(s t:SV)(bp bq:Bool)(P:List Tm)(k:Nat)(E:Env)(h:Qa):Prop:=∃(i:Nat) (sx st:SV),i<=P.length/\k=P.length-i/\St49 h0 h q2 q3 q4 s t bp bq/\Sm2 h sx st (Xy (P.take i) []) i cM ∧
 E.keep [2,3,4,5,6,7]=[(2,some (.sc (.ptr q2 0))),(3,some (.sc (.ptr q3 0))),(4,some (.sc (.ptr q4 0))),(5,some (.sc sx)),(6,some (.sc st)),(7,some (.sc (.int .i64 (i:Nat))))]
def R49a(h0:Qa)(q2 q3 q4:Nat)(s t:SV)(bp bq:Bool)(P:List Tm)(ex:Ex)(E:Env)(h:Qa):Prop:=ex = .ex 0/\∃ sx st a b,St49 h0 h q2 q3 q4 s t bp bq/\Sm2 h sx st (Xy P []) P.length cM ∧
 E=[(2,some (.sc (.ptr q2 0))),(3,some (.sc (.ptr q3 0))),(4,some (.sc (.ptr q4 0))),(5,some (.sc sx)),(6,some (.sc st)),(7,a),(20,b)]
theorem Qgw(h0:Qa)(q2 q3 q4:Nat)(s t:SV)(bp bq:Bool)(P:List Tm)(hp:IsD h0 s (tms P))(hc:∀ t∈P,t.2.natAbs<=cM)(hn:P.length<=1000)(k:Nat)(E:Env)(h:Qa)(hI:I49a h0 q2 q3 q4 s t bp bq P k E h) :
  wA FT HKt Qmb (E.keep [2,3,4,5,6,7]) h (Qp (I49a h0 q2 q3 q4 s t bp bq P) k (R49a h0 q2 q3 q4 s t bp bq P)):=by
 obtain⟨i,sx,st,hi,rfl,sg,sm,hE⟩:=hI
 rw[hE]
 have ls:=hp.len
 rw[Q6]at ls
 have c2:=sg.c2
 by_cases hlt:i<P.length
 ·obtain⟨u,hu⟩:∃ u,P[i]?=some u:=⟨_,Ga hlt⟩
  have hcu:=hc u (Gg hu)
  obtain⟨id,off,cap,rfl,rd0⟩:=IsD.at hp (i:=i) (p:=tmP u) (by rw[Gh,hu];rfl)
  have rd:=Qw sg.e rd0
  obtain⟨rda,rdb⟩:=rd1 rd
  have k79:=fun H=>Qdk H u.2 1 hcu (by decide)
  rw[Int.mul_one]at k79
  have k78:=fun H (m:Sm2 H sx st (Xy (P.take i) []) i cM)=>Qbj H sx st u.1 u.2 _ i cM m (by omega) (by simp only[cM];omega) (by simp only[cM]at hcu;omega) hcu
  rw[← JZ hu]at k78
  rw[Q6]at ls c2 sg ⊢
  repeat' first|apply Qf|apply Qb|apply Qt|apply QL|apply Qn|apply Qe|apply Q7|apply Xm|apply Xn|(apply Qg;refine Qk rfl ?_)|(apply Qd;first|apply Q5|apply Xw|refine XP (by assumption) ?_|refine QE rfl rfl rfl rfl rfl rfl ?_|refine Q4 rfl rfl rfl rfl rfl rfl rfl ?_)|(apply Qc;first|refine QW rfl ?_|refine QN rfl c2 ?_|refine Qr rfl ls ?_|refine Qy (esz:=2) rfl rfl (by omega) ?_|refine Q1 rfl rda ?_|refine Q1 rfl rdb ?_|(refine Qj rfl (k79 h) ?_;rintro r h1 ⟨e1,rfl⟩;have m1:=sm.ext e1)|(refine Qj rfl (k78 h1 m1) ?_;rintro r h2 ⟨e2,s1,s2,rfl,m2⟩)|refine Ql rfl ?_|refine QM rfl rfl (by omega) ?_|refine Qx rfl rfl (by omega) ?_|refine Xk rfl rfl ?_)
  exact Qz (j:=P.length-(i+1)) (by omega) ⟨i+1,s1,s2,by omega,rfl,(sg.ext e1).ext e2,m2,rfl⟩
 ·have:i=P.length:=by omega
  subst this
  rw[Gx]at sm
  repeat' first|apply Qf|apply Qb|apply QS|apply QQ|apply Qe|(apply Qg;refine Qi rfl ?_)|(apply Qd;refine Q4 rfl rfl rfl rfl rfl rfl rfl ?_)|(apply Qc;first|refine QW rfl ?_|refine QN rfl c2 ?_|refine Qr rfl ls ?_|refine Ql rfl ?_|refine QF rfl rfl (by omega) ?_)
  exact QB ⟨rfl,sx,st,_,_,sg,sm,rfl⟩
structure St49b(h0 h:Qa)(q3 q4:Nat)(t:SV)(bq:Bool):Prop where
 e:Ext h0 h
 c3:Cel h q3 t (.bool bq)
 c4:Cel h q4 .nilS (.bool false)
theorem St49b.ext{h0 h h':Qa}{q3 q4:Nat}{t:SV}{bq:Bool}(u:St49b h0 h q3 q4 t bq)(e:Ext h h'):St49b h0 h' q3 q4 t bq:=⟨u.e.trans e,u.c3.ext e,u.c4.ext e⟩
def I49b(h0:Qa)(q3 q4:Nat)(t:SV)(bq:Bool)(Q M0:List Tm)(n0:Nat)(k:Nat)(E:Env)(h:Qa):Prop:=∃(i:Nat) (sx st:SV),i<=Q.length/\k=Q.length-i/\St49b h0 h q3 q4 t bq/\Sm2 h sx st (Xy (Q.take i) M0) (n0+i) cM ∧
 E.keep [3,4,5,6,8]=[(3,some (.sc (.ptr q3 0))),(4,some (.sc (.ptr q4 0))),(5,some (.sc sx)),(6,some (.sc st)),(8,some (.sc (.int .i64 (i:Nat))))]
def R49b(h0:Qa)(q3 q4:Nat)(t:SV)(bq:Bool)(Q M0:List Tm)(n0:Nat)(ex:Ex)(E:Env)(h:Qa):Prop:=ex = .ex 2/\∃ sx st a b c,St49b h0 h q3 q4 t bq/\Sm2 h sx st (Xy Q M0) (n0+Q.length) cM ∧
 E=[(3,a),(4,some (.sc (.ptr q4 0))),(5,some (.sc sx)),(6,some (.sc st)),(8,b),(46,c)]
theorem Qgv(h0:Qa)(q3 q4:Nat)(t:SV)(bq:Bool)(Q M0:List Tm)(n0:Nat)(hn0:n0<=1000)(hp:IsD h0 t (tms Q))(hc:∀ t∈Q,t.2.natAbs<=cM)(hn:Q.length<=1000)(k:Nat)(E:Env)(h:Qa)(hI:I49b h0 q3 q4 t bq Q M0 n0 k E h) :
  wA FT HKt Qma (E.keep [3,4,5,6,8]) h (Qp (I49b h0 q3 q4 t bq Q M0 n0) k (R49b h0 q3 q4 t bq Q M0 n0)):=by
 obtain⟨i,sx,st,hi,rfl,sg,sm,hE⟩:=hI
 rw[hE]
 have ls:=hp.len
 rw[Q6]at ls
 have c3:=sg.c3
 by_cases hlt:i<Q.length
 ·obtain⟨u,hu⟩:∃ u,Q[i]?=some u:=⟨_,Ga hlt⟩
  have hcu:=hc u (Gg hu)
  obtain⟨id,off,cap,rfl,rd0⟩:=IsD.at hp (i:=i) (p:=tmP u) (by rw[Gh,hu];rfl)
  have rd:=Qw sg.e rd0
  obtain⟨rda,rdb⟩:=rd1 rd
  have k79:=fun H=>Qdk H u.2 1 hcu (by decide)
  rw[Int.mul_one]at k79
  have k78:=fun H (m:Sm2 H sx st (Xy (Q.take i) M0) (n0+i) cM)=>Qbj H sx st u.1 u.2 _ (n0+i) cM m (by omega) (by simp only[cM];omega) (by simp only[cM]at hcu;omega) hcu
  rw[← JZ hu]at k78
  rw[Q6]at ls c3 sg ⊢
  repeat' first|apply Qf|apply Qb|apply Qt|apply QL|apply Qn|apply Qe|apply Q7|apply Xm|apply Xn|(apply Qg;refine Qk rfl ?_)|(apply Qd;first|apply Q5|apply Xw|refine XP (by assumption) ?_|refine QO rfl rfl rfl rfl rfl ?_|refine QE rfl rfl rfl rfl rfl rfl ?_)|(apply Qc;first|refine QW rfl ?_|refine QN rfl c3 ?_|refine Qr rfl ls ?_|refine Qy (esz:=2) rfl rfl (by omega) ?_|refine Q1 rfl rda ?_|refine Q1 rfl rdb ?_|(refine Qj rfl (k79 h) ?_;rintro r h1 ⟨e1,rfl⟩;have m1:=sm.ext e1)|(refine Qj rfl (k78 h1 m1) ?_;rintro r h2 ⟨e2,s1,s2,rfl,m2⟩)|refine Ql rfl ?_|refine QM rfl rfl (by omega) ?_|refine Qx rfl rfl (by omega) ?_|refine Xk rfl rfl ?_)
  exact Qz (j:=Q.length-(i+1)) (by omega) ⟨i+1,s1,s2,by omega,rfl,(sg.ext e1).ext e2,m2,rfl⟩
 ·have:i=Q.length:=by omega
  subst this
  rw[Gx]at sm
  repeat' first|apply Qf|apply Qb|apply QS|apply QQ|apply Qe|(apply Qg;refine Qi rfl ?_)|(apply Qd;refine QE rfl rfl rfl rfl rfl rfl ?_)|(apply Qc;first|refine QW rfl ?_|refine QN rfl c3 ?_|refine Qr rfl ls ?_|refine Ql rfl ?_|refine QF rfl rfl (by omega) ?_)
  exact QB ⟨rfl,sx,st,_,_,_,sg,sm,rfl⟩
noncomputable def Un(p q:Pol):Pol:=if p.big=true∨q.big=true then Zi else ZA (Xy q.ts (Xy p.ts []))
theorem Qk1(h0:Qa)(s t:SV)(p q:Pol)(hp:IsD h0 s (tms p.ts))(hq:IsD h0 t (tms q.ts))(hcp:∀ t∈p.ts,t.2.natAbs<=cM)(hcq:∀ t∈q.ts,t.2.natAbs<=cM)(hnp:p.ts.length<=1000)(hnq:q.ts.length<=1000) :
  ∃ r h',Cal FT HKt 49 [.agg [s,.bool p.big],.agg [t,.bool q.big]] h0 r h'/\Ext h0 h'/\QmY h0 h' r (Un p q):=by
 refine Cal.of (F:=a49) rfl rfl rfl ?_
 obtain⟨bp,P⟩:=p
 obtain⟨bq,Q⟩:=q
 simp only at *
 cases bp with
 | true =>
  have e:Un ⟨true,P⟩ ⟨bq,Q⟩=Zi:=by unfold Un;rw[if_pos (.inl rfl)]
  rw[e]
  repeat' first|apply Qf|apply Qb|apply QC|apply Qs|apply Qe|(apply Qg;refine Qk rfl ?_)|(apply Qd;first|refine Qq rfl ?_|refine Qu rfl rfl rfl ?_|refine QG rfl rfl rfl rfl ?_)|(apply Qc;first|(have z:=e2;apply Xa;intro h3 e3 c4;have d2:=(c2.ext e2).ext e3)|(have z:=e1;refine QD rfl ?_;intro h2 e2 c3)|(refine QD rfl ?_;intro h1 e1 c2)|refine QW rfl ?_|refine QH rfl d2 ?_|refine Xz rfl rfl ?_|(refine Xg rfl rfl c4 ?_;intro h5 w5)|refine Xd rfl ?_|refine Ql rfl ?_|refine QR rfl rfl ?_)
  exact⟨.inr rfl,Xc rfl w5.cel.read ⟨w5.ext (e1.trans (e2.trans e3)) (Gq e1.len e2.len),.nilS,rfl,.inl ⟨rfl,rfl⟩⟩⟩
 | false =>
 cases bq with
 | true =>
  have e:Un ⟨false,P⟩ ⟨true,Q⟩=Zi:=by unfold Un;rw[if_pos (.inr rfl)]
  rw[e]
  repeat' first|apply Qf|apply Qb|apply QC|apply Qs|apply Qe|(apply Qg;refine Qk rfl ?_)|(apply Qd;first|refine Qq rfl ?_|refine Qu rfl rfl rfl ?_|refine QG rfl rfl rfl rfl ?_)|(apply Qc;first|(have z:=e2;apply Xa;intro h3 e3 c4;have d2:=(c2.ext e2).ext e3;have d3:=c3.ext e3)|(have z:=e1;refine QD rfl ?_;intro h2 e2 c3)|(refine QD rfl ?_;intro h1 e1 c2)|refine QW rfl ?_|refine QH rfl d2 ?_|refine QH rfl d3 ?_|refine Xz rfl rfl ?_|(refine Xg rfl rfl c4 ?_;intro h5 w5)|refine QP rfl ?_|refine Ql rfl ?_|refine QJ rfl rfl ?_)
  exact⟨.inr rfl,Xc rfl w5.cel.read ⟨w5.ext (e1.trans (e2.trans e3)) (Gq e1.len e2.len),.nilS,rfl,.inl ⟨rfl,rfl⟩⟩⟩
 | false =>
 have e:Un ⟨false,P⟩ ⟨false,Q⟩=ZA (Xy Q (Xy P [])):=by unfold Un;rw[if_neg (by simp)]
 rw[e]
 repeat' first|apply Qf|apply Qb|apply Qt|apply Qn|apply Qe|(apply Qg;refine Qi rfl ?_)|(apply Qd;first|refine Qu rfl rfl rfl ?_|refine QG rfl rfl rfl rfl ?_|refine QO rfl rfl rfl rfl rfl ?_|refine QE rfl rfl rfl rfl rfl rfl ?_)|(apply Qc;first|(have z:=e2;apply Xa;intro h3 e3 c4;have d2:=(c2.ext e2).ext e3;have d3:=c3.ext e3)|(have z:=e1;refine QD rfl ?_;intro h2 e2 c3)|(refine QD rfl ?_;intro h1 e1 c2)|refine QW rfl ?_|refine QH rfl d2 ?_|refine QH rfl d3 ?_|refine QP rfl ?_|refine Ql rfl ?_|refine QJ rfl rfl ?_)
 have x3:=e1.trans (e2.trans e3)
 refine QV (I49a h0 h0.length h1.length h2.length s t false false P) P.length (R49a h0 h0.length h1.length h2.length s t false false P) ⟨0,.nilS,.nilS,Gm _,rfl,⟨x3,d2,d3,c4⟩,⟨.inl ⟨rfl,rfl,rfl⟩,IsD.nil _,by simp[Xy],by simp[Xy]⟩,rfl⟩ (Qgw h0 h0.length h1.length h2.length s t false false P hp hcp hnp) ?_
 rintro ex E' h4 ⟨rfl,sx,st,a,b,sg,sm,rfl⟩
 repeat' first|apply Qf|apply Qb|apply Qt|apply QK|apply Qe|(apply Qd;refine QO rfl rfl rfl rfl rfl ?_)|(apply Qc;refine Ql rfl ?_)
 refine QV (I49b h0 h1.length h2.length t false Q (Xy P []) P.length) Q.length (R49b h0 h1.length h2.length t false Q (Xy P []) P.length) ⟨0,sx,st,Gm _,rfl,⟨sg.e,sg.c3,sg.c4⟩,sm,rfl⟩ (Qgv h0 h1.length h2.length t false Q (Xy P []) P.length hnp hq hcq hnq) ?_
 rintro ex E' h5 ⟨rfl,sx',st',a',b',c',sg',sm',rfl⟩
 have k80:=fun H (x:IsInts H sx' ((Xy Q (Xy P [])).map (·.1))) (y:IsD H st' ((Xy Q (Xy P [])).map wp))=>QeH H sx' st' _ x y (by have:=sm'.len;omega)
 repeat' first|apply Qf|apply Qb|apply QK|apply Qs|apply Qe|(apply Qd;refine Qq rfl ?_)|(apply Qc;first|(refine Qj rfl (k80 h5 sm'.x sm'.t) ?_;rintro r h6 ⟨e6,ss,rfl,ds⟩;have c46:=sg'.c4.ext e6)|(refine Xg rfl rfl c46 ?_;intro h7 w7)|refine Ql rfl ?_)
 exact⟨.inr rfl,Xc rfl w7.cel.read ⟨w7.ext (sg'.e.trans e6) (Gq e1.len e2.len),ss,rfl,(ds.weaken sg'.e.len).wrC w7⟩⟩
def mt(a b:Tm):Tm:=(a.1+b.1,a.2*b.2)
abbrev bM:Nat:=9903520314283042199192993792
def X9(P Q M:List Tm):List Tm:=P.foldl (fun M a=>Xy (Q.map (mt a)) M) M
theorem Qb7{P Q M:List Tm}{a:Tm}{i:Nat}(h:P[i]?=some a):X9 (P.take (i+1)) Q M=Xy (Q.map (mt a)) (X9 (P.take i) Q M):=by
 unfold X9
 rw[GB,h,List.foldl_append]
 rfl
def I46b(h0:Qa)(q2 q3 q4:Nat)(s t:SV)(bp bq:Bool)(Q:List Tm)(a:Tm)(M0:List Tm)(n0 i:Nat)(k:Nat)(E:Env)(h:Qa):Prop:=∃(j:Nat) (sx st:SV),j<=Q.length/\k=Q.length-j/\St49 h0 h q2 q3 q4 s t bp bq/\Sm2 h sx st (Xy ((Q.map (mt a)).take j) M0) (n0+j) bM ∧
 E.keep [2,3,4,5,6,7,8]=[(2,some (.sc (.ptr q2 0))),(3,some (.sc (.ptr q3 0))),(4,some (.sc (.ptr q4 0))),(5,some (.sc sx)),(6,some (.sc st)),(7,some (.sc (.int .i64 (i:Nat)))),(8,some (.sc (.int .i64 (j:Nat))))]
def R46b(h0:Qa)(q2 q3 q4:Nat)(s t:SV)(bp bq:Bool)(Q:List Tm)(a:Tm)(M0:List Tm)(n0 i:Nat)(ex:Ex)(E:Env)(h:Qa):Prop:=ex = .ex 2/\∃ sx st b c,St49 h0 h q2 q3 q4 s t bp bq/\Sm2 h sx st (Xy (Q.map (mt a)) M0) (n0+Q.length) bM ∧
 E=[(2,some (.sc (.ptr q2 0))),(3,some (.sc (.ptr q3 0))),(4,some (.sc (.ptr q4 0))),(5,some (.sc sx)),(6,some (.sc st)),(7,some (.sc (.int .i64 (i:Nat)))),(8,b),(27,c)]
theorem Qgx(h0:Qa)(q2 q3 q4:Nat)(s t:SV)(bp bq:Bool)(P Q:List Tm)(hp:IsD h0 s (tms P))(hq:IsD h0 t (tms Q))(a:Tm)(i:Nat)(ha:P[i]?=some a)(hca:a.2.natAbs<=cM/\a.1.natAbs<=1000000000)(hcq:∀ t∈Q,t.2.natAbs<=cM/\t.1.natAbs<=1000000000)(hprb:∀ t∈Q,(a.2*t.2).natAbs<=bM)(hnp:P.length<=1000)(M0:List Tm)(n0:Nat)(hn:n0+Q.length<=2048)(k:Nat)(E:Env)(h:Qa)(hI:I46b h0 q2 q3 q4 s t bp bq Q a M0 n0 i k E h) :
  wA FT HKt Qmc (E.keep [2,3,4,5,6,7,8]) h (Qp (I46b h0 q2 q3 q4 s t bp bq Q a M0 n0 i) k (R46b h0 q2 q3 q4 s t bp bq Q a M0 n0 i)):=by
 obtain⟨j,sx,st,hj,rfl,sg,sm,hE⟩:=hI
 rw[hE]
 have ls:=hq.len
 rw[Q6]at ls
 have c2:=sg.c2
 have c3:=sg.c3
 have hiP:i<P.length:=(Gb.1 ha).1
 by_cases hlt:j<Q.length
 ·obtain⟨u,hu⟩:∃ u,Q[j]?=some u:=⟨_,Ga hlt⟩
  have hcu:=hcq u (Gg hu)
  obtain⟨id,off,cap,rfl,rd0⟩:=IsD.at hp (i:=i) (p:=tmP a) (by rw[Gh,ha];rfl)
  obtain⟨id2,off2,cap2,rfl,rd20⟩:=IsD.at hq (i:=j) (p:=tmP u) (by rw[Gh,hu];rfl)
  obtain⟨rda,rdb⟩:=rd1 (Qw sg.e rd0)
  obtain⟨rea,reb⟩:=rd1 (Qw sg.e rd20)
  have k79:=fun H=>Qdk H a.2 u.2 hca.1 hcu.1
  have hpr:(a.2*u.2).natAbs<=bM:=hprb u (Gg hu)
  have hum:(Q.map (mt a))[j]?=some (mt a u):=by rw[Gh,hu];rfl
  have k78:=fun H (m:Sm2 H sx st (Xy ((Q.map (mt a)).take j) M0) (n0+j) bM)=>Qbj H sx st (a.1+u.1) (a.2*u.2) _ (n0+j) bM m (by omega) (by simp only[bM];omega) (by simp only[bM]at hpr;omega) hpr
  have hsn:YS (a.1+u.1) (a.2*u.2) (Xy ((Q.map (mt a)).take j) M0)=Xy ((Q.map (mt a)).take (j+1)) M0:=(JZ hum).symm
  rw[hsn]at k78
  simp only[Q6]at ls c3 c2 sg ⊢
  repeat' first|apply Qf|apply Qb|apply Qt|apply QL|apply Qn|apply Qe|apply Q7|apply Xm|apply Xn|(apply Qg;refine Qk rfl ?_)|(apply Qd;first|apply Q5|apply Xw|refine XP (by assumption) ?_|refine Q4 rfl rfl rfl rfl rfl rfl rfl ?_|refine Xh rfl rfl rfl rfl rfl rfl rfl rfl ?_)|(apply Qc;first|refine QW rfl ?_|refine QN rfl c2 ?_|refine QN rfl c3 ?_|refine Qr rfl ls ?_|refine Qy (esz:=2) rfl rfl (by omega) ?_|refine Q1 rfl rda ?_|refine Q1 rfl rdb ?_|refine Q1 rfl rea ?_|refine Q1 rfl reb ?_|(refine Qj rfl (k79 h) ?_;rintro r h1 ⟨e1,rfl⟩;have m1:=sm.ext e1)|(refine Qj rfl (k78 h1 m1) ?_;rintro r h2 ⟨e2,s1,s2,rfl,m2⟩)|refine Ql rfl ?_|refine QM rfl rfl (by omega) ?_|refine Qx rfl rfl (by omega) ?_|refine Xk rfl rfl ?_)
  exact Qz (j:=Q.length-(j+1)) (by omega) ⟨j+1,s1,s2,by omega,rfl,(sg.ext e1).ext e2,m2,rfl⟩
 ·have:j=Q.length:=by omega
  subst this
  rw[GG (by simp)]at sm
  repeat' first|apply Qf|apply Qb|apply QS|apply QQ|apply Qe|(apply Qg;refine Qi rfl ?_)|(apply Qd;refine Xh rfl rfl rfl rfl rfl rfl rfl rfl ?_)|(apply Qc;first|refine QW rfl ?_|refine QN rfl c3 ?_|refine Qr rfl ls ?_|refine Ql rfl ?_|refine QF rfl rfl (by omega) ?_)
  exact QB ⟨rfl,sx,st,_,_,sg,sm,rfl⟩
def I46a(h0:Qa)(q2 q3 q4:Nat)(s t:SV)(bp bq:Bool)(P Q:List Tm)(k:Nat)(E:Env)(h:Qa):Prop:=∃(i:Nat) (sx st:SV),i<=P.length/\k=P.length-i/\St49 h0 h q2 q3 q4 s t bp bq/\Sm2 h sx st (X9 (P.take i) Q []) (i*Q.length) bM ∧
 E.keep [2,3,4,5,6,7]=[(2,some (.sc (.ptr q2 0))),(3,some (.sc (.ptr q3 0))),(4,some (.sc (.ptr q4 0))),(5,some (.sc sx)),(6,some (.sc st)),(7,some (.sc (.int .i64 (i:Nat))))]
def R46a(h0:Qa)(q2 q3 q4:Nat)(s t:SV)(bp bq:Bool)(P Q:List Tm)(ex:Ex)(E:Env)(h:Qa):Prop:=ex = .ex 0/\∃ sx st a b c d,St49 h0 h q2 q3 q4 s t bp bq/\Sm2 h sx st (X9 P Q []) (P.length*Q.length) bM ∧
 E=[(2,a),(3,b),(4,some (.sc (.ptr q4 0))),(5,some (.sc sx)),(6,some (.sc st)),(7,c),(20,d)]
theorem Qgy(h0:Qa)(q2 q3 q4:Nat)(s t:SV)(bp bq:Bool)(P Q:List Tm)(hp:IsD h0 s (tms P))(hq:IsD h0 t (tms Q))(hcp:∀ t∈P,t.2.natAbs<=cM/\t.1.natAbs<=1000000000)(hcq:∀ t∈Q,t.2.natAbs<=cM/\t.1.natAbs<=1000000000)(hprb:∀ a∈P,∀ t∈Q,(a.2*t.2).natAbs<=bM)(hnp:P.length<=1000)(hn:P.length*Q.length<=2048)(k:Nat)(E:Env)(h:Qa)(hI:I46a h0 q2 q3 q4 s t bp bq P Q k E h) :
  wA FT HKt Qmd (E.keep [2,3,4,5,6,7]) h (Qp (I46a h0 q2 q3 q4 s t bp bq P Q) k (R46a h0 q2 q3 q4 s t bp bq P Q)):=by
 obtain⟨i,sx,st,hi,rfl,sg,sm,hE⟩:=hI
 rw[hE]
 have ls:=hp.len
 rw[Q6]at ls
 have c2:=sg.c2
 by_cases hlt:i<P.length
 ·obtain⟨a,ha⟩:∃ a,P[i]?=some a:=⟨_,Ga hlt⟩
  have hn1:i*Q.length+Q.length<=2048:=by
   rw[← Nat.succ_mul]
   exact Gq (GF _ hlt) hn
  repeat' first|apply Qf|apply Qb|apply Qt|apply Qn|apply Qe|(apply Qg;refine Qk rfl ?_)|(apply Qd;refine Q4 rfl rfl rfl rfl rfl rfl rfl ?_)|(apply Qc;first|refine QW rfl ?_|refine QN rfl c2 ?_|refine Qr rfl ls ?_|refine Ql rfl ?_|refine Qx rfl rfl (by omega) ?_)
  refine QV (I46b h0 q2 q3 q4 s t bp bq Q a (X9 (P.take i) Q []) (i*Q.length) i) Q.length (R46b h0 q2 q3 q4 s t bp bq Q a (X9 (P.take i) Q []) (i*Q.length) i) ⟨0,sx,st,Gm _,rfl,sg,sm,rfl⟩ (Qgx h0 q2 q3 q4 s t bp bq P Q hp hq a i ha (hcp a (Gg ha)) hcq (hprb a (Gg ha)) hnp _ _ hn1) ?_
  rintro ex E' h2 ⟨rfl,sx',st',b,c,sg',sm',rfl⟩
  rw[← Qb7 ha,← Nat.succ_mul]at sm'
  repeat' first|apply Qb|apply QL|apply QK|apply Qe|(apply Qd;refine QE rfl rfl rfl rfl rfl rfl ?_)|(apply Qc;first|refine Ql rfl ?_|refine QM rfl rfl (by omega) ?_)
  exact Qz (j:=P.length-(i+1)) (by omega) ⟨i+1,sx',st',by omega,rfl,sg',sm',rfl⟩
 ·have:i=P.length:=by omega
  subst this
  rw[Gx]at sm
  repeat' first|apply Qf|apply Qb|apply QS|apply QQ|apply Qe|(apply Qg;refine Qi rfl ?_)|(apply Qd;refine Q4 rfl rfl rfl rfl rfl rfl rfl ?_)|(apply Qc;first|refine QW rfl ?_|refine QN rfl c2 ?_|refine Qr rfl ls ?_|refine Ql rfl ?_|refine QF rfl rfl (by omega) ?_)
  exact QB ⟨rfl,sx,st,_,_,_,_,sg,sm,rfl⟩
theorem QoD(h0:Qa)(s t:SV)(P Q:List Tm)(hp:IsD h0 s (tms P))(hq:IsD h0 t (tms Q))(hcp:∀ t∈P,t.2.natAbs<=cM/\t.1.natAbs<=1000000000)(hcq:∀ t∈Q,t.2.natAbs<=cM/\t.1.natAbs<=1000000000)(hprb:∀ a∈P,∀ t∈Q,(a.2*t.2).natAbs<=bM)(hnp:P.length<=1000)(hn:P.length*Q.length<=2048) :
  ∃ r h',Cal FT HKt 46 [.agg [s,.bool false],.agg [t,.bool false]] h0 r h'/\Ext h0 h'/\IsRf h' r (ZA (X9 P Q [])):=by
 refine Cal.of (F:=a46) rfl rfl rfl ?_
 repeat' first|apply Qf|apply Qb|apply Qt|apply Qn|apply Qe|(apply Qg;refine Qi rfl ?_)|(apply Qd;first|refine Qu rfl rfl rfl ?_|refine QG rfl rfl rfl rfl ?_|refine QO rfl rfl rfl rfl rfl ?_|refine QE rfl rfl rfl rfl rfl rfl ?_)|(apply Qc;first|(have z:=e2;apply Xa;intro h3 e3 c4;have d2:=(c2.ext e2).ext e3;have d3:=c3.ext e3)|(have z:=e1;refine QD rfl ?_;intro h2 e2 c3)|(refine QD rfl ?_;intro h1 e1 c2)|refine QW rfl ?_|refine QH rfl d2 ?_|refine QH rfl d3 ?_|refine QP rfl ?_|refine Ql rfl ?_|refine QJ rfl rfl ?_)
 have x3:=e1.trans (e2.trans e3)
 refine QV (I46a h0 h0.length h1.length h2.length s t false false P Q) P.length (R46a h0 h0.length h1.length h2.length s t false false P Q) ⟨0,.nilS,.nilS,Gm _,rfl,⟨x3,d2,d3,c4⟩,⟨.inl ⟨rfl,rfl,rfl⟩,IsD.nil _,by simp[X9],by simp[X9]⟩,rfl⟩ (Qgy h0 h0.length h1.length h2.length s t false false P Q hp hq hcp hcq hprb hnp hn) ?_
 rintro ex E' h5 ⟨rfl,sx',st',a',b',c',d',sg',sm',rfl⟩
 have k80:=fun H (x:IsInts H sx' ((X9 P Q []).map (·.1))) (y:IsD H st' ((X9 P Q []).map wp))=>Qos H sx' st' _ x y (by have:=sm'.len;omega)
 repeat' first|apply Qf|apply Qb|apply QK|apply Qs|apply Qe|(apply Qd;refine Qq rfl ?_)|(apply Qc;first|(refine Qj rfl (k80 h5 sm'.x sm'.t) ?_;rintro r h6 ⟨e6,ss,rfl,ds⟩;have c46:=sg'.c4.ext e6)|(refine Xg rfl rfl c46 ?_;intro h7 w7)|refine Ql rfl ?_)
 exact⟨.inr rfl,Xc rfl w7.cel.read ⟨w7.ext (sg'.e.trans e6) (Gq e1.len e2.len),ss,rfl,ds.wrC w7⟩⟩
end Go.Proofs.YtofknpknogfijaaGreatDoor
namespace Go.Proofs.YtofknpknogfijaaGreatDoor
open Go.Shelf Go.RowKit Go.Maps Go.Sort
def Qab:Go.Shelf.Ren:=⟨fun|7=>86|10=>116|n=>n,fun|23=>135|26=>3|3=>101|28=>138|0=>0|27=>137|33=>172|4=>4|n=>n,fun|n=>n⟩
theorem QlN:Go.Proofs.SlLaysZI.n7 Tryz.prog Qab:={
 mixed:=by kernel_rfl
 f7:=⟨Tryz.f86.name,by decide,Tryz.func86.trans (congrArg some (by kernel_rfl))⟩
 f10:=⟨Tryz.f116.name,by decide,Tryz.func116.trans (congrArg some (by kernel_rfl))⟩
 t0:=Tryz.underlying0
 a0:=Tryz.isAgg0
 z0:=Tryz.sizeOf0
 v0:=Tryz.zeroValue0
 t4:=Tryz.underlying4
 a4:=Tryz.isAgg4
 z4:=Tryz.sizeOf4
 v4:=Tryz.zeroValue4
 t23:=Tryz.underlying135
 a23:=Tryz.isAgg135
 z23:=Tryz.sizeOf135
 v23:=Tryz.zeroValue135
 t26:=Tryz.underlying3
 a26:=Tryz.isAgg3
 z26:=Tryz.sizeOf3
 v26:=Tryz.zeroValue3
 t27:=Tryz.underlying137
 a27:=Tryz.isAgg137
 z27:=Tryz.sizeOf137
 v27:=Tryz.zeroValue137
 t28:=Tryz.underlying138
 a28:=Tryz.isAgg138
 z28:=Tryz.sizeOf138
 v28:=Tryz.zeroValue138
 t33:=Tryz.underlying172
 a33:=Tryz.isAgg172
 z33:=Tryz.sizeOf172
 v33:=Tryz.zeroValue172 }
def zR:Go.Shelf.Ren:=⟨fun|6=>85|8=>114|9=>115|11=>136|13=>128|12=>137|23=>140|24=>139|14=>146|15=>147|16=>148|17=>149|18=>150|19=>151|20=>152|21=>153|22=>154|25=>156|26=>157|27=>158|28=>159|29=>160|30=>117|31=>161|n=>n,fun|26=>3|28=>138|24=>42|0=>0|3=>3|37=>159|48=>190|50=>99|4=>4|40=>197|39=>196|45=>104|5=>5|9=>9|51=>203|55=>207|57=>210|58=>211|33=>172|n=>n,fun|n=>n⟩
theorem QjQ:Go.Proofs.SlLaysZI.n6 Tryz.prog zR:={
 mixed:=by kernel_rfl
 f6:=⟨Tryz.f85.name,by decide,Tryz.func85.trans (congrArg some (by kernel_rfl))⟩
 f8:=⟨Tryz.f114.name,by decide,Tryz.func114.trans (congrArg some (by kernel_rfl))⟩
 f11:=⟨Tryz.f136.name,by decide,Tryz.func136.trans (congrArg some (by kernel_rfl))⟩
 t0:=Tryz.underlying0
 a0:=Tryz.isAgg0
 z0:=Tryz.sizeOf0
 v0:=Tryz.zeroValue0
 t24:=Tryz.underlying42
 a24:=Tryz.isAgg42
 z24:=Tryz.sizeOf42
 v24:=Tryz.zeroValue42
 t26:=Tryz.underlying3
 a26:=Tryz.isAgg3
 z26:=Tryz.sizeOf3
 v26:=Tryz.zeroValue3
 t28:=Tryz.underlying138
 a28:=Tryz.isAgg138
 z28:=Tryz.sizeOf138
 v28:=Tryz.zeroValue138
 i26:=by kernel_rfl }
def Qe9:Go.Shelf.Ren:=⟨fun|5=>115|8=>128|7=>137|19=>140|20=>139|10=>146|11=>147|12=>148|13=>149|14=>150|15=>151|16=>152|17=>153|18=>154|30=>156|31=>157|32=>158|33=>159|34=>160|35=>117|40=>161|n=>n,fun|23=>42|25=>3|3=>3|32=>159|22=>42|0=>0|44=>190|46=>99|4=>4|36=>197|35=>196|41=>104|5=>5|9=>9|53=>203|57=>207|63=>210|64=>211|n=>n,fun|n=>n⟩
theorem Qly:Go.Proofs.SlLaysM.n5 Tryz.prog Qe9:={
 mixed:=by kernel_rfl
 f5:=⟨Tryz.f115.name,by decide,Tryz.func115.trans (congrArg some (by kernel_rfl))⟩
 f7:=⟨Tryz.f137.name,by decide,Tryz.func137.trans (congrArg some (by kernel_rfl))⟩
 f8:=Tryz.func128.trans (congrArg some (by kernel_rfl))
 f10:=⟨Tryz.f146.name,by decide,Tryz.func146.trans (congrArg some (by kernel_rfl))⟩
 f11:=⟨Tryz.f147.name,by decide,Tryz.func147.trans (congrArg some (by kernel_rfl))⟩
 f12:=⟨Tryz.f148.name,by decide,Tryz.func148.trans (congrArg some (by kernel_rfl))⟩
 f13:=⟨Tryz.f149.name,by decide,Tryz.func149.trans (congrArg some (by kernel_rfl))⟩
 f14:=⟨Tryz.f150.name,by decide,Tryz.func150.trans (congrArg some (by kernel_rfl))⟩
 f15:=⟨Tryz.f151.name,by decide,Tryz.func151.trans (congrArg some (by kernel_rfl))⟩
 f16:=⟨Tryz.f152.name,by decide,Tryz.func152.trans (congrArg some (by kernel_rfl))⟩
 f17:=⟨Tryz.f153.name,by decide,Tryz.func153.trans (congrArg some (by kernel_rfl))⟩
 f18:=⟨Tryz.f154.name,by decide,Tryz.func154.trans (congrArg some (by kernel_rfl))⟩
 f19:=Tryz.func140.trans (congrArg some (by kernel_rfl))
 f20:=Tryz.func139.trans (congrArg some (by kernel_rfl))
 f30:=⟨Tryz.f156.name,by decide,Tryz.func156.trans (congrArg some (by kernel_rfl))⟩
 f31:=Tryz.func157.trans (congrArg some (by kernel_rfl))
 f32:=Tryz.func158.trans (congrArg some (by kernel_rfl))
 f33:=⟨Tryz.f159.name,by decide,Tryz.func159.trans (congrArg some (by kernel_rfl))⟩
 f34:=⟨Tryz.f160.name,by decide,Tryz.func160.trans (congrArg some (by kernel_rfl))⟩
 f35:=⟨Tryz.f117.name,by decide,Tryz.func117.trans (congrArg some (by kernel_rfl))⟩
 f40:=⟨Tryz.f161.name,by decide,Tryz.func161.trans (congrArg some (by kernel_rfl))⟩
 t0:=Tryz.underlying0
 a0:=Tryz.isAgg0
 z0:=Tryz.sizeOf0
 v0:=Tryz.zeroValue0
 t3:=Tryz.underlying3
 a3:=Tryz.isAgg3
 z3:=Tryz.sizeOf3
 v3:=Tryz.zeroValue3
 t4:=Tryz.underlying4
 a4:=Tryz.isAgg4
 z4:=Tryz.sizeOf4
 v4:=Tryz.zeroValue4
 t5:=Tryz.underlying5
 a5:=Tryz.isAgg5
 z5:=Tryz.sizeOf5
 v5:=Tryz.zeroValue5
 t9:=Tryz.underlying9
 a9:=Tryz.isAgg9
 z9:=Tryz.sizeOf9
 v9:=Tryz.zeroValue9
 t22:=Tryz.underlying42
 a22:=Tryz.isAgg42
 z22:=Tryz.sizeOf42
 v22:=Tryz.zeroValue42
 t23:=Tryz.underlying42
 a23:=Tryz.isAgg42
 z23:=Tryz.sizeOf42
 v23:=Tryz.zeroValue42
 t25:=Tryz.underlying3
 a25:=Tryz.isAgg3
 z25:=Tryz.sizeOf3
 v25:=Tryz.zeroValue3
 t32:=Tryz.underlying159
 a32:=Tryz.isAgg159
 z32:=Tryz.sizeOf159
 v32:=Tryz.zeroValue159
 t35:=Tryz.underlying196
 a35:=Tryz.isAgg196
 z35:=Tryz.sizeOf196
 v35:=Tryz.zeroValue196
 t36:=Tryz.underlying197
 a36:=Tryz.isAgg197
 z36:=Tryz.sizeOf197
 v36:=Tryz.zeroValue197
 t41:=Tryz.underlying104
 a41:=Tryz.isAgg104
 z41:=Tryz.sizeOf104
 v41:=Tryz.zeroValue104
 t44:=Tryz.underlying190
 a44:=Tryz.isAgg190
 z44:=Tryz.sizeOf190
 v44:=Tryz.zeroValue190
 t46:=Tryz.underlying99
 a46:=Tryz.isAgg99
 z46:=Tryz.sizeOf99
 v46:=Tryz.zeroValue99
 t53:=Tryz.underlying203
 a53:=Tryz.isAgg203
 z53:=Tryz.sizeOf203
 v53:=Tryz.zeroValue203
 t57:=Tryz.underlying207
 a57:=Tryz.isAgg207
 z57:=Tryz.sizeOf207
 v57:=Tryz.zeroValue207
 t63:=Tryz.underlying210
 a63:=Tryz.isAgg210
 z63:=Tryz.sizeOf210
 v63:=Tryz.zeroValue210
 t64:=Tryz.underlying211
 a64:=Tryz.isAgg211
 z64:=Tryz.sizeOf211
 v64:=Tryz.zeroValue211 }
theorem Qnf(m:Nat):AnyZI.SortsIn Tryz.prog zR Fence.wide m :=
 ⟨fun blk off cap ss W hH hblk hsz => callsIn_wide.2 (AnyM.slices_Sort_int Qly blk off cap ss W hH hblk hsz),
  fun p cap W=>callsIn_wide.2 (AnyM.slices_Sort_int_none Qly p cap W)⟩
theorem Qaa(mb:Option Nat)(w:World):Calls Tryz.prog 86 #[.map mb] w fun e w'=>e = .returned (.func (.func 116) #[] #[.pointer (some ⟨w.heap.size,0,none⟩)])/\w'=w.alloc (.cells #[.map mb] 135) :=
 (callsIn_wide (n:=5)).1 (AnyZI.keys_in QlN Fence.wide 5 trivial rfl mb w)
theorem zQ(b Bm nn:Nat)(D0:DataW Unit)(R:Value->Option (DataW Unit×List MemPlace))(w:World)(h1:Bm<w.heap.size)(h2:w.cell? ⟨Bm,0,none⟩=some (.map (some b)))(hown:w.ownsMap Tryz.prog 3 R b nn D0)(hmax:Go.Maps.size D0<=maxLen)(hbytes:Go.Maps.size D0*8<=140737488355328) :
  Calls Tryz.prog 85 #[.func (.func 116) #[] #[.pointer (some ⟨Bm,0,none⟩)]] w fun e w'=>∃(v:Value) (ss:List Int),e = .returned v/\ss.Perm (intKeys D0) ∧
   w'.ownsRow w.heap.size 3 1 v ss.length ((ss.mergeSort fun x y=>decide (x<=y)).map (Value.int .i64))/\(v = .slice none 0 0↔ss=[])/\Below w.heap.size w w':=by
 have hseq:SeqGives Fence.wide 2 Tryz.prog 116 #[.pointer (some ⟨Bm,0,none⟩)] encZ (fun ss=>ss.Perm (intKeys D0)) (Go.Maps.size D0) w :=
  AnyZI.keys_gives (ρ:=Qab) { QlN with } Fence.wide _ trivial rfl (by omega) Bm b nn D0 w h1 h2 hown
 have cS:=AnyZI.sorted_in QjQ Fence.wide 5 trivial trivial trivial trivial rfl (by omega) (Qnf _) (enters_of Tryz.func115 (by kernel_rfl) rfl) 116 #[.pointer (some ⟨Bm,0,none⟩)] trivial (enters_of Tryz.func116 (by kernel_rfl) rfl) _ _ hmax hbytes w hseq
 exact(callsIn_wide (n:=5)).1 cS
end Go.Proofs.YtofknpknogfijaaGreatDoor
namespace Go.Proofs.YtofknpknogfijaaGreatDoor
open Go.Shelf
def QaY:Go.Shelf.Ren:=⟨fun|171=>43|243=>79|246=>110|283=>132|284=>133|285=>134|286=>135|129=>139|317=>142|318=>143|319=>144|320=>145|337=>155|338=>138|n=>n,fun|3=>3|9=>9|2=>2|4=>4|171=>182|0=>0|53=>99|37=>75|5=>5|173=>184|212=>193|51=>190|20=>20|213=>194|46=>159|232=>209|233=>202|n=>n,fun|17=>2|18=>4|19=>3|n=>n⟩
theorem Qhn:Go.Proofs.LaysM.n171 Tryz.prog QaY:={
 mixed:=by kernel_rfl
 f129:=Tryz.func139.trans (congrArg some (by kernel_rfl))
 f171:=Tryz.func43.trans (congrArg some (by kernel_rfl))
 f243:=Tryz.func79.trans (congrArg some (by kernel_rfl))
 f246:=Tryz.func110.trans (congrArg some (by kernel_rfl))
 f283:=Tryz.func132.trans (congrArg some (by kernel_rfl))
 f284:=Tryz.func133.trans (congrArg some (by kernel_rfl))
 f285:=Tryz.func134.trans (congrArg some (by kernel_rfl))
 f286:=Tryz.func135.trans (congrArg some (by kernel_rfl))
 f317:=Tryz.func142.trans (congrArg some (by kernel_rfl))
 f318:=Tryz.func143.trans (congrArg some (by kernel_rfl))
 f319:=Tryz.func144.trans (congrArg some (by kernel_rfl))
 f320:=Tryz.func145.trans (congrArg some (by kernel_rfl))
 f337:=Tryz.func155.trans (congrArg some (by kernel_rfl))
 f338:=Tryz.func138.trans (congrArg some (by kernel_rfl))
 t0:=Tryz.underlying0
 a0:=Tryz.isAgg0
 z0:=Tryz.sizeOf0
 v0:=Tryz.zeroValue0
 t2:=Tryz.underlying2
 a2:=Tryz.isAgg2
 z2:=Tryz.sizeOf2
 v2:=Tryz.zeroValue2
 t3:=Tryz.underlying3
 a3:=Tryz.isAgg3
 z3:=Tryz.sizeOf3
 v3:=Tryz.zeroValue3
 t4:=Tryz.underlying4
 a4:=Tryz.isAgg4
 z4:=Tryz.sizeOf4
 v4:=Tryz.zeroValue4
 t5:=Tryz.underlying5
 a5:=Tryz.isAgg5
 z5:=Tryz.sizeOf5
 v5:=Tryz.zeroValue5
 t9:=Tryz.underlying9
 a9:=Tryz.isAgg9
 z9:=Tryz.sizeOf9
 v9:=Tryz.zeroValue9
 t20:=Tryz.underlying20
 a20:=Tryz.isAgg20
 z20:=Tryz.sizeOf20
 v20:=Tryz.zeroValue20
 t37:=Tryz.underlying75
 a37:=Tryz.isAgg75
 z37:=Tryz.sizeOf75
 v37:=Tryz.zeroValue75
 t46:=Tryz.underlying159
 a46:=Tryz.isAgg159
 z46:=Tryz.sizeOf159
 v46:=Tryz.zeroValue159
 t51:=Tryz.underlying190
 a51:=Tryz.isAgg190
 z51:=Tryz.sizeOf190
 v51:=Tryz.zeroValue190
 t53:=Tryz.underlying99
 a53:=Tryz.isAgg99
 z53:=Tryz.sizeOf99
 v53:=Tryz.zeroValue99
 t171:=Tryz.underlying182
 a171:=Tryz.isAgg182
 z171:=Tryz.sizeOf182
 v171:=Tryz.zeroValue182
 t173:=Tryz.underlying184
 a173:=Tryz.isAgg184
 z173:=Tryz.sizeOf184
 v173:=Tryz.zeroValue184
 t212:=Tryz.underlying193
 a212:=Tryz.isAgg193
 z212:=Tryz.sizeOf193
 v212:=Tryz.zeroValue193
 t213:=Tryz.underlying194
 a213:=Tryz.isAgg194
 z213:=Tryz.sizeOf194
 t232:=Tryz.underlying209
 a232:=Tryz.isAgg209
 z232:=Tryz.sizeOf209
 v232:=Tryz.zeroValue209
 t233:=Tryz.underlying202
 a233:=Tryz.isAgg202
 z233:=Tryz.sizeOf202
 v233:=Tryz.zeroValue202
 g17:=by kernel_rfl
 g18:=by kernel_rfl
 g19:=by kernel_rfl
 i0:=by kernel_rfl
 i2:=by kernel_rfl
 i3:=by kernel_rfl
 i4:=by kernel_rfl
 i5:=by kernel_rfl
 i9:=by kernel_rfl
 i20:=by kernel_rfl
 i37:=by kernel_rfl
 i46:=by kernel_rfl
 i51:=by kernel_rfl
 i53:=by kernel_rfl
 i171:=by kernel_rfl
 i173:=by kernel_rfl
 i212:=by kernel_rfl
 i232:=by kernel_rfl
 i233:=by kernel_rfl
 m17:=by kernel_rfl
 m18:=by kernel_rfl
 m19:=by kernel_rfl }
open Go.RowKit Go.Sort Go.Lib in
theorem strconv_Itoa(n:Int)(h0 : -9223372036854775808<=n)(h1:n<=9223372036854775807)(w:World)(htab:Lib.TabIs Tryz.prog w "internal/strconv.uint64pow10" .u64 Lib.pow10Tab) :
 Calls Tryz.prog 43 #[.int .i64 n] w fun e w'=>e = .returned (.string ⟨(Lib.itoa n).toArray⟩)/\∃ k os,w'=grow (w.drewN k) os:=Any.strconv_Itoa Qhn n h0 h1 w htab
def QaZ:Go.Shelf.Ren:=⟨fun|29=>138|n=>n,fun|0=>0|3=>3|4=>4|5=>5|22=>99|25=>159|54=>202|n=>n,fun|1=>3|n=>n⟩
theorem Qho:Go.Proofs.Lays7.n29 Tryz.prog QaZ:={
 mixed:=by kernel_rfl
 f29:=Tryz.func138.trans (congrArg some (by kernel_rfl))
 t0:=Tryz.underlying0
 a0:=Tryz.isAgg0
 z0:=Tryz.sizeOf0
 v0:=Tryz.zeroValue0
 i0:=by kernel_rfl
 t3:=Tryz.underlying3
 a3:=Tryz.isAgg3
 z3:=Tryz.sizeOf3
 v3:=Tryz.zeroValue3
 i3:=by kernel_rfl
 t4:=Tryz.underlying4
 a4:=Tryz.isAgg4
 z4:=Tryz.sizeOf4
 v4:=Tryz.zeroValue4
 i4:=by kernel_rfl
 t5:=Tryz.underlying5
 a5:=Tryz.isAgg5
 z5:=Tryz.sizeOf5
 v5:=Tryz.zeroValue5
 i5:=by kernel_rfl
 t22:=Tryz.underlying99
 a22:=Tryz.isAgg99
 z22:=Tryz.sizeOf99
 v22:=Tryz.zeroValue99
 i22:=by kernel_rfl
 t25:=Tryz.underlying159
 a25:=Tryz.isAgg159
 z25:=Tryz.sizeOf159
 v25:=Tryz.zeroValue159
 i25:=by kernel_rfl
 t54:=Tryz.underlying202
 a54:=Tryz.isAgg202
 z54:=Tryz.sizeOf202
 g1:=by kernel_rfl }
theorem bits_TrailingZeros64(x:Nat)(hx:x<18446744073709551616)(w:World)(hT:x≠0->TabAt 3 Lib.deBruijn64tab w) :
 Calls Tryz.prog 138 #[.int .u64 x] w fun e w'=>e = .returned (.int .i64 (Lib.ctz 64 x))/\w'=w:=Any7.bits_TrailingZeros64 Qho x hx w hT
end Go.Proofs.YtofknpknogfijaaGreatDoor
namespace Go.Proofs.YtofknpknogfijaaGreatDoor
open Go.Ab
set_option linter.all false
def Qe5:List Int:=List.map (fun n:Nat=>(n:Int)) Lib.deBruijn64tab
structure Facts(W:World):Prop where
 pow:Lib.TabIs Tryz.prog W "internal/strconv.uint64pow10" .u64 Lib.pow10Tab
 deb:Lib.TabIs Tryz.prog W "math/bits.deBruijn64tab" .u8 Qe5
abbrev BW(W:World):Base:=⟨W.heap.size,W⟩
theorem Qm9{w:World}(h:Lib.TabIs Tryz.prog w "math/bits.deBruijn64tab" .u8 Qe5):TabAt 3 Lib.deBruijn64tab w:=fun j hj=>by
 have:=h.cell (g:=3) (by kernel_rfl) j (by unfold Qe5;rw[Gj];exact hj)
 rw[this]
 congr 2
 unfold Qe5
 rw[Ge,Ge,Gh]
 cases Lib.deBruijn64tab[j]? <;> rfl
theorem Qe3[Base](hg:3<Base.B)(htab:Lib.TabIs Tryz.prog Base.W "math/bits.deBruijn64tab" .u8 Qe5):HkOK Tryz.prog 138 qL where
 fn:=by kernel_rfl
 len:=fun args h v h' hs=>by
  unfold qL at hs
  split at hs
  ·split at hs
   ·rw[Yu]at hs;simp only[Option.some.injEq,Prod.mk.injEq]at hs;rw[← hs.2];exact Gd _
   ·simp at hs
  ·simp at hs
 run:=fun args h v h' hs β w vs hvs R hf=>by
  unfold qL at hs
  split at hs
  ·rename_i a
   split at hs
   ·rename_i hp
    rw[Yu]at hs
    simp only[Option.some.injEq,Prod.mk.injEq]at hs
    obtain⟨rfl,rfl⟩:=hs
    cases hvs with
    | cons k1 hvs =>
     cases hvs
     cases k1 with
     | sc k1 =>
      cases k1
      have e:a=((a.toNat:Nat):Int):=by omega
      have hw:=Qm9 ((R.var (by kernel_rfl) hg).trans htab)
      have hc:=bits_TrailingZeros64 a.toNat (by omega) w fun _=>hw
      rw[← e]at hc
      refine hc.mono ?_
      rintro e w' ⟨rfl,rfl⟩
      exact⟨β,_,rfl,.sc (.int _ _),Stp.refl _ _ _,R⟩
   ·simp at hs
  ·simp at hs
section
variable (W:World) (hF:Facts W)
include hF
theorem QaO:@HkOK (BW W) Tryz.prog 43 Y9:=by
 letI:Base:=BW W
 exact Qck (g:=2) (nm := "internal/strconv.uint64pow10") (by kernel_rfl) (V8 (by kernel_rfl) hF.pow) (by kernel_rfl) hF.pow fun n h1 h2 w h3=>strconv_Itoa n h1 h2 w h3
theorem QlI:@HkOK (BW W) Tryz.prog 138 qL:=by
 letI:Base:=BW W
 exact Qe3 (V8 (by kernel_rfl) hF.deb) hF.deb
theorem yb:@qz (BW W) Tryz.prog (@HKt ⟨false⟩):=by
 letI:Base:=BW W
 intro f g h
 unfold HKt at h
 split at h
 ·rename_i hf;simp only[Option.some.injEq]at h;subst hf h;exact QaO W hF
 split at h
 ·rename_i hf;simp only[Option.some.injEq]at h;subst hf h;exact QlI W hF
 split at h
 ·cases h
 split at h
 ·rename_i hf;simp only[Option.some.injEq]at h;subst hf h;exact z7 (by kernel_rfl) Qaa
 split at h
 ·rename_i hf;simp only[Option.some.injEq]at h;subst hf h;exact qA (by kernel_rfl) Tryz.underlying3 zQ
 ·exact Qdx f g h
theorem QpJ:@qz (BW W) Tryz.prog HKs:=by
 letI:Base:=BW W
 letI:HB:=⟨false⟩
 intro f g h
 unfold HKs at h
 split at h
 ·rename_i hf;simp only[Option.some.injEq]at h;subst hf h;exact(QaO W hF).less Vq
 split at h
 ·rename_i hf;simp only[Option.some.injEq]at h;subst hf h;exact Qo2 (yb W hF)
 split at h
 ·rename_i hf;simp only[Option.some.injEq]at h;subst hf h;exact Qnb (yb W hF)
 split at h
 ·rename_i hf;simp only[Option.some.injEq]at h;subst hf h;exact of_ok (yb W hF)
 split at h
 ·rename_i hf;simp only[Option.some.injEq]at h;subst hf h;exact Qoa (yb W hF)
 split at h
 ·rename_i hf;simp only[Option.some.injEq]at h;subst hf h;exact QnI (yb W hF)
 split at h
 ·rename_i hf;simp only[Option.some.injEq]at h;subst hf h;exact QnA (yb W hF)
 split at h
 ·rename_i hf;simp only[Option.some.injEq]at h;subst hf h;exact pr_ok (yb W hF)
 ·exact Qdx f g h
theorem QpI:@qz (BW W) Tryz.prog (@HKt ⟨true⟩):=by
 letI:Base:=BW W
 intro f g h
 unfold HKt at h
 split at h
 ·rename_i hf;simp only[Option.some.injEq]at h;subst hf h;exact QaO W hF
 split at h
 ·rename_i hf;simp only[Option.some.injEq]at h;subst hf h;exact QlI W hF
 split at h
 ·rename_i hf
  replace h:some (Zh (.sc (.bool true)))=some g:=h
  simp only[Option.some.injEq]at h
  subst hf h
  exact QiS (QpJ W hF)
 split at h
 ·rename_i hf;simp only[Option.some.injEq]at h;subst hf h;exact z7 (by kernel_rfl) Qaa
 split at h
 ·rename_i hf;simp only[Option.some.injEq]at h;subst hf h;exact qA (by kernel_rfl) Tryz.underlying3 zQ
 ·exact Qdx f g h
end
set_option maxHeartbeats 16000000
set_option maxRecDepth 20000
attribute [local irreducible] Qm wA Xp Xo QI Qp QZ QY
variable [HB]
def I15(hb:Qa)(B:Nat)(nm:List UInt8)(s:SV)(ts:List Tm)(E:Env)(h:Qa):Prop:=∃ i:Nat,i<=ts.length/\BL hb h B (yi nm ts i) ∧
 E.keep [1,5,18,19,20]=[(1,some (.sc (tb nm))),(5,some (.sc (.ptr B 0))),(18,some (.sc s)),(19,some (.sc (.int .i64 (ts.length:Nat)))),(20,some (.sc (.int .i64 (i:Nat))))]
def R15(hb:Qa)(B:Nat)(nm:List UInt8)(ts:List Tm)(ex:Ex)(E:Env)(h:Qa):Prop:=BL hb h B (yi nm ts ts.length) ∧
 ex = .ex 1/\∃ a b c d e,E=[(1,a),(5,some (.sc (.ptr B 0))),(18,b),(19,c),(20,d),(21,e)]
theorem Qkj(hb:Qa)(B:Nat)(s:SV)(nm:List UInt8)(hn:nm.length<=40)(ts:List Tm)(hs:IsD hb s (tms ts))(hl:ts.length<=1000)(hc:∀ t∈ts,t.2.natAbs<=cM)(he:∀ t∈ts,t.1.natAbs<=eM)(E:Env)(h:Qa)(hI:I15 hb B nm s ts E h) :
  wA FT HKt QmA (E.keep [1,5,18,19,20]) h (QI (I15 hb B nm s ts) (cK [1,5,18,19,20] ts.length 20) (cK [1,5,18,19,20] ts.length 20 E h) (R15 hb B nm ts)):=by
 obtain⟨i,hi,b0,hE⟩:=hI
 have hm:cK [1,5,18,19,20] ts.length 20 E h=ts.length-i:=by unfold cK;rw[hE];rfl
 rw[hm,hE]
 by_cases hlt:i<ts.length
 ·obtain⟨t,ht⟩:∃ t,ts[i]?=some t:=⟨_,Ga hlt⟩
  obtain⟨id,off,cap,e1,r0⟩:=hs.at (i:=i) (p:=tmP t) (by simp[ht])
  rw[Q6]at e1
  subst e1
  have r1:=Qw b0.ext r0
  have hc1:t.2.natAbs<=1125899906842624:=hc t (Gg ht)
  have he1:t.1.natAbs<=1048576:=he t (Gg ht)
  have l1:=yh hn hc he i hi
  have l2:=JH hc1
  have l3:=JH (x:=t.1) (by omega)
  have l4:=JH (x := -t.2) (by omega)
  have hst:=y5 (nm:=nm) ht
  have fin:∀ h2 L,BL hb h2 B L->L=yi nm ts (i+1)->I15 hb B nm (.slc id off ts.length cap) ts [(1,some (.sc (tb nm))),(5,some (.sc (.ptr B 0))),(18,some (.sc (.slc id off ts.length cap))),(19,some (.sc (.int .i64 (ts.length:Nat)))),(20,some (.sc (.int .i64 ((i:Nat)+1))))] h2:=fun h2 L b2 eL=>⟨i+1,by omega,by rw[← eL];exact b2,rfl⟩
  repeat' first|apply Qf|apply Qb|apply Qt|apply QL|apply Qn|apply Qe|(apply Qg;first|refine Qk rfl ?_|refine Qi rfl ?_)|(apply Qd;first|refine QO rfl rfl rfl rfl rfl ?_|refine QE rfl rfl rfl rfl rfl rfl ?_|refine Q4 rfl rfl rfl rfl rfl rfl rfl ?_|refine Xh rfl rfl rfl rfl rfl rfl rfl rfl ?_|refine Q9 rfl rfl rfl rfl rfl rfl rfl rfl rfl ?_)|(apply Qc;first|refine Qy (esz:=2) rfl rfl (by omega) ?_|refine XH rfl r1 ?_|(apply Xa;intro h1 e1 c1)|(refine Xg rfl rfl c1 ?_;intro h2 w2;have b1:=BLq.of b0 (w2.ext e1 (Gd _)) w2.cel)|refine QW rfl ?_|refine QH rfl b1.at ?_|refine QN rfl b1.at ?_|(refine Qj rfl (Qbl _ _ _ _ 45 _ _ b1 (by omega)) ?_;rintro v h2 ⟨rfl,b1⟩)|(refine Qj rfl (Qbl _ _ _ _ 43 _ _ b1 (by omega)) ?_;rintro v h2 ⟨rfl,b1⟩)|(refine Qj rfl (Qbl _ _ _ _ 94 _ _ b1 (by simp only[Gz,Gu,GC];omega)) ?_;rintro v h2 ⟨rfl,b1⟩)|(refine Qj rfl (zj t.1 (by omega)) ?_;rintro v _ ⟨rfl,rfl⟩)|(refine Qj rfl (zj t.2 (by omega)) ?_;rintro v _ ⟨rfl,rfl⟩)|(refine Qj rfl (zj (-t.2) (by omega)) ?_;rintro v _ ⟨rfl,rfl⟩)|(refine Qj rfl (UJ _ _ _ _ nm _ _ b1 (by simp only[Gz,Gu,GC];omega) (by omega)) ?_;rintro v h2 b1)|(refine Qj rfl (UJ _ _ _ _ nm _ _ b1 (by omega) (by omega)) ?_;rintro v h2 b1)|(refine Qj rfl (UJ _ _ _ _ (Lib.itoa _) _ _ b1 (by simp only[Gz,Gu,GC];omega) (by omega)) ?_;rintro v h2 b1)|(refine Qj rfl (UJ _ _ _ _ (Lib.itoa _) _ _ b1 (by omega) (by omega)) ?_;rintro v h2 b1)|refine Xd rfl ?_|refine QP rfl ?_|refine Ql rfl ?_|refine QR rfl rfl ?_|refine QJ rfl rfl ?_|refine QM rfl rfl (by omega) ?_|refine Z1 rfl (by omega) ?_|refine Qx rfl rfl (by omega) ?_|refine Vm rfl rfl (fun hc=>?_) (fun hc=>?_)|refine Vn rfl rfl (fun hc=>?_) (fun hc=>?_)|refine Vo rfl rfl (fun hc=>?_) (fun hc=>?_)|refine Ya rfl rfl (by omega) ?_|refine XJ rfl rfl (by omega) ?_|refine Vl rfl rfl (fun hc=>?_) (fun hc=>?_))
  all_goals refine Xr (fin _ _ b1.bl ?_) (by simp[cK,Env.keep,Env.get];omega)
  all_goals (rw[hst];unfold tTx VB;repeat first|rw[if_pos (by omega)]|rw[if_neg (by omega)])
  all_goals simp only[GK,Hk,List.nil_append]
 ·have:i=ts.length:=by omega
  subst this
  repeat' first|apply Qf|apply Qb|apply QS|apply QQ|apply Qe|(apply Qg;refine Qi rfl ?_)|(apply Qd;refine QE rfl rfl rfl rfl rfl rfl ?_)|(apply Qc;refine QF rfl rfl (by omega) ?_)
  exact XI ⟨b0,rfl,_,_,_,_,_,rfl⟩
theorem QoR(h0:Qa)(s:SV)(nm:List UInt8)(hn:nm.length<=40)(p:Pol)(hs:IsD h0 s (tms p.ts))(hl:p.ts.length<=1000)(hc:∀ t∈p.ts,t.2.natAbs<=cM)(he:∀ t∈p.ts,t.1.natAbs<=eM) :
  ∃ r h',Cal FT HKt 15 [.agg [.bool p.big,s],.sc (tb nm)] h0 r h'/\Ext h0 h'/\r = .sc (tb (qx nm p)):=by
 refine Cal.of (F:=a15) rfl rfl rfl ?_
 have ls:=hs.len
 rw[Q6]at ls
 cases hb:p.big with
 | true =>
  have e:qx nm p=[98,105,103]:=by unfold qx;rw[if_pos hb]
  repeat' first|apply Qf|apply Qb|apply QC|apply Qt|apply Xi|apply Qs|apply Qe|(apply Qg;refine Qk rfl ?_)|(apply Qd;first|refine Qq rfl ?_|refine QA rfl rfl ?_|refine Qu rfl rfl rfl ?_)|(apply Qc;first|(refine QD rfl ?_;intro h1 e1 c1)|refine QW rfl ?_|refine QN rfl c1 ?_|refine Ql rfl ?_)
  exact⟨.inr rfl,e1,by rw[e];rfl⟩
 | false =>
  by_cases hz:p.ts=[]
  ·have e:qx nm p=[48]:=by unfold qx;rw[if_neg (by rw[hb];decide),if_pos hz]
   rw[hz,GC]at ls
   repeat' first|apply Qf|apply Qb|apply QC|apply Qt|apply Xi|apply Qs|apply Qe|(apply Qg;first|refine Qk rfl ?_|refine Qi rfl ?_)|(apply Qd;first|refine Qq rfl ?_|refine QA rfl rfl ?_|refine Qu rfl rfl rfl ?_)|(apply Qc;first|(refine QD rfl ?_;intro h1 e1 c1)|refine QW rfl ?_|refine QH rfl c1 ?_|refine QN rfl c1 ?_|refine Qr rfl ls ?_|refine Ql rfl ?_|refine Xu rfl rfl (by omega) ?_)
   exact⟨.inr rfl,e1,by rw[e];rfl⟩
  ·have e:qx nm p=yi nm p.ts p.ts.length:=by unfold qx;rw[if_neg (by rw[hb];decide),if_neg hz]
   have hp:0<p.ts.length:=GU.2 hz
   repeat' first|apply Qf|apply Qb|apply Qt|apply QL|apply Qn|apply Qe|(apply Qg;refine Qi rfl ?_)|(apply Qd;first|refine QA rfl rfl ?_|refine Qu rfl rfl rfl ?_|refine QO rfl rfl rfl rfl rfl ?_)|(apply Qc;first|(refine QD rfl ?_;intro h1 e1 c1)|refine QW rfl ?_|refine QH rfl c1 ?_|refine QN rfl c1 ?_|refine Qr rfl ls ?_|refine QH rfl (c1.ext ((Ext.refl _).app _)) ?_|refine Ql rfl ?_|refine Xl rfl rfl (by omega) ?_|refine Xk rfl rfl ?_)
   have hln:=yh hn hc he p.ts.length (Gd _)
   refine YQ (I15 h1 h1.length nm s p.ts) (cK [1,5,18,19,20] p.ts.length 20) (R15 h1 h1.length nm p.ts) ⟨0,Gm _,Bld.new 77 bz (Ext.refl h1),rfl⟩ (Qkj h1 h1.length s nm hn p.ts (hs.ext e1) hl hc he) ?_
   rintro ex E' h2 ⟨b2,rfl,_,_,_,_,_,rfl⟩
   repeat' first|apply Qf|apply Qb|apply QK|apply Qs|apply Qe|(apply Qd;refine Qq rfl ?_)|(apply Qc;first|(refine Qj rfl (QoF _ _ _ _ b2 (by omega)) ?_;rintro v h3 ⟨rfl,e3⟩)|refine Ql rfl ?_)
   exact⟨.inr rfl,e1.trans e3,by rw[e];rfl⟩
def mG(w:Int->Int->Int):List Tm->List Tm->List Tm:=mrg w
structure CbG(gf:FuncId)(h0 h:Qa)(q3 q4 q5 q6 q7 q8:Nat)(sp sq s:SV)(F:Bool)(r:List Tm):Prop where
 e:Ext h0 h
 c3:Cel h q3 (.bool false) sp
 c4:Cel h q4 (.bool false) sq
 c5:Cel1 h q5 (.fn gf [])
 c6:Cel h q6 (.bool false) .nilS
 c7:Cel h q7 (.bool false) s
 c8:Cel1 h q8 (.bool F)
 o:OwnD h0 h s (tms r)
 ord:h0.length<=q3/\q3<q4/\q4<q5/\q5<q6/\q6<q7/\q7<q8
structure MgG(w:Int->Int->Int)(p q:List Tm)(i j:Nat)(F:Bool)(r:List Tm):Prop where
 eq:mG w p q=r++mG w (p.drop i) (q.drop j)
 ft:Ul (mG w p q)↔(F=true/\Ul (mG w (p.drop i) (q.drop j)))
 ln:r.length<=i+j
end Go.Proofs.YtofknpknogfijaaGreatDoor
namespace Go.Proofs.YtofknpknogfijaaGreatDoor
open Go.Ab
set_option linter.all false
variable [HB]
def Mvf(f:Int->Int)(up:Bool):Prop:=∀ a b,a<b->if up=true then f a<f b else f b<f a
theorem Mvf.inj{f:Int->Int}{up:Bool}(m:Mvf f up){a b:Int}(h:f a=f b):a=b:=by
 rcases Int.lt_trichotomy a b with h1|h1|h1
 ·have:=m a b h1
  cases up <;> simp at this <;> omega
 ·exact h1
 ·have:=m b a h1
  cases up <;> simp at this <;> omega
def Bd(k:Nat)(l:List Tm):Prop:=∀ t∈l,t.1.natAbs<=k
theorem Bd.lh{k:Nat}{l:List Tm}(h:Bd k l)(h0:l≠[]):(lo0 l).natAbs<=k/\(hi0 l).natAbs<=k:=by
 obtain⟨t,a,b⟩:=yH h0
 obtain⟨u,c,d⟩:=yM h0
 rw[← b,← d]
 exact⟨h t a,h u c⟩
set_option maxHeartbeats 16000000
set_option maxRecDepth 20000
attribute [local irreducible] Qm wA Xp Xo QI Qp QZ QY
open Classical in
noncomputable def combP(w:Int->Int->Int)(p q:Pol):Pol:=if p.big=true∨q.big=true then Zi else if Ul (mG w p.ts q.ts) then ⟨false,mG w p.ts q.ts⟩ else Zi
theorem S_mA(g:Int->Int)(p q:List Tm):S g (mA p q)=S g p+S g q:=by
 unfold mA
 rw[Qar (x:=1) (y:=1) (fun a b=>by omega)];omega
theorem Qln{p q:Pol}(bp:p.big=false)(bq:q.big=false):qd p q=open Classical in if Ul (mA p.ts q.ts) then ⟨false,mA p.ts q.ts⟩ else Zi:=by
 unfold qd;rw[if_neg (by simp[bp,bq])]
theorem Qhb{p q:Pol}(kp:Pok p)(kq:Pok q)(bp:p.big=false)(bq:q.big=false)(hp:Bd 524288 p.ts)(hq:Bd 524288 q.ts) :
  ∃ L,Can L/\(∀ g,S g L=S2 g p.ts q.ts)/\(Yg p q=open Classical in if ∀ t∈L,t.2.natAbs<=cM then ⟨false,L⟩ else Zi):=by
 by_cases h0:p.ts=[]∨q.ts=[]
 ·refine⟨[],.nil,fun g=>?_,?_⟩
  ·rcases h0 with h|h
   ·rw[h];rfl
   ·rw[h]
    unfold S2
    exact(zN _).symm
  ·unfold Yg
   rw[if_neg (by simp[bp,bq]),if_pos h0,if_pos (by simp)]
 ·have h1:p.ts≠[]:=fun h=>h0 (.inl h)
  have h2:q.ts≠[]:=fun h=>h0 (.inr h)
  obtain⟨a,b⟩:=hp.lh h1
  obtain⟨c,d⟩:=hq.lh h2
  refine⟨VO p.ts q.ts (qG p.ts q.ts) (ZG p.ts q.ts),qr _ _ _,fun g=>Qo8 (QaT kp.can kq.can) g,?_⟩
  unfold Yg
  rw[if_neg (by simp[bp,bq]),if_neg h0,if_neg (by unfold qG;omega)]
theorem Bd.mono{j k:Nat}{l:List Tm}(h:Bd j l)(hk:j<=k):Bd k l:=fun t ht=>Gq (h t ht) hk
end Go.Proofs.YtofknpknogfijaaGreatDoor
namespace Go.Proofs.YtofknpknogfijaaGreatDoor
set_option linter.all false
variable [HB]
theorem Qi8(g:Int->Int)(e v:Int):∀ M:List Tm,S g (YS e v M)=S g M+v*g e
 | []=>by simp[YS,S]
 | u::r=>by
  unfold YS
  split
  ·simp only[S];rw[Qi8 g e v r];omega
  split
  ·rename_i h1 h2
   simp only[S]
   rw[h2,Int.add_mul];omega
  ·simp only[S];omega
theorem yY(g:Int->Int):∀(L M:List Tm),S g (Xy L M)=S g M+S g L
 | [],M=>by simp[Xy,S]
 | t::L,M=>by
  show S g (Xy L (YS t.1 t.2 M))=_
  rw[yY g L,Qi8]
  simp only[S];omega
theorem S_mt(g:Int->Int)(a:Tm):∀ Q:List Tm,S g (Q.map (mt a))=a.2*S (fun b=>g (a.1+b)) Q
 | []=>by simp[S]
 | b::Q=>by
  simp only[List.map_cons,S,mt]
  rw[S_mt g a Q,Int.mul_add,Int.mul_assoc]
theorem QcL(g:Int->Int)(Q:List Tm):∀(P M:List Tm),S g (X9 P Q M)=S g M+S2 g P Q
 | [],M=>by simp[X9,S2,S]
 | a::P,M=>by
  show S g (X9 P Q (Xy (Q.map (mt a)) M))=_
  rw[QcL g Q P,yY,S_mt]
  simp only[S2,S];omega
theorem S_nz(g:Int->Int):∀ M:List Tm,S g (M.filter nzT)=S g M
 | []=>rfl
 | u::r=>by
  rw[List.filter_cons]
  split
  ·simp only[S];rw[S_nz g r]
  ·rename_i h
   have:u.2=0:=by simpa [nzT]using h
   simp only[S];rw[S_nz g r,this];omega
def Asc(l:List Tm):Prop:=l.Pairwise fun a b=>a.1<b.1
theorem QbR{e v:Int}:∀ {M:List Tm} {u:Tm},u∈YS e v M->u.1=e∨∃ w∈M,w.1=u.1
 | [],u,h=>by simp[YS]at h;subst h;exact .inl rfl
 | a::r,u,h=>by
  unfold YS at h
  split at h
  ·rcases List.mem_cons.1 h with rfl|h
   ·exact .inr ⟨_,.head _,rfl⟩
   ·rcases QbR h with h|⟨w,hw,e⟩
    ·exact .inl h
    ·exact .inr ⟨w,.tail _ hw,e⟩
  split at h
  ·rcases List.mem_cons.1 h with rfl|h
   ·exact .inl rfl
   ·exact .inr ⟨u,.tail _ h,rfl⟩
  ·rcases List.mem_cons.1 h with rfl|h
   ·exact .inl rfl
   ·exact .inr ⟨u,h,rfl⟩
theorem QbU{e v:Int}:∀ {M:List Tm},Asc M->Asc (YS e v M)
 | [],h=>by simp[YS,Asc]
 | a::r,h=>by
  have h':=List.pairwise_cons.1 h
  unfold YS
  split
  ·rename_i h1
   refine List.pairwise_cons.2 ⟨fun u hu=>?_,QbU h'.2⟩
   rcases QbR hu with h2|⟨w,hw,e2⟩
   ·omega
   ·have:=h'.1 w hw;omega
  split
  ·rename_i h1 h2
   exact List.pairwise_cons.2 ⟨fun u hu=>by have:=h'.1 u hu;simp only;omega,h'.2⟩
  ·rename_i h1 h2
   refine List.pairwise_cons.2 ⟨fun u hu=>?_,h⟩
   rcases List.mem_cons.1 hu with rfl|hu
   ·simp only;omega
   ·have:=h'.1 u hu;simp only;omega
theorem Jy:∀ {L M:List Tm},Asc M->Asc (Xy L M)
 | [],M,h=>h
 | t::L,M,h=>Jy (L:=L) (QbU h)
theorem Vf{Q:List Tm}:∀ {P M:List Tm},Asc M->Asc (X9 P Q M)
 | [],M,h=>h
 | a::P,M,h=>Vf (P:=P) (Jy h)
theorem Asc.can{M:List Tm}(h:Asc M):Can (M.filter nzT):=⟨List.Pairwise.filter _ h,fun t ht=>by simpa [nzT]using (List.mem_filter.1 ht).2⟩
theorem QfT{M:List Tm}(h:Asc M):ZA M=Zi∨(ZA M).big=false/\Pok (ZA M)/\(∀ g,S g (ZA M).ts=S g M):=by
 unfold ZA
 split
 ·rename_i ha
  refine .inr ⟨rfl,⟨by simp,h.can,fun t ht=>?_,fun t ht=>?_⟩,fun g=>S_nz g M⟩
  ·have h2:=List.mem_filter.1 ht
   exact(ha t h2.1 (by simpa [nzT]using h2.2)).1
  ·have h2:=List.mem_filter.1 ht
   exact(ha t h2.1 (by simpa [nzT]using h2.2)).2
 ·exact .inl rfl
open Go.Ab
set_option maxHeartbeats 16000000
set_option maxRecDepth 20000
attribute [local irreducible] Qm wA Xp Xo QI Qp QZ QY
structure St63(h0 h:Qa)(q4 q5:Nat)(s:SV)(r:List Tm):Prop where
 e:Ext h0 h
 c4:Cel h q4 (.bool false) .nilS
 c5:Cel h q5 (.bool false) s
 o:OwnD h0 h s (tms r)
end Go.Proofs.YtofknpknogfijaaGreatDoor
namespace Go.Proofs.YtofknpknogfijaaGreatDoor
set_option linter.all false
variable [HB]
theorem QcI{t:Tm}{r:List Tm}(h:Asc (t::r)):∀ u∈r,t.1<u.1:=(List.pairwise_cons.1 h).1
theorem QeT:∀ {M:List Tm} {t:Tm},Asc M->t∈M->cf M t.1=t.2
 | u::r,t,h,ht=>by
  rcases List.mem_cons.1 ht with rfl|ht
  ·rw[Z4,YO,qw fun v hv=>by have:=QcI h v hv;omega];omega
  ·have:=QcI h t ht
   rw[Z4,ZQ (by omega),QeT (List.pairwise_cons.1 h).2 ht];omega
theorem QkY{M:List Tm}(h:Asc M)(hb:∀ e,cf M e≠0->(cf M e).natAbs<=cM/\e.natAbs<=eM):(ZA M).big=false:=by
 unfold ZA
 rw[if_pos]
 intro u hu h0
 have:=hb u.1
 rw[QeT h hu]at this
 exact this h0
def hd0(l:List Tm):Int:=match l with
 | []=>0
 | t::_=>t.2
open Go.Ab
set_option maxHeartbeats 16000000
set_option maxRecDepth 20000
attribute [local irreducible] Qm wA Xp Xo QI Qp QZ QY
section
variable {FT:zzA} {HK:zzH} {E:Env} {h:Qa} {K:Env->Qa->Prop} {d:Option Nat} {r:List AOp} {xo:AO}
end
end Go.Proofs.YtofknpknogfijaaGreatDoor
namespace Go.Proofs.YtofknpknogfijaaGreatDoor
open Go.Ab
set_option linter.all false
set_option maxHeartbeats 16000000
set_option maxRecDepth 20000
attribute [local irreducible] Qm wA Xp Xo QI Qp QZ QY
section
variable [HB]
end
variable [HB]
def bF(r:List Pol):Int:=Qlk (Y4 r)
def bS(r:List Pol):Int:=Qlj (Y4 r)
theorem VT{B:Nat}:∀ {k:Nat} {f:Nat->Int},(∀ j,j<k->(f j).natAbs<=B)->(sm k f).natAbs<=k*B
 | 0,_,_=>by simp[sm]
 | k+1,f,h=>by
  have h1:=VT (k:=k) (f:=f) fun j hj=>h j (by omega)
  have h2:=h k (by omega)
  simp only[sm,GS,Nat.one_mul]
  omega
def ZU(m:List (List Pol))(k:Nat):Int:=sm k fun j=>bF (m.getD j [])
def JL(m:List (List Pol))(k:Nat):Int:=sm k fun j=>bS (m.getD j [])-bF (m.getD j [])
def I40a(m:List (List Pol))(ms:SV)(q2 lid:Nat)(hb:Qa)(mm:Nat)(E:Env)(h:Qa):Prop:=∃ i,i<=m.length/\mm=m.length-i/\Ext hb h/\Bi h lid (yQ (fun j=>bF (m.getD j [])) m.length i)/\(∀ j,j<i->Y4 (m.getD j [])≠none∨m.getD j []=[]) ∧
 E.keep [0,2,4,5,6,24,25,26]=[(0,some (.sc ms)),(2,some (.sc (.ptr q2 0))),(4,some (.sc (.slc lid 0 m.length (some m.length)))),(5,some (.sc (.int .i64 (ZU m i)))),(6,some (.sc (.int .i64 (JL m i)))),(24,some (.sc ms)),(25,some (.sc (.int .i64 (m.length:Nat)))),(26,some (.sc (.int .i64 (i:Nat))))]
def R40a(m:List (List Pol))(ms:SV)(q2 lid:Nat)(h0 hb:Qa)(ex:Ex)(E:Env)(h:Qa):Prop :=
 (ex = .ex 0/\Ext hb h/\Bi h lid ((List.range m.length).map fun j=>bF (m.getD j []))/\(∀ j,j<m.length->Y4 (m.getD j [])≠none∨m.getD j []=[]) ∧
  ∃ a b c d,E=[(0,some (.sc ms)),(2,some (.sc (.ptr q2 0))),(4,some (.sc (.slc lid 0 m.length (some m.length)))),(5,some (.sc (.int .i64 (ZU m m.length)))),(6,some (.sc (.int .i64 (JL m m.length)))),(24,a),(25,b),(26,c),(27,d)]) ∨
 (ex = .rt/\Ext h0 h/\Cel h q2 (.bool false) .nilS/\(∃ j,j<m.length/\Y4 (m.getD j [])=none/\m.getD j []≠[])/\E=[(2,some (.sc (.ptr q2 0))),(3,some (.sc (.bool true)))])
theorem QgC(m:List (List Pol))(ms:SV)(q2 lid:Nat)(h0 hb:Qa)(hx:Ext h0 hb)(hn:m.length<=1000)(pm:PolMx hb ms m)(c2:Cel hb q2 (.bool false) .nilS)(hq:h0.length<=q2)(hl:hb.length<=lid)(ok:∀ r∈m,r.length<=1000000/\(∀ p∈r,p.big=false/\p.ts.length<=100000)/\(bF r).natAbs<=10000000/\(bS r).natAbs<=10000000)(mm:Nat)(E:Env)(h:Qa)(hI:I40a m ms q2 lid hb mm E h) :
  wA FT HKt Qmh (E.keep [0,2,4,5,6,24,25,26]) h (Qp (I40a m ms q2 lid hb) mm (R40a m ms q2 lid h0 hb)):=by
 obtain⟨i,hi,rfl,x,bl,hall,hE⟩:=hI
 rw[hE]
 by_cases hlt:i<m.length
 ·obtain⟨r,hr⟩:∃ r,m[i]?=some r:=⟨_,Ga hlt⟩
  have er:m.getD i []=r:=by rw[Ge,hr];rfl
  obtain⟨id,off,cap,rs,es,rd,pr⟩:=pm.at hr
  subst es
  obtain⟨ok1,ok2,ok3,ok4⟩:=ok r (Gg hr)
  have rd0:=Qw x rd
  have lr:=pr.len
  have all:∀ j,j<i->(bF (m.getD j [])).natAbs<=10000000/\(bS (m.getD j [])).natAbs<=10000000:=fun j hj=>by
   have hm:m.getD j []∈m:=by rw[Ge,Ga (by omega)];exact GI _
   exact(ok _ hm).2.2
  have b1:(ZU m i).natAbs<=i*10000000:=VT fun j hj=>(all j hj).1
  have b2:(JL m i).natAbs<=i*20000000:=VT fun j hj=>by have:=all j hj;omega
  have l1:ZU m (i+1)=ZU m i+bF r:=by show sm (i+1) _=_;simp only[sm,er];rfl
  have l2:JL m (i+1)=JL m i+(bS r-bF r):=by show sm (i+1) _=_;simp only[sm,er];rfl
  have fs:=Qcs (f:=fun j=>bF (m.getD j [])) hlt
  simp only[er]at fs
  have wv:=fun h' (y:Ext h h')=>(bl.ext y).wr (i:=i) (y:=bF r) (by rw[Qct];exact hlt)
  rw[fs]at wv
  repeat' first|apply Qf|apply Qb|apply Qt|apply Qn|apply Qe|(apply Qg;refine Qk rfl ?_)|(apply Qd;first|refine Q9 rfl rfl rfl rfl rfl rfl rfl rfl rfl ?_|refine XA rfl rfl rfl rfl rfl rfl rfl rfl rfl rfl ?_|refine Y5 rfl rfl rfl rfl rfl rfl rfl rfl rfl rfl rfl rfl rfl ?_|refine ZC rfl rfl rfl rfl rfl rfl rfl rfl rfl rfl rfl rfl rfl rfl rfl rfl ?_)|(apply Qc;first|refine Qy (esz:=1) rfl rfl (by omega) ?_|refine Q1 rfl rd0 ?_|refine Qr rfl lr ?_|refine Ql rfl ?_|refine Qx rfl rfl (by omega) ?_)
  refine QV (I40b r rs (.sc (.slc id off m.length cap)) (.sc (.ptr q2 0)) (.sc (.slc lid 0 m.length (some m.length))) (.sc (.int .i64 (ZU m i))) (.sc (.int .i64 (JL m i))) (.sc (.int .i64 (i:Nat))) (.sc (.slc id off m.length cap)) (.sc (.int .i64 (m.length:Nat))) (.sc (.int .i64 (i:Nat))) h) r.length (R40b r rs (.sc (.slc id off m.length cap)) (.sc (.ptr q2 0)) (.sc (.slc lid 0 m.length (some m.length))) (.sc (.int .i64 (ZU m i))) (.sc (.int .i64 (JL m i))) (.sc (.int .i64 (i:Nat))) (.sc (.slc id off m.length cap)) (.sc (.int .i64 (m.length:Nat))) (.sc (.int .i64 (i:Nat))) h)
   ⟨0,Gm _,rfl,Ext.refl _,rfl⟩ (QgB r rs _ _ _ _ _ _ _ _ _ h (pr.ext x) ok1 ok2) ?_
  rintro ex E' h2 ⟨rfl,x2,_,_,_,_,rfl⟩
  have eF:Qlk (Y4 r)=bF r:=rfl
  have eS:Qlj (Y4 r)=bS r:=rfl
  rw[eF,eS]
  have c2':=(c2.ext x).ext x2
  cases hB:Y4 r with
  | none =>
   by_cases hr0:r=[]
   ·have hr1:r.length=0:=by rw[hr0];rfl
    generalize bF r=F at *
    generalize bS r=S at *
    repeat' first|apply Qf|apply Qb|apply QL|apply QK|apply Qn|apply Qe|(apply Qg;refine Qi rfl ?_)|(apply Qd;first|refine Xh rfl rfl rfl rfl rfl rfl rfl rfl ?_|refine XA rfl rfl rfl rfl rfl rfl rfl rfl rfl rfl ?_|refine X0 rfl rfl rfl rfl rfl rfl rfl rfl rfl rfl rfl rfl ?_)|(apply Qc;first|refine Qr rfl lr ?_|refine Qy (esz:=1) rfl rfl (by omega) ?_|refine Jk rfl rfl (wv _ x2) ?_|refine QP rfl ?_|refine Ql rfl ?_|refine QR rfl rfl ?_|refine X1 rfl ?_|refine QM rfl rfl (by omega) ?_|refine Jj rfl rfl (by omega) ?_|refine XD rfl rfl (by omega) ?_)
    rw[← l1,← l2]
    refine Qz (j:=m.length-(i+1)) (by omega) ⟨i+1,by omega,rfl,Ext.setF (x.trans x2) hl _,(bl.ext x2).set,fun j hj=>?_,rfl⟩
    by_cases e:j=i
    ·subst e;rw[er];exact .inr hr0
    ·exact hall j (by omega)
   ·have hr1:0<r.length:=GU.2 hr0
    repeat' first|apply Qf|apply Qb|apply QC|apply QK|apply Xi|apply Qs|apply Qe|(apply Qg;refine Qk rfl ?_)|(apply Qd;first|refine QA rfl rfl ?_|refine X0 rfl rfl rfl rfl rfl rfl rfl rfl rfl rfl rfl rfl ?_)|(apply Qc;first|refine Qr rfl lr ?_|refine Xz rfl rfl ?_|(refine Xg rfl rfl c2' ?_;intro h3 w3)|refine QP rfl ?_|refine Ql rfl ?_|refine QR rfl rfl ?_|refine X1 rfl ?_|refine XK rfl rfl (by omega) ?_)
    exact Xt (.inr ⟨rfl,w3.ext ((hx.trans x).trans x2) hq,w3.cel,⟨i,hlt,by rw[er];exact hB,by rw[er];exact hr0⟩,rfl⟩)
  | some B =>
   generalize bF r=F at *
   generalize bS r=S at *
   repeat' first|apply Qf|apply Qb|apply QL|apply QK|apply Qn|apply Qe|(apply Qg;refine Qi rfl ?_)|(apply Qd;first|refine Xh rfl rfl rfl rfl rfl rfl rfl rfl ?_|refine XA rfl rfl rfl rfl rfl rfl rfl rfl rfl rfl ?_|refine X0 rfl rfl rfl rfl rfl rfl rfl rfl rfl rfl rfl rfl ?_)|(apply Qc;first|refine Qy (esz:=1) rfl rfl (by omega) ?_|refine Jk rfl rfl (wv _ x2) ?_|refine Xd rfl ?_|refine Ql rfl ?_|refine QJ rfl rfl ?_|refine XC rfl ?_|refine QM rfl rfl (by omega) ?_|refine Jj rfl rfl (by omega) ?_)
   rw[← l1,← l2]
   refine Qz (j:=m.length-(i+1)) (by omega) ⟨i+1,by omega,rfl,Ext.setF (x.trans x2) hl _,(bl.ext x2).set,fun j hj=>?_,rfl⟩
   by_cases e:j=i
   ·subst e;rw[er];exact .inl (by rw[hB];simp)
   ·exact hall j (by omega)
 ·have:i=m.length:=by omega
  subst this
  rw[Qaj]at bl
  repeat' first|apply Qf|apply Qb|apply QS|apply QQ|apply Qe|(apply Qg;refine Qi rfl ?_)|(apply Qd;refine Q9 rfl rfl rfl rfl rfl rfl rfl rfl rfl ?_)|(apply Qc;refine QF rfl rfl (by omega) ?_)
  exact QB (.inl ⟨rfl,x,bl,hall,_,_,_,_,rfl⟩)
section
variable {FT:zzA} {HK:zzH} {E:Env} {h:Qa} {K:Env->Qa->Prop} {d:Option Nat} {r:List AOp} {x:AO}
theorem Qa4{a z0:SV}(hx:ev E x=some (.sc a))(hw:∀ h1,Ext h h1->Xs h1 1 (.slc h.length 0 1 (some 1))=some (1,[a])->Qm FT HK r (Qv d (some (.sc (.slc h.length 0 1 (some 1)))) E) h1 K):Qm FT HK (⟨d,.bsl 1 [z0] 1 [(0,x)],none⟩::r) E h K:=by
 refine Q2 (v:=some (.sc (.slc h.length 0 1 (some 1)))) (h':=h++[.cells [a] true 1]) rfl rfl ?_ (hw _ ⟨_,rfl⟩ (by simp[Xs,Q3,cut]))
 simp[Qo,XR,hx,AV.cells,YX,rep,Q8]
end
theorem rdC{h:Qa}{q i:Nat}{cs:List SV}{rw':Bool}{z:ESz}{v:SV}(hb:h[q]?=some (.cells cs rw' z))(hi:cs[i]?=some v):Q3 h q (0+i*1) 1=some [v]:=by
 obtain⟨hl,hv⟩:=Gb.1 hi
 simp only[Q3,hb,cut]
 rw[if_pos (by omega),Hd,Hh]
 congr 1
 rw[G2 hl,hv];rfl
theorem IsD.not1{h:Qa}{s:SV}{ps:List P2}(ho:IsD h s ps){j:Nat}{cs:List SV}{rw':Bool}(hj:h[j]?=some (.cells cs rw' 1)):XW s j:=by
 rcases ho with ⟨rfl,-⟩|⟨id,off,cap,b,rfl,h1,h2,-⟩
 ·intro o n c e;cases e
 ·intro o n c e;cases e
  rw[hj]at h1;simp at h1;subst h1
  exact absurd (show (1:ESz)=2 from h2) (by decide)
theorem Own.apD{h0 h:Qa}{s t:SV}{vs:List SV}{ps:List P2}(o:Own h0 h s vs)(d:IsD h t ps):Apart s t:=by
 intro j
 rcases o with ⟨rfl,-⟩|⟨id,cap,cs,rfl,h1,h2,h3⟩
 ·exact .inl fun o n c e=>by cases e
 ·by_cases e:id=j
  ·subst e;exact .inr (IsD.not1 d h2)
  ·exact .inl fun o n c e2=>by cases e2;exact e rfl
theorem Own.setB{h0 h:Qa}{s:SV}{vs:List SV}(o:Own h0 h s vs){j:Nat}(hn:XW s j)(b:Blk):Own h0 (h.set j b) s vs:=by
 rcases o with o|⟨id,cap,bl,rfl,h1,h2,h3⟩
 ·exact .inl o
 ·exact .inr ⟨id,cap,bl,rfl,h1,by rw[Gk (fun e=>by subst e;exact hn _ _ _ rfl)];exact h2,h3⟩
structure S40(eid i:Nat)(top:List SV)(ls:List (List Tm))(s:SV)(hb H h:Qa):Prop where
 x:Ext hb h
 c:Chg (·=eid) H h
 t:h[eid]?=some (.cells (top.set i s) true 1)
 o:∃ vs,vs.length=ls.length/\Own hb h s vs/\∀(k:Nat) (t:SV) (l:List Tm),vs[k]?=some t->ls[k]?=some l->IsD h t (tms l)
 lo:∀ j,j<H.length->XW s j
theorem S40.ext{eid i:Nat}{top:List SV}{ls:List (List Tm)}{s:SV}{hb H h h':Qa}(a:S40 eid i top ls s hb H h)(e:Ext h h'):S40 eid i top ls s hb H h':=by
 obtain⟨vs,o1,o2,o3⟩:=a.o
 exact⟨a.x.trans e,a.c.ext e,e.get _ _ a.t,⟨vs,o1,o2.ext e,fun k t l p q=>(o3 k t l p q).ext e⟩,a.lo⟩
theorem S40.push{eid i:Nat}{top:List SV}{ls:List (List Tm)}{s s' t:SV}{l:List Tm}{vs:List SV}{hb H h h':Qa}(a:S40 eid i top ls s hb H h)(hbe:hb.length<=eid)(he:eid<H.length)
  (o1:vs.length=ls.length) (o2:Own hb h s vs) (o3:∀(k:Nat) (t:SV) (l:List Tm),vs[k]?=some t->ls[k]?=some l->IsD h t (tms l)) (d:IsD h t (tms l))
  (on:Own hb h' s' (vs++[t])) (xn:Ext hb h') (f:Fram h h' s s') (hl:h.length<=h'.length) :
  h'[eid]?=some (.cells (top.set i s) true 1)/\S40 eid i top (ls++[l]) s' hb H (h'.set eid (.cells ((top.set i s).set i s') true 1)):=by
 have ns:=a.lo eid he
 have fe:=f _ _ a.t ns
 refine⟨fe.1,Ext.setF xn hbe _,?_,?_,⟨vs++[t],by simp[o1],Own.setB on fe.2 _,?_⟩,?_⟩
 ·have c1:Chg (·=eid) H h':=⟨Gq a.c.len hl,fun j hj hs=>by
   obtain⟨b,hbj⟩:∃ b,h[j]?=some b:=⟨_,Ga (GL hj a.c.len)⟩
   rw[(f _ _ hbj (a.lo j hj)).1,← hbj];exact a.c.same j hj hs⟩
  exact c1.set rfl _
 ·rw[GA (Gb.1 fe.1).1,List.set_set]
 ·intro k u m hk hm
  have mv:∀ {u:SV} {m:List Tm},IsD h u (tms m)->IsD (h'.set eid (.cells ((top.set i s).set i s') true 1)) u (tms m):=fun hd=>by
   have h2:=IsSl.away hd f (Own.apD o2 hd)
   exact IsSl.setB h2 (IsD.not1 h2 fe.1) _
  rcases GD k vs.length with h1|h1
  ·rw[Gn h1]at hk
   rw[Gn (by omega)]at hm
   exact mv (o3 k u m hk hm)
  ·rw[Gi h1]at hk
   rw[Gi (by omega)]at hm
   rw[o1]at hk
   cases hk0:k-ls.length with
   | zero=>rw[hk0]at hk hm;simp at hk hm;subst hk;subst hm;exact mv d
   | succ n=>rw[hk0]at hk;simp at hk
 ·intro j hj
  obtain⟨b,hbj⟩:∃ b,h[j]?=some b:=⟨_,Ga (GL hj a.c.len)⟩
  exact(f _ _ hbj (a.lo j hj)).2
def I40c(low:Int)(r:List Pol)(rs:SV)(q2 lid eid n i:Nat)(top:List SV)(a5 a6 a86 a87 a88:AV)(hb H:Qa)(m:Nat)(E:Env)(h:Qa):Prop:=∃ k s,k<=r.length/\m=r.length-k/\S40 eid i top ((r.take k).map fun p=>shL low p.ts) s hb H h ∧
 E.keep [2,4,5,6,14,15,86,87,88,93,94,95]=[(2,some (.sc (.ptr q2 0))),(4,some (.sc (.slc lid 0 n (some n)))),(5,some a5),(6,some a6),(14,some (.sc (.slc eid 0 n (some n)))),(15,some (.sc (.int .i64 (i:Nat)))),(86,some a86),(87,some a87),(88,some a88),(93,some (.sc rs)),(94,some (.sc (.int .i64 (r.length:Nat)))),(95,some (.sc (.int .i64 (k:Nat))))]
def R40c(low:Int)(r:List Pol)(q2 lid eid n i:Nat)(top:List SV)(a5 a6 a86 a87 a88:AV)(hb H:Qa)(ex:Ex)(E:Env)(h:Qa):Prop:=ex = .ex 7/\(∃ s,S40 eid i top (r.map fun p=>shL low p.ts) s hb H h) ∧
 ∃ a b c d e,E=[(2,some (.sc (.ptr q2 0))),(4,some (.sc (.slc lid 0 n (some n)))),(5,some a5),(6,some a6),(14,some (.sc (.slc eid 0 n (some n)))),(15,e),(86,some a86),(87,some a87),(88,some a88),(93,a),(94,b),(95,c),(96,d)]
theorem QgA(low:Int)(r:List Pol)(rs:SV)(q2 lid eid n i:Nat)(top:List SV)(lows:List Int)(a5 a6 a86 a87 a88:AV)(hb H:Qa)(pr:PolRow hb rs r)(hr:r.length<=100000)(ok:∀ p∈r,Can p.ts/\p.big=false/\p.ts.length<=100000/\∀ t∈p.ts,t.1.natAbs<=10000000)(hlow:low.natAbs<=10000000)(bl:Bi hb lid lows)(ll:lows[i]?=some low)(hi:i<n)(ht:top.length=n)(hbe:hb.length<=eid)(heH:eid<H.length)(m:Nat)(E:Env)(h:Qa)(hI:I40c low r rs q2 lid eid n i top a5 a6 a86 a87 a88 hb H m E h) :
  wA FT HKt Qme (E.keep [2,4,5,6,14,15,86,87,88,93,94,95]) h (Qp (I40c low r rs q2 lid eid n i top a5 a6 a86 a87 a88 hb H) m (R40c low r q2 lid eid n i top a5 a6 a86 a87 a88 hb H)):=by
 obtain⟨k,s,hk,rfl,sv,hE⟩:=hI
 rw[hE]
 by_cases hlt:k<r.length
 ·obtain⟨p,hp⟩:∃ p,r[k]?=some p:=⟨_,Ga hlt⟩
  obtain⟨id,off,cap,t,es,rd,dt⟩:=pr.at hp
  subst es
  obtain⟨ca,hbig,hlen,hex⟩:=ok p (Gg hp)
  have rd0:=Qw sv.x rd
  have nx:((r.take (k+1)).map fun p=>shL low p.ts)=((r.take k).map fun p=>shL low p.ts)++[shL low p.ts]:=by
   rw[GB,hp,GW];rfl
  have k65:=fun h' (y:Ext hb h')=>Qov h' p.big t p.ts low hlow (dt.ext y) ca hlen hex
  have rl:=fun h' (y:Ext hb h')=>(bl.ext y).rd ll
  have re:=fun (h':Qa) (s':SV) (y:h'[eid]?=some (Blk.cells (top.set i s') true 1))=>rdC (i:=i) (v:=s') y (by rw[GA (by omega)])
  have a0:=sv
  repeat' first|apply Qf|apply Qb|apply Qt|apply QL|apply Qn|apply Qe|apply Q7|apply Xm|apply Xn|(apply Qg;refine Qk rfl ?_)|(apply Qd;first|apply Q5|apply Xw|refine XP (by assumption) ?_|refine X0 rfl rfl rfl rfl rfl rfl rfl rfl rfl rfl rfl rfl ?_|refine Y5 rfl rfl rfl rfl rfl rfl rfl rfl rfl rfl rfl rfl rfl ?_)|(apply Qc;first|refine Qy (esz:=2) rfl rfl (by omega) ?_|refine Qy (esz:=1) rfl rfl (by omega) ?_|refine XH rfl rd0 ?_|(refine qI rfl ?_;intro h1 e1 c18;replace a0:=a0.ext e1)|refine QU rfl c18 ?_|(refine Q1 rfl (re _ _ a0.t) ?_;have used:=True.intro)|(refine Q1 rfl (rl _ a0.x) ?_;have z:=used)|(refine Qj rfl (k65 _ a0.x) ?_;rintro v h2 ⟨e2,st,rfl,od⟩;replace a0:=a0.ext e2;obtain⟨vs,o1,o2,o3⟩:=a0.o)|(refine Qa4 rfl ?_;intro h3 e3 s3;replace a0:=a0.ext e3)|(refine Qag (ws:=[st]) a0.x (o2.ext e3) rfl rfl s3 (by rw[o1];simp only[Gj,GJ,Gu,GC];unfold XS;omega) ?_;intro s5 h5 o5 x5 l5 fr5;obtain⟨te,a6'⟩:=a0.push (l:=shL low p.ts) hbe heH o1 (o2.ext e3) (fun k t l p q=>(o3 k t l p q).ext e3) (od.is.ext e3) o5 x5 fr5 l5)|refine Jk rfl rfl (wr1 te (by rw[G9];omega)) ?_|refine Ql rfl ?_|refine QM rfl rfl (by omega) ?_|refine Qx rfl rfl (by omega) ?_)
  exact Qz (j:=r.length-(k+1)) (by omega) ⟨k+1,s5,by omega,rfl,by rw[nx];exact a6',rfl⟩
 ·have:k=r.length:=by omega
  subst this
  rw[Gx]at sv
  repeat' first|apply Qf|apply Qb|apply QS|apply QQ|apply Qe|(apply Qg;refine Qi rfl ?_)|(apply Qd;refine Y5 rfl rfl rfl rfl rfl rfl rfl rfl rfl rfl rfl rfl rfl ?_)|(apply Qc;refine QF rfl rfl (by omega) ?_)
  exact QB ⟨rfl,⟨s,sv⟩,_,_,_,_,_,rfl⟩
def Qf2(r:List Pol):Option (Int×Int)->Prop
 | none=>∀ p∈r,p.ts=[]
 | some x=>x.1<=x.2/\(∀ p∈r,∀ t∈p.ts,x.1<=t.1/\t.1<=x.2)/\(∃ p∈r,∃ t∈p.ts,t.1=x.1)/\∃ p∈r,∃ t∈p.ts,t.1=x.2
theorem Qio{pre:List Pol}{st:Option (Int×Int)}{p:Pol}(h:Qf2 pre st)(ca:Can p.ts):Qf2 (pre++[p]) (yV st p):=by
 unfold yV
 by_cases hz:p.ts=[]
 ·rw[if_pos hz]
  cases st with
  | none=>intro q hq;rcases Gy.1 hq with h1|h1;exact h q h1;rw[GX.1 h1];exact hz
  | some x =>
   obtain⟨h1,h2,⟨a,ha,t,ht,e⟩,b,hb,u,hu,f⟩:=h
   refine⟨h1,fun q hq=>?_,⟨a,List.mem_append_left _ ha,t,ht,e⟩,b,List.mem_append_left _ hb,u,hu,f⟩
   rcases Gy.1 hq with h3|h3
   ·exact h2 q h3
   ·rw[GX.1 h3,hz];intro t ht;cases ht
 ·rw[if_neg hz]
  obtain⟨t,ht,e⟩:=yH hz
  obtain⟨u,hu,f⟩:=yM hz
  have key:∀ v∈p.ts,lo0 p.ts<=v.1/\v.1<=hi0 p.ts:=fun v hv=>⟨Vh ca v hv,zq ca v hv⟩
  have mp:p∈pre++[p]:=List.mem_append_right _ (.head _)
  have k0:=key t ht
  cases st with
  | none =>
   refine⟨by simp only;omega,fun q hq=>?_,⟨p,mp,t,ht,e⟩,p,mp,u,hu,f⟩
   rcases Gy.1 hq with h3|h3
   ·rw[h q h3];intro t ht;cases ht
   ·rw[GX.1 h3];exact key
  | some x =>
   obtain⟨a,b⟩:=x
   obtain⟨h1,h2,⟨qa,ha,ta,hta,ea⟩,qb,hb,tb,htb,eb⟩:=h
   simp only at h1 h2 ea eb
   show Qf2 _ (some (min a (lo0 p.ts),max b (hi0 p.ts)))
   refine⟨by simp only;omega,fun q hq=>?_,?_,?_⟩
   ·simp only
    rcases Gy.1 hq with h3|h3
    ·intro v hv;have:=h2 q h3 v hv;omega
    ·rw[GX.1 h3];intro v hv;have:=key v hv;omega
   ·simp only
    by_cases hm:a<=lo0 p.ts
    ·exact⟨qa,List.mem_append_left _ ha,ta,hta,by omega⟩
    ·exact⟨p,mp,t,ht,by omega⟩
   ·simp only
    by_cases hm:hi0 p.ts<=b
    ·exact⟨qb,List.mem_append_left _ hb,tb,htb,by omega⟩
    ·exact⟨p,mp,u,hu,by omega⟩
theorem Qbo{r:List Pol}(ca:∀ p∈r,Can p.ts):Qf2 r (Y4 r):=by
 have key:∀(r pre:List Pol) st,(∀ p∈r,Can p.ts)->Qf2 pre st->Qf2 (pre++r) (r.foldl yV st):=by
  intro r
  induction r with
  | nil=>intro pre st _ h;simpa using h
  | cons p r ih =>
   intro pre st hc h
   have:=ih (pre++[p]) (yV st p) (fun q hq=>hc q (.tail _ hq)) (Qio h (hc p (.head _)))
   simpa using this
 exact key r [] none ca (by intro p hp;cases hp)
def esR(r:List Pol):List (List Tm):=r.map fun p=>shL (bF r) p.ts
theorem bFS{r:List Pol}(ca:∀ p∈r,Can p.ts){B:Nat}(hB:∀ p∈r,∀ t∈p.ts,t.1.natAbs<=B):bF r<=bS r/\(bF r).natAbs<=B/\(bS r).natAbs<=B/\∀ p∈r,∀ t∈p.ts,bF r<=t.1/\t.1<=bS r:=by
 have:=Qbo ca
 unfold bF bS
 cases h:Y4 r with
 | none =>
  rw[h]at this
  refine⟨Int.le_refl _,Gm _,Gm _,fun p hp t ht=>?_⟩
  rw[this p hp]at ht;cases ht
 | some x =>
  rw[h]at this
  obtain⟨h1,h2,⟨a,ha,t,ht,e⟩,b,hb,u,hu,f⟩:=this
  have e1:=hB a ha t ht
  have e2:=hB b hb u hu
  refine⟨h1,?_,?_,h2⟩
  ·show x.1.natAbs<=B;omega
  ·show x.2.natAbs<=B;omega
theorem QhW{r:List Pol}(ca:∀ p∈r,Can p.ts){B:Nat}(hB:∀ p∈r,∀ t∈p.ts,t.1.natAbs<=B)(hc:∀ p∈r,∀ t∈p.ts,t.2.natAbs<=cM):∀ l∈esR r,∀ m∈l,0<=m.1/\m.1<=bS r-bF r/\m.2.natAbs<=cM:=by
 intro l hl m hm
 obtain⟨p,hp,rfl⟩:=Gs.1 hl
 obtain⟨t,ht,rfl⟩:=Gs.1 hm
 have:=(bFS ca hB).2.2.2 p hp t ht
 exact⟨by simp only;omega,by simp only;omega,hc p hp t ht⟩
def EntN(eid:Nat)(h:Qa)(s:SV)(r:List (List Tm)):Prop:=XW s eid/\Ent1 h s r
theorem EntN.chg{eid:Nat}{h h':Qa}{s:SV}{r:List (List Tm)}{cs:List SV}(e:EntN eid h s r)(c:Chg (·=eid) h h')(he:h[eid]?=some (.cells cs true 1)):EntN eid h' s r:=by
 obtain⟨hn,ss,h1,h2,h3⟩:=e
 have mv:∀ {t:SV} {z:ESz} {n:Nat} {ws:List SV},IsSl h t z n ws->XW t eid->IsSl h' t z n ws:=fun ht hnt=>ht.keep fun j b hj hx=>by
  refine c.get hj fun e=>hx ?_
  rw[e];exact hnt
 exact⟨hn,ss,h1,mv h2 hn,fun i t l a b=>mv (h3 i t l a b) (IsD.not1 (h3 i t l a b) he)⟩
structure J40(eid n i:Nat)(es:List (List (List Tm)))(hb h:Qa):Prop where
 x:Ext hb h
 r:∃ ss:List SV,ss.length=i/\h[eid]?=some (.cells (ss++List.replicate (n-i) .nilS) true 1)/\∀(j:Nat) (s:SV) (r:List (List Tm)),ss[j]?=some s->es[j]?=some r->EntN eid h s r
theorem J40.done{eid n:Nat}{es:List (List (List Tm))}{hb h:Qa}(a:J40 eid n n es hb h)(he:es.length=n):Ents h (.slc eid 0 n (some n)) es:=by
 obtain⟨ss,h1,h2,h3⟩:=a.r
 rw[G1,List.replicate_zero,Hk]at h2
 refine⟨ss,by omega,.inr ⟨eid,0,some n,_,by rw[h1],h2,rfl,fun h=>Gw h,fun _=>⟨ss,true,rfl,?_⟩⟩,fun i t r p q=>(h3 i t r p q).2⟩
 unfold cut
 simp only[ESz.one_n]
 rw[if_pos (by omega)]
 simp
def I40d(es:List (List (List Tm)))(ms:SV)(q2 lid eid n:Nat)(a5 a6:AV)(hb:Qa)(m:Nat)(E:Env)(h:Qa):Prop:=∃ i,i<=n/\m=n-i/\J40 eid n i es hb h ∧
 E.keep [2,4,5,6,14,86,87,88]=[(2,some (.sc (.ptr q2 0))),(4,some (.sc (.slc lid 0 n (some n)))),(5,some a5),(6,some a6),(14,some (.sc (.slc eid 0 n (some n)))),(86,some (.sc ms)),(87,some (.sc (.int .i64 (n:Nat)))),(88,some (.sc (.int .i64 (i:Nat))))]
def R40d(es:List (List (List Tm)))(q2 lid eid n:Nat)(a5 a6:AV)(hb:Qa)(ex:Ex)(E:Env)(h:Qa):Prop:=ex = .ex 5/\J40 eid n n es hb h ∧
 ∃ a b c d,E=[(2,some (.sc (.ptr q2 0))),(4,some (.sc (.slc lid 0 n (some n)))),(5,some a5),(6,some a6),(14,some (.sc (.slc eid 0 n (some n)))),(86,a),(87,b),(88,c),(89,d)]
theorem Qgz(m:List (List Pol))(ms:SV)(q2 lid eid n:Nat)(a5 a6:AV)(hb:Qa)(pm:PolMx hb ms m)(hn:m.length=n)(hn2:n<=1000)(bl:Bi hb lid ((List.range n).map fun j=>bF (m.getD j [])))(hbe:hb.length<=eid)
  (ok:∀ r∈m,r.length<=100000/\(bF r).natAbs<=10000000/\∀ p∈r,Can p.ts/\p.big=false/\p.ts.length<=100000/\∀ t∈p.ts,t.1.natAbs<=10000000) (k:Nat) (E:Env) (h:Qa) (hI:I40d (m.map esR) ms q2 lid eid n a5 a6 hb k E h) :
  wA FT HKt Qmf (E.keep [2,4,5,6,14,86,87,88]) h (Qp (I40d (m.map esR) ms q2 lid eid n a5 a6 hb) k (R40d (m.map esR) q2 lid eid n a5 a6 hb)):=by
 obtain⟨i,hi,rfl,j,hE⟩:=hI
 rw[hE]
 by_cases hlt:i<n
 ·obtain⟨r,hr⟩:∃ r,m[i]?=some r:=⟨_,Ga (by omega)⟩
  have er:m.getD i []=r:=by rw[Ge,hr];rfl
  obtain⟨id,off,cap,rs,es,rd,pr⟩:=pm.at hr
  rw[hn]at es
  subst es
  obtain⟨ok1,ok2,ok3⟩:=ok r (Gg hr)
  have rd0:=Qw j.x rd
  have lr:=pr.len
  have ll:((List.range n).map fun j=>bF (m.getD j []))[i]?=some (bF r):=by rw[Gh,Gv hlt,Gp,er]
  obtain⟨ss,l1,l2,l3⟩:=j.r
  have heh:eid<h.length:=(Gb.1 l2).1
  have etop:(ss++List.replicate (n-i) SV.nilS).set i .nilS=ss++List.replicate (n-i) SV.nilS:=by
   apply Gt
   intro k
   rw[GQ]
   by_cases e:i=k
   ·subst e
    rw[if_pos rfl,if_pos (by simp;omega),Gi (by omega),HA,if_pos (by omega)]
   ·rw[if_neg e]
  have st:S40 eid i (ss++List.replicate (n-i) .nilS) ((r.take 0).map fun p=>shL (bF r) p.ts) .nilS hb h h:=⟨j.x,Chg.refl _,by rw[etop];exact l2,⟨[],rfl,.inl ⟨rfl,rfl⟩,fun k t l a b=>by simp at a⟩,fun j hj o n c e=>by cases e⟩
  repeat' first|apply Qf|apply Qb|apply Qt|apply Qn|apply Qe|(apply Qg;refine Qk rfl ?_)|(apply Qd;first|refine Q9 rfl rfl rfl rfl rfl rfl rfl rfl rfl ?_|refine XA rfl rfl rfl rfl rfl rfl rfl rfl rfl rfl ?_|refine X0 rfl rfl rfl rfl rfl rfl rfl rfl rfl rfl rfl rfl ?_)|(apply Qc;first|refine Qy (esz:=1) rfl rfl (by omega) ?_|refine Q1 rfl rd0 ?_|refine Qr rfl lr ?_|refine Ql rfl ?_|refine Qx rfl rfl (by omega) ?_)
  refine QV (I40c (bF r) r rs q2 lid eid n i (ss++List.replicate (n-i) .nilS) a5 a6 (.sc (.slc id off n cap)) (.sc (.int .i64 (n:Nat))) (.sc (.int .i64 (i:Nat))) hb h) r.length (R40c (bF r) r q2 lid eid n i (ss++List.replicate (n-i) .nilS) a5 a6 (.sc (.slc id off n cap)) (.sc (.int .i64 (n:Nat))) (.sc (.int .i64 (i:Nat))) hb h)
   ⟨0,.nilS,Gm _,rfl,st,rfl⟩ (QgA (bF r) r rs q2 lid eid n i (ss++List.replicate (n-i) .nilS) _ a5 a6 _ _ _ hb h pr ok1 ok3 ok2 bl ll hlt (by simp;omega) hbe heh) ?_
  rintro ex E' h2 ⟨rfl,⟨s,sv⟩,_,_,_,_,_,rfl⟩
  repeat' first|apply Qb|apply QL|apply QK|apply Qe|(apply Qd;refine Xh rfl rfl rfl rfl rfl rfl rfl rfl ?_)|(apply Qc;first|refine Ql rfl ?_|refine QM rfl rfl (by omega) ?_)
  refine Qz (j:=n-(i+1)) (by omega) ⟨i+1,by omega,rfl,⟨sv.x,ss++[s],by simp[l1],?_,?_⟩,rfl⟩
  ·rw[sv.t]
   congr 2
   apply Gt
   intro k
   rw[GQ]
   by_cases e:i=k
   ·subst e
    rw[if_pos rfl,if_pos (by simp;omega),Gn (by simp;omega),Gi (by omega)]
    simp[l1]
   ·rw[if_neg e]
    rcases GD k i with h1|h1
    ·rw[Gn (by omega),Gn (by simp;omega),Gn (by omega)]
    ·rw[Gi (by omega),Gi (by simp;omega),HA,HA]
     simp only[Gz,Gu,GC]
     by_cases h2:k<n
     ·rw[if_pos (by omega),if_pos (by omega)]
     ·rw[if_neg (by omega),if_neg (by omega)]
  ·intro k t l hk hl
   rcases GD k i with h1|h1
   ·rw[Gn (by omega)]at hk
    exact(l3 k t l hk hl).chg sv.c l2
   ·obtain rfl:k=i:=by
     have:=(Gb.1 hk).1
     simp at this;omega
    rw[Gi (by omega),l1,G1]at hk
    simp at hk;subst hk
    rw[Gh,hr]at hl
    simp at hl;subst hl
    obtain⟨vs,o1,o2,o3⟩:=sv.o
    refine⟨sv.lo eid heh,vs,by rw[o1];rfl,o2.sl,o3⟩
 ·have:i=n:=by omega
  subst this
  repeat' first|apply Qf|apply Qb|apply QS|apply QQ|apply Qe|(apply Qg;refine Qi rfl ?_)|(apply Qd;refine Q9 rfl rfl rfl rfl rfl rfl rfl rfl rfl ?_)|(apply Qc;refine QF rfl rfl (by omega) ?_)
  exact QB ⟨rfl,j,_,_,_,_,rfl⟩
theorem Qga{l:List Tm}(hl:l≠[])(nz:∀ t∈l,t.2≠0):0<Yp l:=by
 cases l with
 | nil=>exact absurd rfl hl
 | cons t l =>
  have:=nz t (.head _)
  simp only[Yp];omega
theorem Qbw{l:List Tm}:∀ {r:List (List Tm)},l∈r->Yp l<=XQ r
 | x::r,h=>by
  simp only[XQ]
  rcases GO.1 h with rfl|h
  ·omega
  ·have:=Qbw h;omega
theorem Qf3{r:List Pol}(ca:∀ p∈r,Can p.ts)(h:Y4 r≠none):0<XQ (esR r):=by
 have:=Qbo ca
 cases hb:Y4 r with
 | none=>exact absurd hb h
 | some x =>
  rw[hb]at this
  obtain⟨-,-,⟨p,hp,t,ht,-⟩,-⟩:=this
  have hm:shL (bF r) p.ts∈esR r:=Gs.2 ⟨p,hp,rfl⟩
  refine GL (Qga (l:=shL (bF r) p.ts) (fun e=>?_) fun u hu=>?_) (Qbw hm)
  ·have:p.ts=[]:=List.map_eq_nil_iff.1 e
   rw[this]at ht;cases ht
  ·obtain⟨v,hv,rfl⟩:=Gs.1 hu
   exact(ca p hp).nz v hv
theorem QjP{m:List (List Pol)}(hs:∀ r∈m,bF r<=bS r):∀ {n i:Nat},i<n->n<=m.length->bS (m.getD i [])-bF (m.getD i [])<=JL m n/\0<=JL m n:=by
 have ps:∀ i,i<m.length->0<=bS (m.getD i [])-bF (m.getD i []):=fun i hi=>by
  have hm:m.getD i []∈m:=by rw[Ge,Ga hi];exact GI _
  have:=hs _ hm;omega
 intro n
 induction n with
 | zero=>intro i h;omega
 | succ n ih =>
  intro i hi hn
  have e:JL m (n+1)=JL m n+(bS (m.getD n [])-bF (m.getD n [])):=rfl
  have p1:=ps n (by omega)
  have p0:0<=JL m n:=by
   cases n with
   | zero=>exact Int.le_refl _
   | succ k=>exact(ih (i:=0) (by omega) (by omega)).2
  rcases GD i n with h|h
  ·have:=ih h (by omega);omega
  ·obtain rfl:i=n:=by omega
   omega
theorem QkX{m:List (List Pol)}(hs:∀ r∈m,bF r<=bS r):0<=JL m m.length:=by
 cases h:m.length with
 | zero=>exact Int.le_refl _
 | succ n=>exact(QjP hs (i:=0) (n:=n+1) (by omega) (by omega)).2
structure DOk(b:Nat)(m:List (List Pol)):Prop where
 n:m.length<=1000
 sq:∀ r∈m,r.length=m.length
 ok:∀ r∈m,∀ p∈r,Can p.ts/\p.big=false/\p.ts.length<=100000/\∀ t∈p.ts,t.1.natAbs<=50000/\t.2.natAbs<=cM
 bb:b<=60/\b*m.length<=118
 w:∀ r∈m,XQ (esR r)<2^b
 deg:JL m m.length<=65536
theorem DOk.ca{b:Nat}{m:List (List Pol)}(k:DOk b m){r:List Pol}(hr:r∈m):∀ p∈r,Can p.ts:=fun p hp=>(k.ok r hr p hp).1
theorem DOk.bd{b:Nat}{m:List (List Pol)}(k:DOk b m){r:List Pol}(hr:r∈m):bF r<=bS r/\(bF r).natAbs<=50000/\(bS r).natAbs<=50000/\∀ p∈r,∀ t∈p.ts,bF r<=t.1/\t.1<=bS r :=
 bFS (k.ca hr) fun p hp t ht=>((k.ok r hr p hp).2.2.2 t ht).1
theorem QoG(b deg:Nat)(m:List (List Pol))(ms:SV)(d:Nat->Int)(h0:Qa)(pm:PolMx h0 ms m)(k:DOk b m)(hdeg:JL m m.length=(deg:Int))
  (hD:∀ x:Int,D ((m.map esR).map (evR x)) (List.range' 0 m.length)=sm (deg+1) fun j=>d j*x^j) (hdb:∀ j,(d j).natAbs<=((m.map esR).map XQ).foldr (·*·) 1) :
  ∃ r h',Cal FT HKt 40 [.sc ms] h0 r h'/\Ext h0 h' ∧
   (((∃ j, j < m.length ∧ Y4 (m.getD j []) = none ∧ m.getD j [] ≠ []) ∧ r = .tup [.agg [.bool false, .nilS], .sc (.bool true)]) ∨
    ((∀ r ∈ m, Y4 r ≠ none) ∧ (((∀ j, j ≤ deg -> (d j).natAbs ≤ cM) ∧ ∃ s, r = .tup [.agg [.bool (ofP (ZU m m.length) ((List.range (deg + 1)).map d)).big, s], .sc (.bool true)] ∧ IsD h' s (tms (ofP (ZU m m.length) ((List.range (deg + 1)).map d)).ts)) ∨
     ((∃ j,j<=deg/\cM<(d j).natAbs)/\r = .tup [.agg [.bool false,.nilS],.sc (.bool false)])))):=by
 refine Cal.of (F:=a40) rfl rfl rfl ?_
 have hn:=k.n
 have lm:=pm.len
 have bd:=fun r (hr:r∈m)=>k.bd hr
 repeat' first|apply Qf|apply Qb|apply Qt|apply Qe|(apply Qd;first|refine QA rfl rfl ?_|refine Qu rfl rfl rfl ?_|refine QO rfl rfl rfl rfl rfl ?_|refine Xh rfl rfl rfl rfl rfl rfl rfl rfl ?_)|(apply Qc;first|(apply Xa;intro h1 e1 c2)|refine Qr rfl lm ?_|(refine QlS rfl rfl (by omega) ?_;intro h2 e2 b4)|refine Ql rfl ?_)
 rw[← Qai (f:=fun j=>bF (m.getD j []))]at b4
 refine QV (I40a m ms h0.length h1.length h1) m.length (R40a m ms h0.length h1.length h0 h1) ⟨0,Gm _,rfl,e2,b4,fun j hj=>absurd hj (Nat.not_lt_zero _),rfl⟩
  (QgC m ms h0.length h1.length h0 h1 e1 hn (pm.ext e1) c2 (Gd _) (Gd _) fun r hr=>⟨by rw[k.sq r hr];omega,fun p hp=>⟨(k.ok r hr p hp).2.1,(k.ok r hr p hp).2.2.1⟩,by have:=bd r hr;omega,by have:=bd r hr;omega⟩) ?_
 rintro ex E' h3 (⟨rfl,x3,b3,hall,_,_,_,_,rfl⟩|⟨rfl,x3,c3,hz,rfl⟩)
 ·have c23:=c2.ext x3
  have hdg:JL m m.length<131072:=by rw[hdeg];have:=k.deg;omega
  have hlow:(ZU m m.length).natAbs<=1000*50000:=by
   refine Gq (VT (B:=50000) fun j hj=>?_) (GF _ hn)
   have hm:m.getD j []∈m:=by rw[Ge,Ga hj];exact GI _
   exact(bd _ hm).2.1
  have lm3:=lm
  have nz:∀ r∈m,Y4 r≠none:=fun r hr=>by
   obtain⟨j,hj⟩:=Hs.1 hr
   have hj2:=(Gb.1 hj).1
   have er:m.getD j []=r:=by rw[Ge,hj];rfl
   rcases hall j hj2 with h|h
   ·rw[← er];exact h
   ·exfalso
    have:=k.sq r hr
    rw[← er,h]at this
    simp at this;omega
  rw[hdeg]at hdg ⊢
  generalize hL:ZU m m.length=low at *
  repeat' first|apply Qf|apply Qb|apply Qt|apply QK|apply Qn|apply Qe|(apply Qg;refine Qi rfl ?_)|(apply Qd;first|refine QE rfl rfl rfl rfl rfl rfl ?_|refine Xh rfl rfl rfl rfl rfl rfl rfl rfl ?_)|(apply Qc;first|refine Qr rfl lm ?_|(refine Qhy rfl rfl (by omega) ?_;intro h4 e4 b14)|refine X6 rfl rfl (by omega) ?_|refine Ql rfl ?_)
  have x4:=e1.trans x3
  refine QV (I40d (m.map esR) ms h0.length h1.length h3.length m.length (.sc (.int .i64 low)) (.sc (.int .i64 (deg:Nat))) h3) m.length (R40d (m.map esR) h0.length h1.length h3.length m.length (.sc (.int .i64 low)) (.sc (.int .i64 (deg:Nat))) h3)
   ⟨0,Gm _,rfl,⟨e4,[],rfl,by simpa using b14,fun j s r a=>by simp at a⟩,rfl⟩
   (Qgz m ms h0.length h1.length h3.length m.length _ _ h3 (pm.ext (e1.trans x3)) rfl hn b3 (Gd _) fun r hr=>⟨by rw[k.sq r hr];omega,by have:=bd r hr;omega,fun p hp=>⟨(k.ok r hr p hp).1,(k.ok r hr p hp).2.1,(k.ok r hr p hp).2.2.1,fun t ht=>by have:=((k.ok r hr p hp).2.2.2 t ht).1;omega⟩⟩) ?_
  rintro ex E' h5 ⟨rfl,j5,_,_,_,_,rfl⟩
  have ee:=j5.done (by simp)
  have hd2:deg<=65536:=by have:=k.deg;omega
  have k77:=Qou m.length deg b d h5 (.slc h3.length 0 m.length (some m.length)) (m.map esR) hd2 hn k.bb ee (by simp) (fun r hr=>by
   obtain⟨q,hq,rfl⟩:=Gs.1 hr
   refine⟨by unfold esR;rw[Gj];exact k.sq q hq,fun l hl=>⟨?_,fun t ht=>?_⟩⟩
   ·obtain⟨p,hp,rfl⟩:=Gs.1 hl
    unfold shL;rw[Gj]
    have:=(k.ok q hq p hp).2.2.1;omega
   ·have:=QhW (k.ca hq) (fun p hp t ht=>((k.ok q hq p hp).2.2.2 t ht).1) (fun p hp t ht=>((k.ok q hq p hp).2.2.2 t ht).2) l hl t ht
    have:=bd q hq
    omega) (fun r hr=>by
   obtain⟨q,hq,rfl⟩:=Gs.1 hr
   exact⟨Qf3 (k.ca hq) (nz q hq),k.w q hq⟩) hD hdb
  have c25:=c23.ext j5.x
  obtain⟨v7,h7,cal7,x7,res⟩:=k77
  rcases res with ⟨s7,rfl,i7,ok7⟩|⟨rfl,bad⟩
  ·have hwc:∀ x∈(List.range (deg+1)).map d,-9223372036854775808<=x/\x<=9223372036854775807:=fun x hx=>by
    obtain⟨j,hj,rfl⟩:=Gs.1 hx
    rw[Ho]at hj
    have:=ok7 j (by omega)
    have hcM:cM=1125899906842624:=rfl
    omega
   have k20:=QoO h7 low (by omega) s7 ((List.range (deg+1)).map d) (by simp;omega) i7 hwc
   have c27:=c25.ext x7
   repeat' first|apply Qf|apply Qb|apply QK|apply Qn|apply Qs|apply Qe|(apply Qg;refine Qi rfl ?_)|(apply Qd;first|refine QA rfl rfl ?_|refine QG rfl rfl rfl rfl ?_)|(apply Qc;first|(refine Qj (R:=fun v h=>v=_/\h=h7) rfl ⟨_,_,cal7,rfl,rfl⟩ ?_;rintro v h ⟨rfl,rfl⟩)|(refine Qj rfl k20 ?_;rintro v8 h8 ⟨e8,s8,rfl,d8⟩;have c28:=c27.ext e8)|(refine Xg rfl rfl c28 ?_;intro h9 w9)|refine Ql rfl ?_|refine XC rfl ?_|refine Xk rfl rfl ?_)
   refine⟨.inr rfl,Zr rfl w9.cel.read rfl ⟨w9.ext (((x4.trans j5.x).trans x7).trans e8) (Gd _),.inr ⟨nz,.inl ⟨ok7,s8,rfl,d8.wrC w9⟩⟩⟩⟩
  ·have c27:=c25.ext x7
   repeat' first|apply Qf|apply Qb|apply QC|apply QK|apply Qs|apply Qe|(apply Qg;refine Qk rfl ?_)|(apply Qd;first|refine QA rfl rfl ?_|refine QG rfl rfl rfl rfl ?_)|(apply Qc;first|(refine Qj (R:=fun v h=>v=_/\h=h7) rfl ⟨_,_,cal7,rfl,rfl⟩ ?_;rintro v h ⟨rfl,rfl⟩)|refine Xz rfl rfl ?_|(refine Xg rfl rfl c27 ?_;intro h9 w9)|refine Ql rfl ?_|refine X1 rfl ?_|refine Xk rfl rfl ?_)
   exact⟨.inr rfl,Zr rfl w9.cel.read rfl ⟨w9.ext ((x4.trans j5.x).trans x7) (Gd _),.inr ⟨nz,.inr ⟨bad,rfl⟩⟩⟩⟩
 ·repeat' first|apply QC|apply Xi
  exact⟨.inr rfl,Zr rfl c3.read rfl ⟨x3,.inl ⟨hz,rfl⟩⟩⟩
end Go.Proofs.YtofknpknogfijaaGreatDoor
namespace Go.Proofs.YtofknpknogfijaaGreatDoor
open Go.Ab
set_option linter.all false
variable [HB]
def Yn:List Tm->(Int->Int)->Int->Int
 | [],_,_=>0
 | t::l,f,e=>t.2*f (e-t.1)+Yn l f e
def dL:List (List (List Tm))->List Nat->Int->Int
 | [],_,e=>if e=0 then 1 else 0
 | r::rs,cs,e=>alt (fun c ds=>Yn (r.getD c []) (dL rs ds) e) cs
theorem Ji{f:Int->Int}:∀ {l:List Tm} {e:Int},(∀ t∈l,f (e-t.1)=0)->Yn l f e=0
 | [],_,_=>rfl
 | t::l,e,h=>by
  simp only[Yn]
  rw[h t (.head _),Ji fun u hu=>h u (.tail _ hu),Int.mul_zero];rfl
theorem JB{f:Int->Int}{B:Nat}(h:∀ e,(f e).natAbs<=B):∀ {l:List Tm} {e:Int},(Yn l f e).natAbs<=Yp l*B
 | [],_=>by simp[Yn,Yp]
 | t::l,e=>by
  simp only[Yn,Yp]
  have h1:=JB h (l:=l) (e:=e)
  have h2:(t.2*f (e-t.1)).natAbs<=t.2.natAbs*B:=by rw[Hu];exact Nat.mul_le_mul_left _ (h _)
  rw[GS];omega
theorem QiZ:∀ {cs:List Nat} {f:Nat->List Nat->Int} {g:Nat->Nat},(∀ c ds,c∈cs->ds.Sublist cs->(f c ds).natAbs<=g c)->(alt f cs).natAbs<=(cs.map g).sum
 | [],_,_,_=>Gd _
 | c::cs,f,g,h=>by
  simp only[alt,GE,Hg]
  have h1:=h c cs (.head _) (List.sublist_cons_self c cs)
  have h2:=QiZ (f:=fun d ds=>f d (c::ds)) (g:=g) fun d ds hd hs=>h d (c::ds) (.tail _ hd) (hs.cons_cons c)
  omega
theorem VG:∀ {cs:List Nat} {f:Nat->List Nat->Int},(∀ c ds,c∈cs->ds.Sublist cs->f c ds=0)->alt f cs=0
 | [],_,_=>rfl
 | c::cs,f,h=>by
  simp only[alt]
  rw[h c cs (.head _) (List.sublist_cons_self c cs),VG fun d ds hd hs=>h d (c::ds) (.tail _ hd) (hs.cons_cons c)];rfl
theorem QaB{g:Nat->Nat}:∀ {us vs:List Nat},us.Sublist vs->(us.map g).sum<=(vs.map g).sum
 | _,_,.slnil=>Gd _
 | _,_,.cons a h=>by have:=QaB (g:=g) h;simp only[GE,Hg];omega
 | _,_,.cons_cons a h=>by have:=QaB (g:=g) h;simp only[GE,Hg];omega
theorem yc:∀ {r:List (List Tm)},XQ r=(r.map Yp).sum
 | []=>rfl
 | l::r=>by simp only[XQ,GE,Hg,yc (r:=r)]
theorem Qh9{r:List (List Tm)}:((List.range' 0 r.length).map fun c=>Yp (r.getD c [])).sum=XQ r:=by
 rw[yc]
 congr 1
 apply Gt
 intro i
 rw[Gh,Gh]
 rcases GD i r.length with h|h
 ·rw[List.getElem?_range' h,Ga h]
  simp[Ge,Ga h]
 ·rw[Gr (by simpa using h),Gr (by omega)];rfl
theorem Qef{g:Nat->Nat}{B:Nat}:∀ {cs:List Nat},(cs.map fun c=>g c*B).sum=(cs.map g).sum*B
 | []=>by simp
 | c::cs=>by simp only[GE,Hg,Qef (cs:=cs),GS]
theorem QeE{n:Nat}:∀ {rows:List (List (List Tm))} {cs:List Nat} {e:Int},cs.Sublist (List.range' 0 n)->(∀ r∈rows,r.length=n)->(dL rows cs e).natAbs<=(rows.map XQ).foldr (·*·) 1
 | [],cs,e,_,_=>by simp only[dL];split <;> simp
 | r::rs,cs,e,hs,hl=>by
  simp only[dL,GE,List.foldr_cons]
  refine Gq (QiZ (g:=fun c=>Yp (r.getD c [])*(rs.map XQ).foldr (·*·) 1) fun c ds hc hd=>JB fun e=>QeE (hd.trans hs) fun q hq=>hl q (.tail _ hq)) ?_
  rw[Qef]
  refine GF _ ?_
  have:=QaB (g:=fun c=>Yp (r.getD c [])) hs
  rwa [← hl r (.head _),Qh9]at this
theorem Qbh{α:Type}(f:α->List (List Tm))(k:α->Int):∀ {m:List α} {cs:List Nat} {e:Int},(∀ r∈m,∀ l∈f r,∀ t∈l,0<=t.1/\t.1<=k r)->e<0∨(m.map k).sum<e->dL (m.map f) cs e=0
 | [],cs,e,_,h=>by
  simp only[List.map_nil,List.sum_nil]at h
  simp only[List.map_nil,dL]
  rw[if_neg (by omega)]
 | r::m,cs,e,hb,h=>by
  simp only[GE,Hg]at h
  simp only[GE,dL]
  refine VG fun c ds _ _=>Ji fun t ht=>?_
  have hm:(f r).getD c []∈f r∨(f r).getD c []=[]:=by
   rw[Ge]
   rcases h:(f r)[c]? with _|x
   ·exact .inr rfl
   ·exact .inl (Gg h)
  rcases hm with hm|hm
  ·have:=hb r (.head _) _ hm t ht
   exact Qbh f k (fun q hq=>hb q (.tail _ hq)) (by omega)
  ·rw[hm]at ht;cases ht
theorem US{a:Nat}{f:Nat->Int}:∀ {n:Nat},sm (a+n) f=sm a f+sm n fun i=>f (a+i)
 | 0=>by simp[sm]
 | n+1=>by
  have e:sm (a+(n+1)) f=sm (a+n) f+f (a+n):=rfl
  rw[e,US (n:=n)]
  simp only[sm];omega
theorem Qgk{x:Int}{f:Int->Int}{a M N:Nat}(h:a+M<=N)(hz:∀ e,e<0∨(M:Int)<e->f e=0):sm (N+1) (fun j=>f ((j:Int)-(a:Int))*x^j)=x^a*sm (M+1) fun j=>f (j:Int)*x^j:=by
 rw[Qgn (n:=a+(M+1)) _ (by omega) fun j hj=>by rw[hz _ (by omega),Hx],US]
 rw[XT (n:=a) (g:=fun _=>0) fun i hi=>by rw[hz _ (by omega),Hx],sm_zero,Int.zero_add,← Z7]
 refine XT fun i hi=>?_
 rw[show ((a+i:Nat):Int)-(a:Int)=(i:Int) by omega,Int.pow_add,Int.mul_left_comm]
theorem QaU{x:Int}{f:Int->Int}{M N:Nat}(hz:∀ e,e<0∨(M:Int)<e->f e=0):∀ {l:List Tm},(∀ t∈l,0<=t.1/\t.1+M<=N)->sm (N+1) (fun j=>Yn l f (j:Int)*x^j)=evT x l*sm (M+1) fun j=>f (j:Int)*x^j
 | [],_=>by
  simp only[evT,Hx]
  rw[XT (g:=fun _=>0) fun i _=>by simp[Yn],sm_zero]
 | t::l,h=>by
  have h1:=h t (.head _)
  have ih:=QaU (x:=x) hz (l:=l) fun u hu=>h u (.tail _ hu)
  have e:sm (N+1) (fun j=>Yn (t::l) f (j:Int)*x^j)=t.2*sm (N+1) (fun j=>f ((j:Int)-(t.1.toNat:Int))*x^j)+sm (N+1) (fun j=>Yn l f (j:Int)*x^j):=by
   rw[← Z7,← UT]
   refine XT fun i hi=>?_
   simp only[Yn]
   rw[Hv,G5,Int.toNat_of_nonneg h1.1]
  rw[e,ih,Qgk (x:=x) (by omega) hz]
  simp only[evT]
  rw[Hv,G5]
theorem QiX{cs:List Nat}{n:Nat}{F:Nat->List Nat->Nat->Int}:alt (fun c ds=>sm n (F c ds)) cs=sm n fun j=>alt (fun c ds=>F c ds j) cs:=by
 induction n with
 | zero=>exact Jm
 | succ n ih=>simp only[sm];rw[yX,ih]
theorem QcK(k:Int){cs:List Nat}{f:Nat->List Nat->Int}:alt (fun c ds=>f c ds*k) cs=alt f cs*k:=by
 rw[Hr,← ZJ];exact Yj fun c ds=>Hr _ _
theorem QlU{α:Type}(f:α->List (List Tm))(k:α->Int)(x:Int):∀ {m:List α} {cs:List Nat} {N:Nat},(∀ r∈m,0<=k r/\∀ l∈f r,∀ t∈l,0<=t.1/\t.1<=k r)->(m.map k).sum<=N->D ((m.map f).map (evR x)) cs=sm (N+1) fun j=>dL (m.map f) cs (j:Int)*x^j
 | [],cs,N,_,_=>by
  simp only[List.map_nil,dL,D]
  rw[XT (g:=fun i=>if i=0 then 1 else 0) fun i hi=>?_,QdO 0 1 (by omega)]
  by_cases h:i=0
  ·subst h;simp
  ·rw[if_neg h,if_neg (by omega),Hx]
 | r::m,cs,N,hb,hN=>by
  simp only[GE,Hg]at hN
  have hk:=hb r (.head _)
  have hs0:0<=(m.map k).sum:=by
   have:∀ {m:List α},(∀ r∈m,0<=k r)->0<=(m.map k).sum:=by
    intro m
    induction m with
    | nil=>intro _;exact Int.le_refl _
    | cons q m ih=>intro h;have:=h q (.head _);have:=ih fun r hr=>h r (.tail _ hr);simp only[GE,Hg];omega
   exact this fun q hq=>(hb q (.tail _ hq)).1
  have hbt:=fun q (hq:q∈m)=>hb q (.tail _ hq)
  simp only[GE]
  rw[XM]
  have e:(fun j:Nat=>dL (f r::m.map f) cs (j:Int)*x^j)=fun j:Nat=>alt (fun c ds=>Yn ((f r).getD c []) (dL (m.map f) ds) (j:Int)*x^j) cs:=by
   funext j
   rw[QcK];rfl
  rw[e,← QiX]
  refine Yj fun c ds=>?_
  rw[QlU f k x (N:=(m.map k).sum.toNat) hbt (by omega)]
  symm
  refine QaU (M:=(m.map k).sum.toNat) (fun e he=>Qbh f k (fun q hq=>(hbt q hq).2) (by omega)) fun t ht=>?_
  have hm:(f r).getD c []∈f r∨(f r).getD c []=[]:=by
   rw[Ge]
   rcases h:(f r)[c]? with _|y
   ·exact .inr rfl
   ·exact .inl (Gg h)
  rcases hm with hm|hm
  ·have:=hk.2 _ hm t ht
   omega
  ·rw[hm]at ht;cases ht
def rT(r:List Pol):List (List Tm):=r.map Pol.ts
theorem Vd{low s:Int}{f g:Int->Int}(h:∀ e,f e=g (e+s)):∀ {l:List Tm} {e:Int},Yn (shL low l) f e=Yn l g (e+(low+s))
 | [],_=>rfl
 | t::l,e=>by
  have ih:=Vd (low:=low) h (l:=l) (e:=e)
  unfold shL at ih ⊢
  simp only[GE,Yn]
  rw[ih,h,show e-(t.1-low)+s=e+(low+s)-t.1 by omega]
theorem QhX{r:List Pol}{c:Nat}:(esR r).getD c []=shL (bF r) ((rT r).getD c []):=by
 unfold esR rT
 simp only[Ge,Gh]
 cases r[c]? <;> rfl
theorem Qcz:∀ {m:List (List Pol)} {cs:List Nat} {e:Int},dL (m.map esR) cs e=dL (m.map rT) cs (e+(m.map bF).sum)
 | [],cs,e=>by simp[dL]
 | r::m,cs,e=>by
  simp only[GE,dL,Hg]
  refine Yj fun c ds=>?_
  rw[QhX]
  exact Vd fun e=>Qcz
theorem QdK{f:List Pol->Int}{m:List (List Pol)}:∀ {n:Nat},n<=m.length->sm n (fun j=>f (m.getD j []))=((m.take n).map f).sum
 | 0,_=>rfl
 | n+1,h=>by
  simp only[sm]
  have e:m.getD n []=m[n]'(by omega):=by rw[Ge,Ga (show n<m.length by omega)];rfl
  rw[QdK (n:=n) (by omega),GB,Ga (by omega),GW,List.sum_append,e,Option.toList_some,GE,List.map_nil,Hg,List.sum_nil,Int.add_zero]
theorem QdM{f:List Pol->Int}{m:List (List Pol)}:sm m.length (fun j=>f (m.getD j []))=(m.map f).sum:=by
 rw[QdK (Gd _),Gx]
set_option maxHeartbeats 16000000
set_option maxRecDepth 20000
attribute [local irreducible] Qm wA Xp Xo QI Qp QZ QY
def Yq(m:List (List Pol)):Nat:=(m.getD 0 []).length
def Y2(m:List (List Pol)):Prop:=∀ r∈m,r.length=Yq m
instance (m:List (List Pol)):Decidable (Y2 m):=by unfold Y2;infer_instance
def I35(m:List (List Pol))(ms:SV)(hb:Qa)(k:Nat)(E:Env)(h:Qa):Prop:=∃ i,i<=m.length/\k=m.length-i/\h=hb/\(∀ r∈m.take i,r.length=Yq m) ∧
 E.keep [0,5,6,7]=[(0,some (.sc ms)),(5,some (.sc ms)),(6,some (.sc (.int .i64 (m.length:Nat)))),(7,some (.sc (.int .i64 (i:Nat))))]
def R35(m:List (List Pol))(hb:Qa)(ex:Ex)(E:Env)(h:Qa):Prop:=h=hb/\((ex = .ex 0/\Y2 m/\∃ a b c d e,E=[(0,a),(5,b),(6,c),(7,d),(8,e)])∨(ex = .rt/\¬ Y2 m/\E=[(2,some (.sc (.bool false)))]))
theorem Qkc(m:List (List Pol))(ms:SV)(hb:Qa)(hn:m.length<=1000000)(pm:PolMx hb ms m)(hl:∀ r∈m,r.length<=1000000)(k:Nat)(E:Env)(h:Qa)(hI:I35 m ms hb k E h) :
  wA FT HKt Qmi (E.keep [0,5,6,7]) h (Qp (I35 m ms hb) k (R35 m hb)):=by
 obtain⟨i,hi,rfl,rfl,hall,hE⟩:=hI
 rw[hE]
 by_cases hlt:i<m.length
 ·obtain⟨r,hr⟩:∃ r,m[i]?=some r:=⟨_,Ga hlt⟩
  obtain⟨q,hq⟩:∃ q,m[0]?=some q:=⟨_,Ga (by omega)⟩
  obtain⟨id,off,cap,rs,es,rd,pr⟩:=pm.at hr
  subst es
  obtain⟨id2,off2,cap2,qs,es2,rd2,pq⟩:=pm.at hq
  cases es2
  have lr:=pr.len
  have lq:=pq.len
  have ec:Yq m=q.length:=by unfold Yq;rw[Ge,hq];rfl
  have z1:=hl r (Gg hr)
  have z2:=hl q (Gg hq)
  by_cases e:r.length=q.length
  ·repeat' first|apply Qf|apply Qb|apply Qt|apply QL|apply Qn|apply Qe|(apply Qg;first|refine Qk rfl ?_|refine Qi rfl ?_)|(apply Qd;first|refine QG rfl rfl rfl rfl ?_|refine QO rfl rfl rfl rfl rfl ?_)|(apply Qc;first|(have z:=used;refine Q1 rfl rd2 ?_)|refine Qy (esz:=1) rfl rfl (by omega) ?_|(refine Q1 rfl rd ?_;have used:=True.intro)|refine Qr rfl lr ?_|refine Qr rfl lq ?_|refine XJ rfl rfl (by omega) ?_|refine Ql rfl ?_|refine QM rfl rfl (by omega) ?_|refine Qx rfl rfl (by omega) ?_)
   refine Qz (j:=m.length-(i+1)) (by omega) ⟨i+1,by omega,rfl,rfl,fun x hx=>?_,rfl⟩
   rw[GB,hr]at hx
   rcases Gy.1 hx with hx|hx
   ·exact hall x hx
   ·simp at hx;subst hx;rw[ec];exact e
  ·repeat' first|apply Qf|apply Qb|apply QC|apply Qt|apply Xi|apply Qn|apply Qs|apply Qe|(apply Qg;refine Qk rfl ?_)|(apply Qd;first|refine Qq rfl ?_|refine QO rfl rfl rfl rfl rfl ?_)|(apply Qc;first|(have z:=used;refine Q1 rfl rd2 ?_)|refine Qy (esz:=1) rfl rfl (by omega) ?_|(refine Q1 rfl rd ?_;have used:=True.intro)|refine Qr rfl lr ?_|refine Qr rfl lq ?_|refine Ya rfl rfl (by omega) ?_|refine Ql rfl ?_|refine Qx rfl rfl (by omega) ?_)
   exact Xt ⟨rfl,.inr ⟨rfl,fun hf=>e (by rw[← ec];exact hf r (Gg hr)),rfl⟩⟩
 ·have:i=m.length:=by omega
  subst this
  rw[Gx]at hall
  repeat' first|apply Qf|apply Qb|apply QS|apply QQ|apply Qe|(apply Qg;refine Qi rfl ?_)|(apply Qd;refine QO rfl rfl rfl rfl rfl ?_)|(apply Qc;refine QF rfl rfl (by omega) ?_)
  exact QB ⟨rfl,.inl ⟨rfl,hall,_,_,_,_,_,rfl⟩⟩
theorem Qdm(h0:Qa)(m:List (List Pol))(ms:SV)(hn:m.length<=1000000)(pm:PolMx h0 ms m)(hl:∀ r∈m,r.length<=1000000):∃ r h',Cal FT HKt 35 [.sc ms] h0 r h'/\(r = .sc (.bool (decide (Y2 m)))/\h'=h0):=by
 refine Cal.of (F:=a35) rfl rfl rfl ?_
 have lm:=pm.len
 repeat' first|apply Qf|apply Qb|apply Qt|apply Qe|(apply Qd;first|refine Qq rfl ?_|refine QG rfl rfl rfl rfl ?_)|(apply Qc;first|refine Qr rfl lm ?_|refine Ql rfl ?_)
 refine QV (I35 m ms h0) m.length (R35 m h0) ⟨0,Gm _,rfl,rfl,by simp,rfl⟩ (Qkc m ms h0 hn pm hl) ?_
 rintro ex E' h1 ⟨rfl,⟨rfl,hf,_,_,_,_,_,rfl⟩|⟨rfl,hf,rfl⟩⟩
 ·repeat' first|apply Qf|apply Qb|apply QK|apply Qs|apply Qe|(apply Qd;refine Qq rfl ?_)|(apply Qc;refine Ql rfl ?_)
  exact⟨.inr rfl,by rw[decide_eq_true hf];rfl,rfl⟩
 ·repeat' first|apply QC|apply Xi
  exact⟨.inr rfl,by rw[decide_eq_false hf];rfl,rfl⟩
theorem Vz(h0:Qa)(m:List (List Pol))(ms:SV)(hn:m.length<=1000000)(pm:PolMx h0 ms m):∃ r h',Cal FT HKt 37 [.sc ms] h0 r h'/\(r = .sc (.int .i64 (Yq m:Nat))/\h'=h0):=by
 refine Cal.of (F:=a37) rfl rfl rfl ?_
 have lm:=pm.len
 by_cases h:m.length=0
 ·have e:Yq m=0:=by rw[Gw h];rfl
  rw[e]
  repeat' first|apply Qf|apply Qb|apply QC|apply Qs|apply Qe|(apply Qg;refine Qk rfl ?_)|(apply Qd;first|refine Qq rfl ?_|refine QA rfl rfl ?_)|(apply Qc;first|refine Qr rfl lm ?_|refine Xu rfl rfl (by omega) ?_|refine Ql rfl ?_)
  exact⟨.inr rfl,rfl,rfl⟩
 ·obtain⟨q,hq⟩:∃ q,m[0]?=some q:=⟨_,Ga (by omega)⟩
  obtain⟨id,off,cap,rs,es,rd,pr⟩:=pm.at hq
  subst es
  have lr:=pr.len
  have ec:Yq m=q.length:=by unfold Yq;rw[Ge,hq];rfl
  rw[ec]
  repeat' first|apply Qf|apply Qb|apply Qn|apply Qs|apply Qe|(apply Qg;refine Qi rfl ?_)|(apply Qd;first|refine Qq rfl ?_|refine QA rfl rfl ?_)|(apply Qc;first|refine Qr rfl lm ?_|refine Xl rfl rfl (by omega) ?_|refine Qy (esz:=1) rfl rfl (by omega) ?_|refine Q1 rfl rd ?_|refine Qr rfl lr ?_|refine Ql rfl ?_)
  exact⟨.inr rfl,rfl,rfl⟩
theorem Qdl(h0:Qa)(m:List (List Pol))(ms:SV)(hn:m.length<=64)(hc:Yq m<=64)(pm:PolMx h0 ms m):∃ r h',Cal FT HKt 36 [.sc ms] h0 r h'/\(r = .sc (.bool false)/\h'=h0):=by
 refine Cal.of (F:=a36) rfl rfl rfl ?_
 have lm:=pm.len
 have k37:=Vz h0 m ms (by omega) pm
 repeat' first|apply Qf|apply Qb|apply Qs|apply Qe|(apply Qd;refine Qq rfl ?_)|(apply Qc;first|refine Qr rfl lm ?_|refine XD rfl rfl (by omega) ?_|(refine Qj rfl k37 ?_;rintro v h1 ⟨rfl,rfl⟩)|refine QP rfl ?_|refine Ql rfl ?_|refine QJ rfl rfl ?_)
 exact⟨.inr rfl,rfl,rfl⟩
def I75(r:List Pol)(rs:SV)(hb:Qa)(k:Nat)(E:Env)(h:Qa):Prop:=∃ i,i<=r.length/\k=r.length-i/\Ext hb h ∧
 E.keep [0,1,7,8]=[(0,some (.sc rs)),(1,some (.sc (.fn 39 []))),(7,some (.sc (.int .i64 (r.length:Nat)))),(8,some (.sc (.int .i64 (i:Nat))))]
def R75(hb:Qa)(ex:Ex)(E:Env)(h:Qa):Prop:=ex = .ex 0/\Ext hb h/\∃ a b c d e,E=[(0,a),(1,b),(7,c),(8,d),(9,e)]
theorem Qj6(r:List Pol)(rs:SV)(hb:Qa)(hn:r.length<=1000000)(pr:PolRow hb rs r)(hl:∀ p∈r,p.big=false)(k:Nat)(E:Env)(h:Qa)(hI:I75 r rs hb k E h) :
  wA FT HKt Ql5 (E.keep [0,1,7,8]) h (Qp (I75 r rs hb) k (R75 hb)):=by
 obtain⟨i,hi,rfl,x,hE⟩:=hI
 rw[hE]
 by_cases hlt:i<r.length
 ·obtain⟨p,hp⟩:∃ p,r[i]?=some p:=⟨_,Ga hlt⟩
  obtain⟨id,off,cap,t,es,rd,dt⟩:=pr.at hp
  subst es
  have rd0:=Qw x rd
  rw[hl p (Gg hp)]at rd0
  have k39:=Qbm h false t
  repeat' first|apply Qf|apply Qb|apply Qt|apply QL|apply Qn|apply Qe|(apply Qg;first|refine Qk rfl ?_|refine Qi rfl ?_)|(apply Qd;first|refine QG rfl rfl rfl rfl ?_|refine QO rfl rfl rfl rfl rfl ?_|refine QE rfl rfl rfl rfl rfl rfl ?_)|(apply Qc;first|refine Qy (esz:=2) rfl rfl (by omega) ?_|refine XH rfl rd0 ?_|(refine XV rfl rfl k39 ?_;rintro v h1 ⟨e1,rfl⟩)|refine Ql rfl ?_|refine QM rfl rfl (by omega) ?_|refine Qx rfl rfl (by omega) ?_)
  exact Qz (j:=r.length-(i+1)) (by omega) ⟨i+1,by omega,rfl,x.trans e1,rfl⟩
 ·have:i=r.length:=by omega
  subst this
  repeat' first|apply Qf|apply Qb|apply QS|apply QQ|apply Qe|(apply Qg;refine Qi rfl ?_)|(apply Qd;refine QO rfl rfl rfl rfl rfl ?_)|(apply Qc;refine QF rfl rfl (by omega) ?_)
  exact QB ⟨rfl,x,_,_,_,_,_,rfl⟩
theorem QoH(h0:Qa)(r:List Pol)(rs:SV)(hn:r.length<=1000000)(pr:PolRow h0 rs r)(hl:∀ p∈r,p.big=false):∃ v h',Cal FT HKt 38 [.sc rs,.sc (.fn 39 [])] h0 v h'/\(Ext h0 h'/\v = .sc (.bool false)):=by
 have k75:∃ v h',Cal FT HKt 75 [.sc rs,.sc (.fn 39 [])] h0 v h'/\(Ext h0 h'/\v = .sc (.int .i64 (-1))):=by
  refine Cal.of (F:=a75) rfl rfl rfl ?_
  have lr:=pr.len
  repeat' first|apply Qf|apply Qb|apply Qt|apply Qe|(apply Qd;first|refine QA rfl rfl ?_|refine QG rfl rfl rfl rfl ?_)|(apply Qc;first|refine Qr rfl lr ?_|refine Ql rfl ?_)
  refine QV (I75 r rs h0) r.length (R75 h0) ⟨0,Gm _,rfl,Ext.refl _,rfl⟩ (Qj6 r rs h0 hn pr hl) ?_
  rintro ex E' h1 ⟨rfl,x,_,_,_,_,_,rfl⟩
  repeat' first|apply Qf|apply Qb|apply QK|apply Qs|apply Qe|(apply Qd;refine Qq rfl ?_)|(apply Qc;refine Ql rfl ?_)
  exact⟨.inr rfl,x,rfl⟩
 refine Cal.of (F:=a38) rfl rfl rfl ?_
 repeat' first|apply Qf|apply Qb|apply Qs|apply Qe|(apply Qd;first|refine Qq rfl ?_|refine QA rfl rfl ?_)|(apply Qc;first|(refine Qj rfl k75 ?_;rintro v h1 ⟨e1,rfl⟩)|refine X6 rfl rfl (by omega) ?_|refine Ql rfl ?_)
 exact⟨.inr rfl,e1,rfl⟩
theorem V6{low:Int}{xs:List Int}(h:∀ x∈xs,x.natAbs<=cM)(hl:low<=eM)(he:∀ i,i<xs.length->(low+(i:Nat)).natAbs<=eM) :
  ∃ r,ofP low xs=⟨false,r⟩/\Can r/\(∀ t∈r,low<=t.1/\t.1<low+xs.length/\t.2.natAbs<=cM/\t.1.natAbs<=eM)/\∀ e,cf r e=if low<=e/\e<low+xs.length then xs.getD (e-low).toNat 0 else 0:=by
 have key:∀ i,i<=xs.length->∃ r,ofN low xs i=some r:=by
  intro i
  induction i with
  | zero=>intro _;exact⟨[],rfl⟩
  | succ i ih =>
   intro hi
   obtain⟨r,hr⟩:=ih (by omega)
   have hm:xs.getD i 0∈xs:=by rw[Ge,Ga (by omega)];exact GI _
   have h1:=h _ hm
   have h2:=he i (by omega)
   rw[ofN,hr,Gl]
   split
   ·exact⟨_,rfl⟩
   ·rw[if_pos ⟨h1,hl,h2⟩];exact⟨_,rfl⟩
 obtain⟨r,hr⟩:=key xs.length (Gd _)
 obtain⟨a,b,c⟩:=QaR hr
 exact⟨r,by unfold ofP;rw[hr],a,b,c⟩
structure SqM(b:Nat)(m:List (List Pol)):Prop where
 n:m.length<=64
 sq:∀ r∈m,r.length=m.length
 ok:∀ r∈m,∀ p∈r,Can p.ts/\p.big=false/\p.ts.length<=100000/\∀ t∈p.ts,t.1.natAbs<=400/\t.2.natAbs<=cM
 bb:b<=60/\b*m.length<=118
 w:∀ r∈m,XQ (rT r)<2^b
theorem QbC{low:Int}:∀ {l:List Tm},Yp (shL low l)=Yp l
 | []=>rfl
 | t::l=>by
  have:=QbC (low:=low) (l:=l)
  unfold shL at this ⊢
  simp only[GE,Yp,this]
theorem QjD{r:List Pol}:XQ (esR r)=XQ (rT r):=by
 rw[yc,yc]
 unfold esR rT
 rw[Hm,Hm]
 congr 1
 exact G6 fun p _=>QbC
def Qbg(m:List (List Pol)):Int->Int:=dL (m.map rT) (List.range' 0 m.length)
theorem SqM.dok{b:Nat}{m:List (List Pol)}(k:SqM b m):DOk b m/\(ZU m m.length).natAbs<=25600:=by
 have hbd:∀ r∈m,bF r<=bS r/\(bF r).natAbs<=400/\(bS r).natAbs<=400:=fun r hr=>by
  have:=bFS (r:=r) (fun p hp=>(k.ok r hr p hp).1) (B:=400) fun p hp t ht=>((k.ok r hr p hp).2.2.2 t ht).1
  exact⟨this.1,this.2.1,this.2.2.1⟩
 have mem:∀ j,j<m.length->m.getD j []∈m:=fun j hj=>by rw[Ge,Ga hj];exact GI _
 refine⟨⟨by have:=k.n;omega,k.sq,fun r hr p hp=>?_,k.bb,fun r hr=>by rw[QjD];exact k.w r hr,?_⟩,?_⟩
 ·obtain⟨a,b,c,d⟩:=k.ok r hr p hp
  exact⟨a,b,c,fun t ht=>⟨by have:=(d t ht).1;omega,(d t ht).2⟩⟩
 ·have h1:(JL m m.length).natAbs<=m.length*800:=VT fun j hj=>by have:=hbd _ (mem j hj);omega
  have:=k.n
  omega
 ·have h1:(ZU m m.length).natAbs<=m.length*400:=VT fun j hj=>(hbd _ (mem j hj)).2.1
  have:=k.n
  omega
theorem Vs:∀ {l:List Nat},0∈l->l.foldr (·*·) 1=0
 | x::l,h=>by
  rw[List.foldr_cons]
  rcases GO.1 h with h|h
  ·rw[← h,Nat.zero_mul]
  ·rw[Vs h,Nat.mul_zero]
theorem Qnx{r:List Pol}:(rT r).length=r.length:=by unfold rT;rw[Gj]
theorem QkW{b:Nat}{m:List (List Pol)}(k:SqM b m)(e:Int):(Qbg m e).natAbs<=((m.map rT).map XQ).foldr (·*·) 1 :=
 QeE (n:=m.length) (List.Sublist.refl _) fun r hr=>by
  obtain⟨q,hq,rfl⟩:=Gs.1 hr
  rw[Qnx];exact k.sq q hq
def DetR(m:List (List Pol))(h:Qa)(v:AV):Prop :=
 (∃ s ts,v = .tup [.agg [.bool false,s],.sc (.int .i64 0)]/\IsD h s (tms ts)/\Can ts/\(∀ t∈ts,t.2.natAbs<=cM/\t.1.natAbs<=eM/\t.1.natAbs<=100000)/\∀ e,cf ts e=Qbg m e) ∨
 ((∃ e,cM<(Qbg m e).natAbs)/\v = .tup [.agg [.bool false,.nilS],.sc (.int .i64 9)])
def I11(m:List (List Pol))(ms:SV)(q2:Nat)(hb:Qa)(k:Nat)(E:Env)(h:Qa):Prop:=∃ i,i<=m.length/\k=m.length-i/\Ext hb h ∧
 E.keep [0,2,24,25,26]=[(0,some (.sc ms)),(2,some (.sc (.ptr q2 0))),(24,some (.sc ms)),(25,some (.sc (.int .i64 (m.length:Nat)))),(26,some (.sc (.int .i64 (i:Nat))))]
def R11(ms:SV)(q2:Nat)(hb:Qa)(ex:Ex)(E:Env)(h:Qa):Prop:=ex = .ex 1/\Ext hb h/\∃ a b c d,E=[(0,some (.sc ms)),(2,some (.sc (.ptr q2 0))),(24,a),(25,b),(26,c),(27,d)]
theorem Qkl(m:List (List Pol))(ms:SV)(q2:Nat)(hb:Qa)(hn:m.length<=1000000)(pm:PolMx hb ms m)(hl:∀ r∈m,r.length<=1000000/\∀ p∈r,p.big=false)(k:Nat)(E:Env)(h:Qa)(hI:I11 m ms q2 hb k E h) :
  wA FT HKt QmD (E.keep [0,2,24,25,26]) h (Qp (I11 m ms q2 hb) k (R11 ms q2 hb)):=by
 obtain⟨i,hi,rfl,x,hE⟩:=hI
 rw[hE]
 by_cases hlt:i<m.length
 ·obtain⟨r,hr⟩:∃ r,m[i]?=some r:=⟨_,Ga hlt⟩
  obtain⟨id,off,cap,rs,es,rd,pr⟩:=pm.at hr
  subst es
  have rd0:=Qw x rd
  obtain⟨z1,z2⟩:=hl r (Gg hr)
  have k38:=QoH h r rs z1 (pr.ext x) z2
  repeat' first|apply Qf|apply Qb|apply Qt|apply QL|apply Qn|apply Qe|(apply Qg;first|refine Qk rfl ?_|refine Qi rfl ?_)|(apply Qd;first|refine QO rfl rfl rfl rfl rfl ?_|refine QE rfl rfl rfl rfl rfl rfl ?_)|(apply Qc;first|refine Qy (esz:=1) rfl rfl (by omega) ?_|refine Q1 rfl rd0 ?_|(refine Qj rfl k38 ?_;rintro v h1 ⟨e1,rfl⟩)|refine Ql rfl ?_|refine QM rfl rfl (by omega) ?_|refine Qx rfl rfl (by omega) ?_)
  exact Qz (j:=m.length-(i+1)) (by omega) ⟨i+1,by omega,rfl,x.trans e1,rfl⟩
 ·have:i=m.length:=by omega
  subst this
  repeat' first|apply Qf|apply Qb|apply QS|apply QQ|apply Qe|(apply Qg;refine Qi rfl ?_)|(apply Qd;refine QE rfl rfl rfl rfl rfl rfl ?_)|(apply Qc;refine QF rfl rfl (by omega) ?_)
  exact QB ⟨rfl,x,_,_,_,_,rfl⟩
theorem QoT(b:Nat)(m:List (List Pol))(ms:SV)(h0:Qa)(pm:PolMx h0 ms m)(k:SqM b m):∃ r h',Cal FT HKt 11 [.sc ms] h0 r h'/\(Ext h0 h'/\DetR m h' r):=by
 refine Cal.of (F:=a11) rfl rfl rfl ?_
 obtain⟨kd,hlow⟩:=k.dok
 have hn:=k.n
 have lm:=pm.len
 have hcol:Yq m=m.length∨m.length=0:=by
  rcases Nat.eq_zero_or_pos m.length with h|h
  ·exact .inr h
  ·left
   unfold Yq
   refine k.sq _ ?_
   rw[Ge,Ga h];exact GI _
 have hc0:Yq m=m.length:=by
  rcases hcol with h|h
  ·exact h
  ·rw[Gw h];rfl
 have hf:Y2 m:=fun r hr=>by rw[hc0];exact k.sq r hr
 have hl:∀ r∈m,r.length<=1000000:=fun r hr=>by rw[k.sq r hr];omega
 have k35:=fun H (e:Ext h0 H)=>Qdm H m ms (by omega) (pm.ext e) hl
 have k36:=fun H (e:Ext h0 H)=>Qdl H m ms hn (by omega) (pm.ext e)
 have k37:=fun H (e:Ext h0 H)=>Vz H m ms (by omega) (pm.ext e)
 simp only[decide_eq_true hf]at k35
 rw[hc0]at k37
 have pm0:=pm
 obtain⟨deg,hdeg⟩:∃ deg:Nat,JL m m.length=(deg:Int):=⟨(JL m m.length).toNat,(Int.toNat_of_nonneg (QkX fun r hr=>(kd.bd hr).1)).symm⟩
 have spans:∀ r∈m,0<=bS r-bF r/\∀ l∈esR r,∀ t∈l,0<=t.1/\t.1<=bS r-bF r:=fun r hr=>by
  have h1:=(kd.bd hr).1
  refine⟨by omega,fun l hl t ht=>?_⟩
  have:=QhW (kd.ca hr) (fun p hp t ht=>((kd.ok r hr p hp).2.2.2 t ht).1) (fun p hp t ht=>((kd.ok r hr p hp).2.2.2 t ht).2) l hl t ht
  exact⟨this.1,this.2.1⟩
 have sums:(m.map fun r=>bS r-bF r).sum=(deg:Int):=by rw[← hdeg,← QdM (f:=fun r=>bS r-bF r)];rfl
 have lows:(m.map bF).sum=ZU m m.length:=(QdM (f:=bF)).symm
 have hsh:∀ e,dL (m.map esR) (List.range' 0 m.length) e=Qbg m (e+ZU m m.length):=fun e=>by rw[Qcz,lows];rfl
 have hD:∀ x:Int,D ((m.map esR).map (evR x)) (List.range' 0 m.length)=sm (deg+1) fun j=>dL (m.map esR) (List.range' 0 m.length) (j:Int)*x^j:=fun x=>QlU esR (fun r=>bS r-bF r) x spans (by rw[sums];exact Int.le_refl _)
 have hdb:∀ j:Nat,(dL (m.map esR) (List.range' 0 m.length) (j:Int)).natAbs<=((m.map esR).map XQ).foldr (·*·) 1:=fun j=>QeE (n:=m.length) (List.Sublist.refl _) fun r hr=>by
  obtain⟨q,hq,rfl⟩:=Gs.1 hr
  unfold esR;rw[Gj];exact k.sq q hq
 have k40:=fun H (e:Ext h0 H)=>QoG b deg m ms (fun j=>dL (m.map esR) (List.range' 0 m.length) (j:Int)) H (pm.ext e) kd hdeg hD hdb
 have hsupp:∀ e,e<ZU m m.length∨ZU m m.length+deg<e->Qbg m e=0:=fun e he=>by
  have:=hsh (e-ZU m m.length)
  rw[Int.sub_add_cancel]at this
  rw[← this]
  exact Qbh esR (fun r=>bS r-bF r) (fun r hr=>(spans r hr).2) (by rw[sums];omega)
 have hd2:deg<=65536:=by have:=kd.deg;omega
 repeat' first|apply Qf|apply Qb|apply Qt|apply QL|apply Qn|apply Qe|(apply Qg;refine Qi rfl ?_)|(apply Qd;first|refine QA rfl rfl ?_|refine Qu rfl rfl rfl ?_|refine QO rfl rfl rfl rfl rfl ?_)|(apply Qc;first|(apply Xa;intro h1 e1 c2)|(refine Qj rfl (k35 _ e1) ?_;rintro v h1 ⟨rfl,rfl⟩)|(refine Qj rfl (k36 _ e1) ?_;rintro v h1 ⟨rfl,rfl⟩)|(refine Qj rfl (k37 _ e1) ?_;rintro v h1 ⟨rfl,rfl⟩)|refine Qr rfl lm ?_|refine XJ rfl rfl (by omega) ?_|refine Ql rfl ?_|refine XC rfl ?_)
 refine QV (I11 m ms h0.length h1) m.length (R11 ms h0.length h1) ⟨0,Gm _,rfl,Ext.refl _,rfl⟩ (Qkl m ms h0.length h1 (by omega) (pm.ext e1) (fun r hr=>⟨hl r hr,fun p hp=>(k.ok r hr p hp).2.1⟩)) ?_
 rintro ex E' h2 ⟨rfl,x2,_,_,_,_,rfl⟩
 have c22:=c2.ext x2
 obtain⟨v4,h4,cal4,x4,res⟩:=k40 h2 (e1.trans x2)
 rcases res with ⟨⟨j,hj,hz,hne⟩,rfl⟩|⟨nz,⟨small,s,rfl,d4⟩|⟨⟨j,hj,hbig⟩,rfl⟩⟩
 ·have c24:=c22.ext x4
  have k39:=fun H=>Qbm H false .nilS
  have x24:=x2.trans x4
  repeat' first|apply Qf|apply Qb|apply QK|apply Qn|apply Qs|apply Qe|(apply Qg;refine Qi rfl ?_)|(apply Qd;first|refine QA rfl rfl ?_|refine Qu rfl rfl rfl ?_)|(apply Qc;first|(refine Qj (R:=fun v h=>v=_/\h=h4) rfl ⟨_,_,cal4,rfl,rfl⟩ ?_;rintro v h ⟨rfl,rfl⟩)|(refine qI rfl ?_;intro h5 e5 c6;replace x24:=x24.trans e5)|refine QU rfl c6 ?_|(refine Qj rfl (k39 _) ?_;rintro v h6 ⟨e6,rfl⟩;replace c6:=c6.ext e6;replace x24:=x24.trans e6)|(refine Xg rfl rfl (c2.ext x24) ?_;intro h7 w7)|refine QP rfl ?_|refine Ql rfl ?_|refine QJ rfl rfl ?_|refine XC rfl ?_|refine Xk rfl rfl ?_)
  refine⟨.inr rfl,Zr rfl w7.cel.read rfl ⟨w7.ext (e1.trans x24) (Gd _),.inl ⟨.nilS,[],rfl,IsD.nil _,Can.nil,by simp,fun e=>?_⟩⟩⟩
  have hb0:=QkW k e
  have hm:m.getD j []∈m:=by rw[Ge,Ga hj];exact GI _
  have hw0:XQ (rT (m.getD j []))=0:=by
   have:=Qbo (kd.ca hm)
   rw[hz]at this
   rw[yc]
   unfold rT
   rw[Hm]
   have e:(m.getD j []).map (Yp∘Pol.ts)=(m.getD j []).map fun _=>0:=G6 fun p hp=>by simp[this p hp,Yp]
   rw[e]
   generalize m.getD j []=l
   induction l with
   | nil=>rfl
   | cons a l ih=>simp only[GE,Hg,ih]
  rw[Vs (Gs.2 ⟨rT (m.getD j []),Gs.2 ⟨_,hm,rfl⟩,hw0⟩)]at hb0
  show (0:Int)=_
  omega
 ·have c24:=c22.ext x4
  obtain⟨ts,ets,can,hts,hcf⟩:=V6 (low:=ZU m m.length) (xs:=(List.range (deg+1)).map fun j:Nat=>dL (m.map esR) (List.range' 0 m.length) (j:Int)) (fun x hx=>by
   obtain⟨j,hj,rfl⟩:=Gs.1 hx
   rw[Ho]at hj
   exact small j (by omega)) (by simp only[eM];omega) (fun i hi=>by simp only[eM];simp at hi;omega)
  rw[ets]at d4
  have k39:=fun H=>Qbm H false s
  have x24:=x2.trans x4
  have d5:=d4
  rw[ets]at cal4
  repeat' first|apply Qf|apply Qb|apply QK|apply Qn|apply Qs|apply Qe|(apply Qg;refine Qi rfl ?_)|(apply Qd;first|refine QA rfl rfl ?_|refine Qu rfl rfl rfl ?_)|(apply Qc;first|(refine Qj (R:=fun v h=>v=_/\h=h4) rfl ⟨_,_,cal4,rfl,rfl⟩ ?_;rintro v h ⟨rfl,rfl⟩)|(refine qI rfl ?_;intro h5 e5 c6;replace x24:=x24.trans e5;replace d5:=d5.ext e5)|refine QU rfl c6 ?_|(refine Qj rfl (k39 _) ?_;rintro v h6 ⟨e6,rfl⟩;replace c6:=c6.ext e6;replace x24:=x24.trans e6;replace d5:=d5.ext e6)|(refine Xg rfl rfl (c2.ext x24) ?_;intro h7 w7)|refine QP rfl ?_|refine Ql rfl ?_|refine QJ rfl rfl ?_|refine XC rfl ?_|refine Xk rfl rfl ?_)
  refine⟨.inr rfl,Zr rfl w7.cel.read rfl ⟨w7.ext (e1.trans x24) (Gd _),.inl ⟨s,ts,rfl,d5.wrC w7,can,fun t ht=>⟨(hts t ht).2.2.1,(hts t ht).2.2.2,?_⟩,fun e=>?_⟩⟩⟩
  ·have:=hts t ht
   simp at this;omega
  ·rw[hcf e]
   simp only[Gj,Hq]
   by_cases he:ZU m m.length<=e/\e<ZU m m.length+(deg+1:Nat)
   ·rw[if_pos he,Ge,Gh,Gv (by omega)]
    show dL _ _ (((e-ZU m m.length).toNat:Nat):Int)=_
    rw[Int.toNat_of_nonneg (by omega),hsh,Int.sub_add_cancel]
   ·rw[if_neg he,hsupp e (by omega)]
 ·have c24:=c22.ext x4
  have k39:=fun H=>Qbm H false .nilS
  have x24:=x2.trans x4
  repeat' first|apply Qf|apply Qb|apply QC|apply QK|apply Qs|apply Qe|(apply Qg;refine Qk rfl ?_)|(apply Qd;first|refine QA rfl rfl ?_|refine Qu rfl rfl rfl ?_)|(apply Qc;first|(refine Qj (R:=fun v h=>v=_/\h=h4) rfl ⟨_,_,cal4,rfl,rfl⟩ ?_;rintro v h ⟨rfl,rfl⟩)|refine Xz rfl rfl ?_|(refine qI rfl ?_;intro h5 e5 c6;replace x24:=x24.trans e5)|(refine Xg rfl rfl (c2.ext x24) ?_;intro h7 w7)|refine Xd rfl ?_|refine Ql rfl ?_|refine QR rfl rfl ?_|refine X1 rfl ?_|refine Xk rfl rfl ?_)
  exact⟨.inr rfl,Zr rfl w7.cel.read rfl ⟨w7.ext (e1.trans x24) (Gd _),.inr ⟨⟨_,by rw[← hsh];exact hbig⟩,rfl⟩⟩⟩
abbrev Ent:=Int×List Int
def ERow(h:Qa)(s:SV)(r:List Ent):Prop:=∃ ss:List SV,ss.length=r.length/\IsD h s (List.zipWith (fun (p:Ent) t=>(SV.int .i64 p.1,t)) r ss)/\∀(i:Nat) (p:Ent) (t:SV),r[i]?=some p->ss[i]?=some t->IsInts h t p.2
def EMx(h:Qa)(s:SV)(m:List (List Ent)):Prop:=∃ ss:List SV,ss.length=m.length/\IsSl h s 1 ss.length ss/\∀(i:Nat) (t:SV) (r:List Ent),ss[i]?=some t->m[i]?=some r->ERow h t r
theorem ERow.ext{h h':Qa}{s:SV}{r:List Ent}(e:ERow h s r)(x:Ext h h'):ERow h' s r:=by
 obtain⟨ss,h1,h2,h3⟩:=e
 exact⟨ss,h1,h2.ext x,fun i t l a b=>IsSl.ext (h3 i t l a b) x⟩
theorem EMx.ext{h h':Qa}{s:SV}{m:List (List Ent)}(e:EMx h s m)(x:Ext h h'):EMx h' s m:=by
 obtain⟨ss,h1,h2,h3⟩:=e
 exact⟨ss,h1,h2.ext x,fun i t l a b=>(h3 i t l a b).ext x⟩
theorem ERow.len{h:Qa}{s:SV}{r:List Ent}(e:ERow h s r):Yh false s=some (r.length:Int):=by
 obtain⟨ss,h1,h2,-⟩:=e
 have:=h2.len
 rwa [G7,h1,Hw]at this
theorem EMx.len{h:Qa}{s:SV}{m:List (List Ent)}(e:EMx h s m):Yh false s=some (m.length:Int):=by
 obtain⟨ss,h1,h2,-⟩:=e
 rw[← h1];exact IsSl.len h2
theorem ERow.at{h:Qa}{s:SV}{r:List Ent}(e:ERow h s r){i:Nat}{p:Ent}(hi:r[i]?=some p):∃ id off cap t,s = .slc id off r.length cap/\Q3 h id (off+i*2) 2=some [.int .i64 p.1,t]/\IsInts h t p.2:=by
 obtain⟨ss,h1,h2,h3⟩:=e
 have hl:=(Gb.1 hi).1
 obtain⟨t,ht⟩:∃ t,ss[i]?=some t:=⟨_,Ga (by omega)⟩
 obtain⟨id,off,cap,e1,rd⟩:=h2.at (i:=i) (p:=(SV.int .i64 p.1,t)) (by rw[List.getElem?_zipWith,hi,ht])
 rw[G7,h1,Hw]at e1
 exact⟨id,off,cap,t,e1,rd,h3 i p t hi ht⟩
theorem EMx.at{h:Qa}{s:SV}{m:List (List Ent)}(e:EMx h s m){i:Nat}{r:List Ent}(hi:m[i]?=some r):∃ id off cap t,s = .slc id off m.length cap/\Q3 h id (off+i*1) 1=some [t]/\ERow h t r:=by
 obtain⟨ss,h1,h2,h3⟩:=e
 have hl:=(Gb.1 hi).1
 obtain⟨t,ht⟩:∃ t,ss[i]?=some t:=⟨_,Ga (by omega)⟩
 obtain⟨id,off,cap,e1,rd⟩:=h2.at ht
 rw[h1]at e1
 exact⟨id,off,cap,t,e1,rd,h3 i t r ht hi⟩
def smE(e:Ent):Prop:=e.2.length<=3 ∧ -10<=e.1/\e.1<=10/\∀ c∈e.2,-4<=c/\c<=4
instance (e:Ent):Decidable (smE e):=by unfold smE;infer_instance
def smN(b:Bool):AV := .sc (.int .i64 (if b then 1 else 0))
def I19(e:Ent)(q:Nat)(s:SV)(hb:Qa)(k:Nat)(E:Env)(h:Qa):Prop:=∃ i,i<=e.2.length/\k=e.2.length-i/\h=hb/\(∀ c∈e.2.take i,-4<=c/\c<=4) ∧
 E.keep [1,3]=[(1,some (.sc (.ptr q 0))),(3,some (.sc (.int .i64 (i:Nat))))]
def R19(e:Ent)(hb:Qa)(ex:Ex)(E:Env)(h:Qa):Prop:=h=hb/\((ex = .ex 0/\(∀ c∈e.2,-4<=c/\c<=4)/\∃ a b c,E=[(1,a),(3,b),(22,c)])∨(ex = .rt/\¬(∀ c∈e.2,-4<=c/\c<=4)/\E=[(2,some (.sc (.int .i64 0)))]))
theorem Qkg(e:Ent)(q:Nat)(s:SV)(hb:Qa)(hl:e.2.length<=3)(c1:Cel hb q (.int .i64 e.1) s)(hs:IsInts hb s e.2)(k:Nat)(E:Env)(h:Qa)(hI:I19 e q s hb k E h) :
  wA FT HKt Qmw (E.keep [1,3]) h (Qp (I19 e q s hb) k (R19 e hb)):=by
 obtain⟨i,hi,rfl,rfl,hall,hE⟩:=hI
 rw[hE]
 have ls:Yh false s=some (e.2.length:Int):=IsSl.len hs
 by_cases hlt:i<e.2.length
 ·obtain⟨c,hc⟩:∃ c,e.2[i]?=some c:=⟨_,Ga hlt⟩
  obtain⟨id,off,cap,es,rd⟩:=IsInts.at hs hc
  subst es
  have hm:=Gg hc
  by_cases h1:c < -4
  ·repeat' first|apply Qf|apply Qb|apply QC|apply Qt|apply Xi|apply Qn|apply Qs|apply Qe|(apply Qg;refine Qk rfl ?_)|(apply Qd;first|refine Qq rfl ?_|refine Qu rfl rfl rfl ?_)|(apply Qc;first|refine QW rfl ?_|refine QH rfl c1 ?_|refine Qr rfl ls ?_|refine Qy (esz:=1) rfl rfl (by omega) ?_|refine Q1 rfl rd ?_|refine Xd rfl ?_|refine Ql rfl ?_|refine QR rfl rfl ?_|refine Qx rfl rfl (by omega) ?_)
   exact Xt ⟨rfl,.inr ⟨rfl,fun hf=>by have:=hf c hm;omega,rfl⟩⟩
  ·by_cases h2:4<c
   ·repeat' first|apply Qf|apply Qb|apply QC|apply Qt|apply Xi|apply Qn|apply Qs|apply Qe|(apply Qg;refine Qk rfl ?_)|(apply Qd;first|refine Qq rfl ?_|refine Qu rfl rfl rfl ?_)|(apply Qc;first|refine QW rfl ?_|refine QH rfl c1 ?_|refine Qr rfl ls ?_|refine Qy (esz:=1) rfl rfl (by omega) ?_|refine Q1 rfl rd ?_|refine QP rfl ?_|refine Ql rfl ?_|refine QJ rfl rfl ?_|refine Qx rfl rfl (by omega) ?_|refine QF rfl rfl (by omega) ?_|refine XK rfl rfl (by omega) ?_)
    exact Xt ⟨rfl,.inr ⟨rfl,fun hf=>by have:=hf c hm;omega,rfl⟩⟩
   ·repeat' first|apply Qf|apply Qb|apply Qt|apply QL|apply Qn|apply Qe|(apply Qg;first|refine Qk rfl ?_|refine Qi rfl ?_)|(apply Qd;first|refine QA rfl rfl ?_|refine Qu rfl rfl rfl ?_)|(apply Qc;first|refine QW rfl ?_|refine QH rfl c1 ?_|refine Qr rfl ls ?_|refine Qy (esz:=1) rfl rfl (by omega) ?_|refine Q1 rfl rd ?_|refine QP rfl ?_|refine Ql rfl ?_|refine QJ rfl rfl ?_|refine QM rfl rfl (by omega) ?_|refine Qx rfl rfl (by omega) ?_|refine QF rfl rfl (by omega) ?_|refine XD rfl rfl (by omega) ?_)
    refine Qz (j:=e.2.length-(i+1)) (by omega) ⟨i+1,by omega,rfl,rfl,fun x hx=>?_,rfl⟩
    rw[GB,hc]at hx
    rcases Gy.1 hx with hx|hx
    ·exact hall x hx
    ·simp at hx;subst hx;omega
 ·have:i=e.2.length:=by omega
  subst this
  rw[Gx]at hall
  repeat' first|apply Qf|apply Qb|apply QS|apply QQ|apply Qe|(apply Qg;refine Qi rfl ?_)|(apply Qd;refine Qu rfl rfl rfl ?_)|(apply Qc;first|refine QW rfl ?_|refine QH rfl c1 ?_|refine Qr rfl ls ?_|refine Ql rfl ?_|refine QF rfl rfl (by omega) ?_)
  exact QB ⟨rfl,.inl ⟨rfl,hall,_,_,_,rfl⟩⟩
theorem QoP(h0:Qa)(e:Ent)(s:SV)(hs:IsInts h0 s e.2):∃ r h',Cal FT HKt 19 [.agg [.int .i64 e.1,s]] h0 r h'/\(Ext h0 h'/\r=smN (decide (smE e))):=by
 refine Cal.of (F:=a19) rfl rfl rfl ?_
 have ls:Yh false s=some (e.2.length:Int):=IsSl.len hs
 by_cases h1:3<e.2.length
 ·rw[show decide (smE e)=false from decide_eq_false fun hf=>by have:=hf.1;omega]
  repeat' first|apply Qf|apply Qb|apply QC|apply Qs|apply Qe|(apply Qg;refine Qk rfl ?_)|(apply Qd;first|refine Qq rfl ?_|refine QA rfl rfl ?_)|(apply Qc;first|(refine QD rfl ?_;intro h1 e1 c1)|refine QW rfl ?_|refine QH rfl c1 ?_|refine Qr rfl ls ?_|refine Xd rfl ?_|refine Ql rfl ?_|refine QR rfl rfl ?_|refine XK rfl rfl (by omega) ?_)
  exact⟨.inr rfl,e1,rfl⟩
 by_cases h2:e.1 < -10
 ·rw[show decide (smE e)=false from decide_eq_false fun hf=>by have:=hf.2.1;omega]
  repeat' first|apply Qf|apply Qb|apply QC|apply Qs|apply Qe|(apply Qg;refine Qk rfl ?_)|(apply Qd;first|refine Qq rfl ?_|refine QA rfl rfl ?_)|(apply Qc;first|(refine QD rfl ?_;intro h1 e1 c1)|refine QW rfl ?_|refine QH rfl c1 ?_|refine QN rfl c1 ?_|refine Qr rfl ls ?_|refine Xd rfl ?_|refine QP rfl ?_|refine Ql rfl ?_|refine QR rfl rfl ?_|refine QJ rfl rfl ?_|refine Qx rfl rfl (by omega) ?_|refine XD rfl rfl (by omega) ?_)
  exact⟨.inr rfl,e1,rfl⟩
 by_cases h3:10<e.1
 ·rw[show decide (smE e)=false from decide_eq_false fun hf=>by have:=hf.2.2.1;omega]
  repeat' first|apply Qf|apply Qb|apply QC|apply Qs|apply Qe|(apply Qg;refine Qk rfl ?_)|(apply Qd;first|refine Qq rfl ?_|refine QA rfl rfl ?_)|(apply Qc;first|(refine QD rfl ?_;intro h1 e1 c1)|refine QW rfl ?_|refine QH rfl c1 ?_|refine QN rfl c1 ?_|refine Qr rfl ls ?_|refine QP rfl ?_|refine Ql rfl ?_|refine QJ rfl rfl ?_|refine QF rfl rfl (by omega) ?_|refine XK rfl rfl (by omega) ?_|refine XD rfl rfl (by omega) ?_)
  exact⟨.inr rfl,e1,rfl⟩
 repeat' first|apply Qf|apply Qb|apply Qt|apply Qn|apply Qe|(apply Qg;refine Qi rfl ?_)|(apply Qd;first|refine Qq rfl ?_|refine QA rfl rfl ?_)|(apply Qc;first|(refine QD rfl ?_;intro h1 e1 c1)|refine QW rfl ?_|refine QH rfl c1 ?_|refine QN rfl c1 ?_|refine Qr rfl ls ?_|refine QP rfl ?_|refine Ql rfl ?_|refine QJ rfl rfl ?_|refine QF rfl rfl (by omega) ?_|refine XD rfl rfl (by omega) ?_)
 refine QV (I19 e h0.length s h1) e.2.length (R19 e h1) ⟨0,Gm _,rfl,rfl,by simp,rfl⟩ (Qkg e h0.length s h1 (by omega) c1 (IsSl.ext hs e1)) ?_
 rintro ex E' h4 ⟨rfl,⟨rfl,hf,_,_,_,rfl⟩|⟨rfl,hf,rfl⟩⟩
 ·rw[show decide (smE e)=true from decide_eq_true ⟨by omega,by omega,by omega,hf⟩]
  repeat' first|apply Qf|apply Qb|apply QK|apply Qs|apply Qe|(apply Qd;refine Qq rfl ?_)|(apply Qc;refine Ql rfl ?_)
  exact⟨.inr rfl,e1,rfl⟩
 ·rw[show decide (smE e)=false from decide_eq_false fun hg=>hf hg.2.2.2]
  repeat' first|apply QC|apply Xi
  exact⟨.inr rfl,e1,rfl⟩
def smR(n:Nat)(r:List Ent):Prop:=r.length<=n/\∀ e∈r,smE e
instance (n:Nat) (r:List Ent):Decidable (smR n r):=by unfold smR;infer_instance
def smM(n:Nat)(l:List (List Ent)):Prop:=l.length<=n/\∀ r∈l,smR n r
instance (n:Nat) (l:List (List Ent)):Decidable (smM n l):=by unfold smM;infer_instance
def I10e(r:List Ent)(ls:SV)(n i:Nat)(hb:Qa)(k:Nat)(E:Env)(h:Qa):Prop:=∃ j,j<=r.length/\k=r.length-j/\Ext hb h/\(∀ e∈r.take j,smE e) ∧
 E.keep [0,1,5,6]=[(0,some (.sc ls)),(1,some (.sc (.int .i64 (n:Nat)))),(5,some (.sc (.int .i64 (i:Nat)))),(6,some (.sc (.int .i64 (j:Nat))))]
def R10e(r:List Ent)(ls:SV)(n i:Nat)(hb:Qa)(ex:Ex)(E:Env)(h:Qa):Prop:=Ext hb h/\((ex = .ex 2/\(∀ e∈r,smE e)/\∃ a b,E=[(0,some (.sc ls)),(1,some (.sc (.int .i64 (n:Nat)))),(5,some (.sc (.int .i64 (i:Nat)))),(6,a),(30,b)])∨(ex = .rt/\¬(∀ e∈r,smE e)/\E=[(4,some (.sc (.int .i64 0)))]))
theorem QgT(l:List (List Ent))(r:List Ent)(id off:Nat)(cap:Option Nat)(rs:SV)(n i:Nat)(hb:Qa)(hl:r.length<=n)(hn:n<=1000)(hi:i<l.length)(hl2:l.length<=1000)(rd:Q3 hb id (off+i*1) 1=some [rs])(er:ERow hb rs r)(k:Nat)(E:Env)(h:Qa)(hI:I10e r (.slc id off l.length cap) n i hb k E h) :
  wA FT HKt QmE (E.keep [0,1,5,6]) h (Qp (I10e r (.slc id off l.length cap) n i hb) k (R10e r (.slc id off l.length cap) n i hb)):=by
 obtain⟨j,hj,rfl,x,hall,hE⟩:=hI
 rw[hE]
 have lr:=er.len
 have rd0:=Qw x rd
 by_cases hlt:j<r.length
 ·obtain⟨e,he⟩:∃ e,r[j]?=some e:=⟨_,Ga hlt⟩
  obtain⟨id2,off2,cap2,t,es,rd2,dt⟩:=er.at he
  subst es
  have rd20:=Qw x rd2
  have k19:=QoP h e t (IsSl.ext dt x)
  have hm:=Gg he
  by_cases hs:smE e
  ·simp only[decide_eq_true hs,smN]at k19
   repeat' first|apply Qf|apply Qb|apply Qt|apply QL|apply Qn|apply Qe|(apply Qg;first|refine Qk rfl ?_|refine Qi rfl ?_)|(apply Qd;first|refine QG rfl rfl rfl rfl ?_|refine QO rfl rfl rfl rfl rfl ?_)|(apply Qc;first|(have z:=used;refine Qy (esz:=2) rfl rfl (by omega) ?_)|(refine Qy (esz:=1) rfl rfl (by omega) ?_)|(refine Q1 rfl rd0 ?_;have used:=True.intro)|refine Qr rfl lr ?_|refine XH rfl rd20 ?_|(refine Qj rfl k19 ?_;rintro v h1 ⟨e1,rfl⟩)|refine Xl rfl rfl (by decide) ?_|refine Ql rfl ?_|refine QM rfl rfl (by omega) ?_|refine Qx rfl rfl (by omega) ?_)
   refine Qz (j:=r.length-(j+1)) (by omega) ⟨j+1,by omega,rfl,x.trans e1,fun x hx=>?_,rfl⟩
   rw[GB,he]at hx
   rcases Gy.1 hx with hx|hx
   ·exact hall x hx
   ·simp at hx;subst hx;exact hs
  ·simp only[decide_eq_false hs,smN]at k19
   repeat' first|apply Qf|apply Qb|apply QC|apply Qt|apply Xi|apply Qn|apply Qs|apply Qe|(apply Qg;refine Qk rfl ?_)|(apply Qd;first|refine Qq rfl ?_|refine QO rfl rfl rfl rfl rfl ?_)|(apply Qc;first|(have z:=used;refine Qy (esz:=2) rfl rfl (by omega) ?_)|(refine Qy (esz:=1) rfl rfl (by omega) ?_)|(refine Q1 rfl rd0 ?_;have used:=True.intro)|refine Qr rfl lr ?_|refine XH rfl rd20 ?_|(refine Qj rfl k19 ?_;rintro v h1 ⟨e1,rfl⟩)|refine Xu rfl rfl (by decide) ?_|refine Ql rfl ?_|refine Qx rfl rfl (by omega) ?_)
   exact Xt ⟨x.trans e1,.inr ⟨rfl,fun hf=>hs (hf e hm),rfl⟩⟩
 ·have:j=r.length:=by omega
  subst this
  rw[Gx]at hall
  repeat' first|apply Qf|apply Qb|apply QS|apply QQ|apply Qe|(apply Qg;refine Qi rfl ?_)|(apply Qd;refine QO rfl rfl rfl rfl rfl ?_)|(apply Qc;first|(refine Qy (esz:=1) rfl rfl (by omega) ?_)|(refine Q1 rfl rd0 ?_)|refine Qr rfl lr ?_|refine Ql rfl ?_|refine QF rfl rfl (by omega) ?_)
  exact QB ⟨x,.inl ⟨rfl,hall,_,_,rfl⟩⟩
def I10(l:List (List Ent))(ls:SV)(n:Nat)(hb:Qa)(k:Nat)(E:Env)(h:Qa):Prop:=∃ i,i<=l.length/\k=l.length-i/\Ext hb h/\(∀ r∈l.take i,smR n r) ∧
 E.keep [0,1,5]=[(0,some (.sc ls)),(1,some (.sc (.int .i64 (n:Nat)))),(5,some (.sc (.int .i64 (i:Nat))))]
def R10(l:List (List Ent))(n:Nat)(hb:Qa)(ex:Ex)(E:Env)(h:Qa):Prop:=Ext hb h/\((ex = .ex 0/\(∀ r∈l,smR n r)/\∃ a b c d,E=[(0,a),(1,b),(5,c),(14,d)])∨(ex = .rt/\¬(∀ r∈l,smR n r)/\E=[(4,some (.sc (.int .i64 0)))]))
theorem Qkm(l:List (List Ent))(ls:SV)(n:Nat)(hb:Qa)(hn:n<=1000)(hl:l.length<=n)(em:EMx hb ls l)(k:Nat)(E:Env)(h:Qa)(hI:I10 l ls n hb k E h) :
  wA FT HKt QmF (E.keep [0,1,5]) h (Qp (I10 l ls n hb) k (R10 l n hb)):=by
 obtain⟨i,hi,rfl,x,hall,hE⟩:=hI
 rw[hE]
 have lm:=em.len
 by_cases hlt:i<l.length
 ·obtain⟨r,hr⟩:∃ r,l[i]?=some r:=⟨_,Ga hlt⟩
  obtain⟨id,off,cap,rs,es,rd,er⟩:=em.at hr
  subst es
  have rd0:=Qw x rd
  have lr:=er.len
  have hm:=Gg hr
  by_cases hln:r.length<=n
  ·repeat' first|apply Qf|apply Qb|apply Qt|apply Qn|apply Qe|(apply Qg;first|refine Qk rfl ?_|refine Qi rfl ?_)|(apply Qd;refine QG rfl rfl rfl rfl ?_)|(apply Qc;first|(refine Qy (esz:=1) rfl rfl (by omega) ?_)|(refine Q1 rfl rd0 ?_)|refine Qr rfl lm ?_|refine Qr rfl lr ?_|refine Ql rfl ?_|refine Qx rfl rfl (by omega) ?_|refine XD rfl rfl (by omega) ?_)
   refine QV (I10e r (.slc id off l.length cap) n i h) r.length (R10e r (.slc id off l.length cap) n i h) ⟨0,Gm _,rfl,Ext.refl _,by simp,rfl⟩ (QgT l r id off cap rs n i h hln hn hlt (by omega) rd0 (er.ext x)) ?_
   rintro ex E' h2 ⟨x2,⟨rfl,hf,_,_,rfl⟩|⟨rfl,hf,rfl⟩⟩
   ·repeat' first|apply Qb|apply QL|apply QK|apply Qe|(apply Qd;refine Qu rfl rfl rfl ?_)|(apply Qc;first|refine Ql rfl ?_|refine QM rfl rfl (by omega) ?_)
    refine Qz (j:=l.length-(i+1)) (by omega) ⟨i+1,by omega,rfl,x.trans x2,fun y hy=>?_,rfl⟩
    rw[GB,hr]at hy
    rcases Gy.1 hy with hy|hy
    ·exact hall y hy
    ·simp at hy;subst hy;exact⟨hln,hf⟩
   ·repeat' first|apply QC|apply Xi
    exact Xt ⟨x.trans x2,.inr ⟨rfl,fun hg=>hf (hg r hm).2,rfl⟩⟩
  ·repeat' first|apply Qf|apply Qb|apply QC|apply Qt|apply Xi|apply Qn|apply Qs|apply Qe|(apply Qg;refine Qk rfl ?_)|(apply Qd;first|refine Qq rfl ?_|refine QG rfl rfl rfl rfl ?_)|(apply Qc;first|(refine Qy (esz:=1) rfl rfl (by omega) ?_)|(refine Q1 rfl rd0 ?_)|refine Qr rfl lm ?_|refine Qr rfl lr ?_|refine Ql rfl ?_|refine Qx rfl rfl (by omega) ?_|refine XK rfl rfl (by omega) ?_)
   exact Xt ⟨x,.inr ⟨rfl,fun hg=>hln (hg r hm).1,rfl⟩⟩
 ·have:i=l.length:=by omega
  subst this
  rw[Gx]at hall
  repeat' first|apply Qf|apply Qb|apply QS|apply QQ|apply Qe|(apply Qg;refine Qi rfl ?_)|(apply Qd;refine QG rfl rfl rfl rfl ?_)|(apply Qc;first|refine Qr rfl lm ?_|refine Ql rfl ?_|refine QF rfl rfl (by omega) ?_)
  exact QB ⟨x,.inl ⟨rfl,hall,_,_,_,_,rfl⟩⟩
theorem Qin(h0:Qa)(l:List (List Ent))(ls:SV)(n:Nat)(hn:n<=1000)(em:EMx h0 ls l):∃ r h',Cal FT HKt 10 [.sc ls,.sc (.int .i64 (n:Nat))] h0 r h'/\(Ext h0 h'/\r=smN (decide (smM n l))):=by
 refine Cal.of (F:=a10) rfl rfl rfl ?_
 have lm:=em.len
 by_cases h1:l.length<=n
 ·repeat' first|apply Qf|apply Qb|apply Qt|apply Qn|apply Qe|(apply Qg;refine Qi rfl ?_)|(apply Qd;first|refine QA rfl rfl ?_|refine Qu rfl rfl rfl ?_)|(apply Qc;first|refine Qr rfl lm ?_|refine Ql rfl ?_|refine XD rfl rfl (by omega) ?_)
  refine QV (I10 l ls n h0) l.length (R10 l n h0) ⟨0,Gm _,rfl,Ext.refl _,by simp,rfl⟩ (Qkm l ls n h0 hn h1 em) ?_
  rintro ex E' h4 ⟨x,⟨rfl,hf,_,_,_,_,rfl⟩|⟨rfl,hf,rfl⟩⟩
  ·rw[show decide (smM n l)=true from decide_eq_true ⟨h1,hf⟩]
   repeat' first|apply Qf|apply Qb|apply QK|apply Qs|apply Qe|(apply Qd;refine Qq rfl ?_)|(apply Qc;refine Ql rfl ?_)
   exact⟨.inr rfl,x,rfl⟩
  ·rw[show decide (smM n l)=false from decide_eq_false fun hg=>hf hg.2]
   repeat' first|apply QC|apply Xi
   exact⟨.inr rfl,x,rfl⟩
 ·rw[show decide (smM n l)=false from decide_eq_false fun hg=>h1 hg.1]
  repeat' first|apply Qf|apply Qb|apply QC|apply Qs|apply Qe|(apply Qg;refine Qk rfl ?_)|(apply Qd;first|refine Qq rfl ?_|refine QA rfl rfl ?_|refine Qu rfl rfl rfl ?_)|(apply Qc;first|refine Qr rfl lm ?_|refine Ql rfl ?_|refine XK rfl rfl (by omega) ?_)
  exact⟨.inr rfl,Ext.refl _,rfl⟩
def Yz(l:List (List Ent)):Nat:=(l.getD 0 []).length
def ZP(l:List (List Ent)):Prop:=∀ r∈l,r.length=Yz l
instance (l:List (List Ent)):Decidable (ZP l):=by unfold ZP;infer_instance
def yl(l:List (List Ent)):AV:=if ZP l then .tup [.sc (.int .i64 (l.length:Nat)),.sc (.int .i64 (Yz l:Nat)),.sc (.bool true)] else .tup [.sc (.int .i64 0),.sc (.int .i64 0),.sc (.bool false)]
def I32(l:List (List Ent))(ls:SV)(hb:Qa)(k:Nat)(E:Env)(h:Qa):Prop:=∃ i,i<=l.length/\k=l.length-i/\h=hb/\(∀ r∈l.take i,r.length=Yz l) ∧
 E.keep [0,5]=[(0,some (.sc ls)),(5,some (.sc (.int .i64 (i:Nat))))]
def R32(l:List (List Ent))(ls:SV)(hb:Qa)(ex:Ex)(E:Env)(h:Qa):Prop:=h=hb/\((ex = .ex 0/\ZP l/\∃ a b,E=[(0,some (.sc ls)),(5,a),(12,b)])∨(ex = .rt/\¬ ZP l/\E=[(2,some (.sc (.int .i64 0))),(3,some (.sc (.int .i64 0))),(4,some (.sc (.bool false)))]))
theorem Qkd(l:List (List Ent))(ls:SV)(hb:Qa)(hn:l.length<=1000000)(em:EMx hb ls l)(hl:∀ r∈l,r.length<=1000000)(k:Nat)(E:Env)(h:Qa)(hI:I32 l ls hb k E h) :
  wA FT HKt Qmo (E.keep [0,5]) h (Qp (I32 l ls hb) k (R32 l ls hb)):=by
 obtain⟨i,hi,rfl,rfl,hall,hE⟩:=hI
 rw[hE]
 have lm:=em.len
 by_cases hlt:i<l.length
 ·obtain⟨r,hr⟩:∃ r,l[i]?=some r:=⟨_,Ga hlt⟩
  obtain⟨r0,hr0⟩:∃ r0,l[0]?=some r0:=⟨_,Ga (by omega)⟩
  have hc:Yz l=r0.length:=by unfold Yz;rw[Ge,hr0];rfl
  obtain⟨id,off,cap,rs,es,rd,er⟩:=em.at hr
  obtain⟨id0,off0,cap0,rs0,es0,rd0,er0⟩:=em.at hr0
  subst es
  obtain⟨rfl,rfl,-,rfl⟩:=SV.slc.inj es0
  have lr:=er.len
  have lr0:=er0.len
  have m:=Gg hr
  have b1:=hl r m
  have b0:=hl r0 (Gg hr0)
  by_cases heq:r.length=r0.length
  ·repeat' first|apply Qf|apply Qb|apply Qt|apply QL|apply Qn|apply Qe|apply Q7|apply Xm|apply Xn|(apply Qg;first|refine Qk rfl ?_|refine Qi rfl ?_)|(apply Qd;first|apply Q5|refine QA rfl rfl ?_|refine Qu rfl rfl rfl ?_)|(apply Qc;first|(refine Qy (esz:=1) rfl rfl (by omega) ?_)|refine Q1 rfl rd ?_|refine Q1 rfl rd0 ?_|refine Qr rfl lm ?_|refine Qr rfl lr ?_|refine Qr rfl lr0 ?_|refine XJ rfl rfl (by omega) ?_|refine Ql rfl ?_|refine QM rfl rfl (by omega) ?_|refine Qx rfl rfl (by omega) ?_)
   refine Qz (j:=l.length-(i+1)) (by omega) ⟨i+1,by omega,rfl,rfl,fun x hx=>?_,rfl⟩
   rw[GB,hr]at hx
   rcases Gy.1 hx with hx|hx
   ·exact hall x hx
   ·simp at hx;subst hx;rw[hc];exact heq
  ·repeat' first|apply Qf|apply Qb|apply QC|apply Qt|apply Xi|apply Qn|apply Qs|apply Qe|apply Q7|apply Xm|apply Xn|(apply Qg;refine Qk rfl ?_)|(apply Qd;first|apply Q5|refine Qu rfl rfl rfl ?_)|(apply Qc;first|(refine Qy (esz:=1) rfl rfl (by omega) ?_)|refine Q1 rfl rd ?_|refine Q1 rfl rd0 ?_|refine Qr rfl lm ?_|refine Qr rfl lr ?_|refine Qr rfl lr0 ?_|refine Ya rfl rfl (by omega) ?_|refine Ql rfl ?_|refine Qx rfl rfl (by omega) ?_)
   exact Xt ⟨rfl,.inr ⟨rfl,fun hf=>heq (by rw[← hc];exact hf r m),rfl⟩⟩
 ·have:i=l.length:=by omega
  subst this
  rw[Gx]at hall
  repeat' first|apply Qf|apply Qb|apply QS|apply QQ|apply Qe|(apply Qg;refine Qi rfl ?_)|(apply Qd;refine Qu rfl rfl rfl ?_)|(apply Qc;first|refine Qr rfl lm ?_|refine Ql rfl ?_|refine QF rfl rfl (by omega) ?_)
  exact QB ⟨rfl,.inl ⟨rfl,hall,_,_,rfl⟩⟩
theorem Qdn(h0:Qa)(l:List (List Ent))(ls:SV)(hn:l.length<=1000000)(em:EMx h0 ls l)(hl:∀ r∈l,r.length<=1000000):∃ r h',Cal FT HKt 32 [.sc ls] h0 r h'/\(h'=h0/\r=yl l):=by
 refine Cal.of (F:=a32) rfl rfl rfl ?_
 have lm:=em.len
 rcases l with _|⟨r0,rs⟩
 ·repeat' first|apply Qf|apply Qb|apply QC|apply Qs|apply Qe|(apply Qg;refine Qk rfl ?_)|(apply Qd;first|refine Qq rfl ?_|refine QA rfl rfl ?_|refine Qu rfl rfl rfl ?_)|(apply Qc;first|refine Qr rfl lm ?_|refine Xu rfl rfl rfl ?_|refine Ql rfl ?_)
  exact⟨.inr rfl,rfl,rfl⟩
 ·obtain⟨id0,off0,cap0,rs0,es0,rd0,er0⟩:=em.at (i:=0) (r:=r0) rfl
  subst es0
  have lr0:=er0.len
  have hpos:((r0::rs).length:Int)≠0:=by simp only[Gu];omega
  have hc:Yz (r0::rs)=r0.length:=rfl
  generalize hL:r0::rs=L at *
  repeat' first|apply Qf|apply Qb|apply Qt|apply Qn|apply Qe|(apply Qg;refine Qi rfl ?_)|(apply Qd;first|refine Qq rfl ?_|refine QA rfl rfl ?_)|(apply Qc;first|refine Qr rfl lm ?_|refine Xl rfl rfl hpos ?_|refine Ql rfl ?_)
  refine QV (I32 L (.slc id0 off0 L.length cap0) h0) L.length (R32 L (.slc id0 off0 L.length cap0) h0) ⟨0,Gm _,rfl,rfl,by simp,rfl⟩ (Qkd L _ h0 hn em hl) ?_
  rintro ex E' h4 ⟨rfl,⟨rfl,hf,_,_,rfl⟩|⟨rfl,hf,rfl⟩⟩
  ·have hp:0<L.length:=by omega
   repeat' first|apply Qf|apply Qb|apply QK|apply Qs|apply Q7|apply Xm|apply Xn|(apply Qd;first|apply Q5|refine Qu rfl rfl rfl ?_)|(apply Qc;first|(refine Qy (esz:=1) rfl rfl (by omega) ?_)|refine Q1 rfl rd0 ?_|refine Qr rfl lm ?_|refine Qr rfl lr0 ?_|refine Ql rfl ?_)
   refine⟨.inr rfl,rfl,?_⟩
   unfold yl
   rw[if_pos hf,hc]
  ·repeat' first|apply QC|apply Xi
   refine⟨.inr rfl,rfl,?_⟩
   unfold yl
   rw[if_neg hf]
def sqE(l:List (List Ent)):Prop:=∀ r∈l,r.length=l.length
instance (l:List (List Ent)):Decidable (sqE l):=by unfold sqE;infer_instance
theorem sqE_iff{l:List (List Ent)}:sqE l↔ZP l/\l.length=Yz l:=by
 rcases l with _|⟨r,rs⟩
 ·exact⟨fun _=>⟨fun r h=>by simp at h,rfl⟩,fun _ r h=>by simp at h⟩
 ·have hc:Yz (r::rs)=r.length:=rfl
  constructor
  ·intro h
   have h0:=h r (.head _)
   exact⟨fun q hq=>by rw[hc,h0];exact h q hq,by rw[hc,h0]⟩
  ·rintro⟨h1,h2⟩ q hq
   rw[h2];exact h1 q hq
theorem Qij(h0:Qa)(l:List (List Ent))(ls:SV)(hn:l.length<=1000000)(em:EMx h0 ls l)(hl:∀ r∈l,r.length<=1000000):∃ r h',Cal FT HKt 13 [.sc ls] h0 r h'/\(h'=h0/\r = .sc (.bool (decide (sqE l)))):=by
 refine Cal.of (F:=a13) rfl rfl rfl ?_
 have k32:=Qdn h0 l ls hn em hl
 by_cases hf:ZP l
 ·simp only[yl,if_pos hf]at k32
  by_cases he:l.length=Yz l
  ·rw[decide_eq_true (sqE_iff.2 ⟨hf,he⟩)]
   repeat' first|apply Qf|apply Qb|apply Qs|apply Qe|(apply Qd;first|refine Qq rfl ?_|refine Qu rfl rfl rfl ?_)|(apply Qc;first|(refine Qj rfl k32 ?_;rintro v h1 ⟨rfl,rfl⟩)|refine Xu rfl rfl (by omega) ?_|refine QP rfl ?_|refine Ql rfl ?_|refine QR rfl rfl ?_|refine Xk rfl rfl ?_)
   exact⟨.inr rfl,rfl,rfl⟩
  ·rw[decide_eq_false fun h=>he (sqE_iff.1 h).2]
   repeat' first|apply Qf|apply Qb|apply Qs|apply Qe|(apply Qd;first|refine Qq rfl ?_|refine Qu rfl rfl rfl ?_)|(apply Qc;first|(refine Qj rfl k32 ?_;rintro v h1 ⟨rfl,rfl⟩)|refine Xl rfl rfl (by omega) ?_|refine QP rfl ?_|refine Ql rfl ?_|refine QR rfl rfl ?_|refine Xk rfl rfl ?_)
   exact⟨.inr rfl,rfl,rfl⟩
 ·simp only[yl,if_neg hf]at k32
  rw[decide_eq_false fun h=>hf (sqE_iff.1 h).1]
  repeat' first|apply Qf|apply Qb|apply Qs|apply Qe|(apply Qd;first|refine Qq rfl ?_|refine Qu rfl rfl rfl ?_)|(apply Qc;first|(refine Qj rfl k32 ?_;rintro v h1 ⟨rfl,rfl⟩)|refine Xd rfl ?_|refine Ql rfl ?_|refine QJ rfl rfl ?_|refine Xk rfl rfl ?_)
  exact⟨.inr rfl,rfl,rfl⟩
def PE(e:Ent):Pol:=ofP e.1 e.2
theorem Qk6(h0:Qa)(low:Int)(hlow : -9223372036854775808<=low/\low<=9223372036854775807)(c:SV)(xs:List Int)(hn:xs.length<=1000000)(hc:IsInts h0 c xs)(hw:∀ x∈xs,-9223372036854775808<=x/\x<=9223372036854775807) :
  ∃ r h',Cal FT HKt 20 [.sc (.int .i64 low),.sc c] h0 r h'/\Ext h0 h'/\∃ s,r = .agg [.bool (ofP low xs).big,s]/\OwnD h0 h' s (tms (ofP low xs).ts):=by
 refine Cal.of (F:=a20) rfl rfl rfl ?_
 have lc:=IsSl.len hc
 repeat' first|apply Qf|apply Qb|apply Qt|apply Qe|(apply Qd;first|refine Qu rfl rfl rfl ?_|refine QG rfl rfl rfl rfl ?_|refine QE rfl rfl rfl rfl rfl rfl ?_)|(apply Qc;first|(have z:=e1;apply Xa;intro h2 e2 c2;have d1:=c1.ext e2)|(apply Xa;intro h1 e1 c1)|refine Qr rfl lc ?_|refine Ql rfl ?_)
 have n1:=e1.len
 have n2:=c1.lt
 refine YQ (I20 h0 h0.length h1.length low c xs) (cK [0,4,5,8,9,10] xs.length 10) (R20 h0 h0.length h1.length low xs) ⟨0,[],.nilS,Gm _,rfl,⟨e1.trans e2,d1,c2,.inl ⟨rfl,rfl⟩,Gd _,n1,by omega⟩,rfl⟩ (QdT h0 _ _ low hlow c xs hn hc hw) ?_
 rintro ex E' h3 (⟨rfl,r,s,a,b,c,d,e,hr,st,rfl⟩|⟨rfl,r,s,hr,st,rfl⟩)
 ·have c5:=st.c5
  have c4:=st.c4
  repeat' first|apply Qf|apply Qb|apply QK|apply Qs|apply Qe|(apply Qd;refine Qq rfl ?_)|(apply Qc;first|refine QU rfl c5 ?_|(refine Xg rfl rfl c4 ?_;intro h4 w4))
  refine⟨.inr rfl,Xc rfl w4.cel.read ⟨w4.ext st.e st.l4,s,?_,?_⟩⟩
  ·unfold ofP;rw[hr]
  ·unfold ofP;rw[hr]
   exact st.o.wrC w4
 ·repeat' first|apply QC|apply Xi
  refine⟨.inr rfl,Xc rfl st.c4.read ⟨st.e,.nilS,?_,?_⟩⟩
  ·unfold ofP;rw[hr]
  ·unfold ofP;rw[hr]
   exact .inl ⟨rfl,rfl⟩
theorem Qk3(h0:Qa)(low:Int)(c:SV)(xs:List Int)(hs:QcP low xs)(hc:IsInts h0 c xs):∃ r h',Cal FT HKt 27 [.sc (.int .i64 low),.sc c] h0 r h'/\Ext h0 h'/\∃ s,r = .agg [s,.bool (ofP low xs).big]/\OwnD h0 h' s (tms (ofP low xs).ts):=by
 refine Cal.of (F:=a27) rfl rfl rfl ?_
 repeat' first|apply Qf|apply Qb|apply Qt|apply Qe|(apply Qd;first|refine Qu rfl rfl rfl ?_|refine QG rfl rfl rfl rfl ?_|refine QO rfl rfl rfl rfl rfl ?_)|(apply Qc;first|(have z:=e1;apply Xa;intro h2 e2 c2;have d1:=c1.ext e2;have m1:=c1.lt)|(apply Xa;intro h1 e1 c1)|refine Ql rfl ?_)
 refine YQ (I27 h0 h0.length h1.length low c xs) (cK [0,1,4,5,6] xs.length 6) (R27 h0 h0.length h1.length low xs) ⟨0,[],.nilS,Gm _,rfl,⟨e1.trans e2,d1,c2,.inl ⟨rfl,rfl⟩,⟨Gd _,m1⟩⟩,rfl⟩ (Qke h0 h0.length h1.length low c xs hs hc) ?_
 rintro ex E' h3 (⟨rfl,r,s,_,_,_,_,hr,st,rfl⟩|⟨rfl,hr,e3,c4,rfl⟩)
 ·have c4:=st.c4
  repeat' first|apply Qf|apply Qb|apply QK|apply Qs|apply Qe|(apply Qd;refine Qq rfl ?_)|(apply Qc;first|refine QU rfl st.c5 ?_|(refine Xg rfl rfl c4 ?_;intro h4 w4))
  refine⟨.inr rfl,Xc rfl w4.cel.read ⟨w4.ext st.e (Gd _),s,?_,?_⟩⟩
  ·unfold ofP;rw[hr]
  ·unfold ofP;rw[hr]
   exact st.o.wrC w4
 ·repeat' first|apply QC|apply Xi
  refine⟨.inr rfl,Xc rfl c4.read ⟨e3,.nilS,?_,?_⟩⟩
  ·unfold ofP;rw[hr]
  ·unfold ofP;rw[hr]
   exact .inl ⟨rfl,rfl⟩
theorem QlL(h0:Qa):OwnD h0 (h0++[.cells [] true 2]) (.slc h0.length 0 0 (some 0)) [] :=
 .inr ⟨h0.length,some 0,[],rfl,Gd _,by simp,rfl,by simp[RoomD]⟩
def RowF(f:Pol->SV->P2)(h:Qa)(s:SV)(ps:List Pol):Prop:=∃ ss:List SV,ss.length=ps.length/\IsD h s (List.zipWith f ps ss)/\∀(i:Nat) (p:Pol) (t:SV),ps[i]?=some p->ss[i]?=some t->IsD h t (tms p.ts)
def MxF(f:Pol->SV->P2)(h:Qa)(s:SV)(m:List (List Pol)):Prop:=∃ ss:List SV,ss.length=m.length/\IsSl h s 1 ss.length ss/\∀(i:Nat) (t:SV) (r:List Pol),ss[i]?=some t->m[i]?=some r->RowF f h t r
def fL:Pol->SV->P2:=fun p t=>(SV.bool p.big,t)
def fR:Pol->SV->P2:=fun p t=>(t,SV.bool p.big)
theorem MxF.pol{h:Qa}{s:SV}{m:List (List Pol)}(e:MxF fL h s m):PolMx h s m:=e
theorem RowF.ext{f:Pol->SV->P2}{h h':Qa}{s:SV}{r:List Pol}(e:RowF f h s r)(x:Ext h h'):RowF f h' s r:=by
 obtain⟨ss,h1,h2,h3⟩:=e
 exact⟨ss,h1,h2.ext x,fun i t l a b=>(h3 i t l a b).ext x⟩
theorem MxF.ext{f:Pol->SV->P2}{h h':Qa}{s:SV}{m:List (List Pol)}(e:MxF f h s m)(x:Ext h h'):MxF f h' s m:=by
 obtain⟨ss,h1,h2,h3⟩:=e
 exact⟨ss,h1,h2.ext x,fun i t l a b=>(h3 i t l a b).ext x⟩
structure SRow(f:Pol->SV->P2)(hr h:Qa)(s:SV)(ps:List Pol):Prop where
 x:Ext hr h
 o:∃ ss:List SV,ss.length=ps.length/\OwnD hr h s (List.zipWith f ps ss)/\∀(i:Nat) (p:Pol) (t:SV),ps[i]?=some p->ss[i]?=some t->IsD h t (tms p.ts)/\Apart s t
theorem OwnD.apart{h0 h h2:Qa}{s t:SV}{ps qs:List P2}(o:OwnD h0 h s ps)(q:OwnD h h2 t qs):Apart s t:=by
 intro j
 rcases GD j h.length with hj|hj
 ·exact .inr (q.not hj)
 ·left
  rcases o with ⟨rfl,-⟩|⟨id,cap,bl,rfl,h1,h2',h3⟩
  ·intro o n c e;cases e
  ·intro o n c e;cases e
   have:=(Gb.1 h2').1
   omega
theorem SRow.nil{f:Pol->SV->P2}{hr h:Qa}(x:Ext hr h){s:SV}(o:OwnD hr h s []):SRow f hr h s []:=⟨x,[],rfl,o,fun i p t a b=>by simp at a⟩
theorem SRow.row{f:Pol->SV->P2}{hr h:Qa}{s:SV}{ps:List Pol}(a:SRow f hr h s ps):RowF f h s ps:=by
 obtain⟨ss,h1,h2,h3⟩:=a.o
 exact⟨ss,h1,h2.is,fun i p t x y=>(h3 i p t x y).1⟩
theorem SRow.push{f:Pol->SV->P2}{hr h h2 h3 h4:Qa}{s s' t:SV}{ps:List Pol}{p:Pol}{ss:List SV}(l:ss.length=ps.length)(o:OwnD hr h s (List.zipWith f ps ss))(a:∀(i:Nat) (p:Pol) (t:SV),ps[i]?=some p->ss[i]?=some t->IsD h t (tms p.ts)/\Apart s t)
  (e2:Ext h h2) (q:OwnD h h2 t (tms p.ts)) (e3:Ext h2 h3) (o4:OwnD hr h4 s' (List.zipWith f ps ss++[f p t])) (x4:Ext hr h4) (fr:Fram h3 h4 s s'):SRow f hr h4 s' (ps++[p]):=by
 refine⟨x4,ss++[t],by simp[l],?_,fun i r u hi hu=>?_⟩
 ·rw[List.zipWith_append l.symm];exact o4
 ·rcases GD i ps.length with h1|h1
  ·rw[Gn h1]at hi
   rw[Gn (by omega)]at hu
   obtain⟨d,ap⟩:=a i r u hi hu
   have d3:=(d.ext e2).ext e3
   exact⟨IsSl.away d3 fr ap,fr.apart d3 ap⟩
  ·obtain rfl:i=ps.length:=by have:=(Gb.1 hi).1;simp at this;omega
   rw[Gi (Gd _),G1]at hi
   rw[Gi (by omega),l,G1]at hu
   simp at hi hu;subst hi;subst hu
   have d3:=q.is.ext e3
   have ap:=OwnD.apart o q
   exact⟨IsSl.away d3 fr ap,fr.apart d3 ap⟩
structure SMx(f:Pol->SV->P2)(hb h:Qa)(s:SV)(m:List (List Pol)):Prop where
 x:Ext hb h
 o:∃ vs:List SV,vs.length=m.length/\Own hb h s vs/\∀(i:Nat) (t:SV) (r:List Pol),vs[i]?=some t->m[i]?=some r->RowF f h t r
theorem SMx.ext{f:Pol->SV->P2}{hb h h':Qa}{s:SV}{m:List (List Pol)}(a:SMx f hb h s m)(e:Ext h h'):SMx f hb h' s m:=by
 obtain⟨vs,h1,h2,h3⟩:=a.o
 exact⟨a.x.trans e,vs,h1,h2.ext e,fun i t r x y=>(h3 i t r x y).ext e⟩
theorem SMx.mx{f:Pol->SV->P2}{hb h:Qa}{s:SV}{m:List (List Pol)}(a:SMx f hb h s m):MxF f h s m:=by
 obtain⟨vs,h1,h2,h3⟩:=a.o
 exact⟨vs,h1,h2.sl,h3⟩
theorem RowF.away{f:Pol->SV->P2}{hb h h':Qa}{s s' t:SV}{vs:List SV}{r:List Pol}(a:RowF f h t r)(o:Own hb h s vs)(fr:Fram h h' s s'):RowF f h' t r:=by
 obtain⟨ss,h1,h2,h3⟩:=a
 exact⟨ss,h1,IsSl.away h2 fr (Own.apD o h2),fun i p u x y=>IsSl.away (h3 i p u x y) fr (Own.apD o (h3 i p u x y))⟩
theorem SMx.push{f:Pol->SV->P2}{hb h h':Qa}{s s' t:SV}{m:List (List Pol)}{r:List Pol}{vs:List SV}(l:vs.length=m.length)(o:Own hb h s vs)(a:∀(i:Nat) (t:SV) (r:List Pol),vs[i]?=some t->m[i]?=some r->RowF f h t r)
  (q:RowF f h t r) (o4:Own hb h' s' (vs++[t])) (x4:Ext hb h') (fr:Fram h h' s s'):SMx f hb h' s' (m++[r]):=by
 refine⟨x4,vs++[t],by simp[l],o4,fun i u p hu hp=>?_⟩
 rcases GD i m.length with h1|h1
 ·rw[Gn (by omega)]at hu
  rw[Gn h1]at hp
  exact(a i u p hu hp).away o fr
 ·obtain rfl:i=m.length:=by have:=(Gb.1 hp).1;simp at this;omega
  rw[Gi (Gd _),G1]at hp
  rw[Gi (by omega),l,G1]at hu
  simp at hu hp;subst hu;subst hp
  exact q.away o fr
def I12e(r:List Ent)(ls a3:AV)(i:Nat)(hr:Qa)(k:Nat)(E:Env)(h:Qa):Prop:=∃ j s,j<=r.length/\k=r.length-j/\SRow fL hr h s ((r.take j).map PE) ∧
 E.keep [0,3,4,5,6]=[(0,some ls),(3,some a3),(4,some (.sc (.int .i64 (i:Nat)))),(5,some (.sc s)),(6,some (.sc (.int .i64 (j:Nat))))]
def R12e(r:List Ent)(ls a3:AV)(i:Nat)(hr:Qa)(ex:Ex)(E:Env)(h:Qa):Prop:=ex = .ex 2/\∃ s a b,SRow fL hr h s (r.map PE)/\E=[(0,some ls),(3,some a3),(4,some (.sc (.int .i64 (i:Nat)))),(5,some (.sc s)),(6,a),(21,b)]
theorem QgP(l:List (List Ent))(r:List Ent)(id off:Nat)(cap:Option Nat)(rs:SV)(a3:AV)(i:Nat)(hr:Qa)(hi:i<l.length)(hl2:l.length<=1000)(hrl:r.length<=1000)(rd:Q3 hr id (off+i*1) 1=some [rs])(er:ERow hr rs r)(ok:∀ e∈r,smE e)(k:Nat)(E:Env)(h:Qa)(hI:I12e r (.sc (.slc id off l.length cap)) a3 i hr k E h) :
  wA FT HKt QmB (E.keep [0,3,4,5,6]) h (Qp (I12e r (.sc (.slc id off l.length cap)) a3 i hr) k (R12e r (.sc (.slc id off l.length cap)) a3 i hr)):=by
 obtain⟨j,s,hj,rfl,sr,hE⟩:=hI
 rw[hE]
 have lr:=er.len
 have rd0:=Qw sr.x rd
 by_cases hlt:j<r.length
 ·obtain⟨e,he⟩:∃ e,r[j]?=some e:=⟨_,Ga hlt⟩
  obtain⟨id2,off2,cap2,t,es,rd2,dt⟩:=er.at he
  subst es
  have rd20:=Qw sr.x rd2
  have rda:=(rd1 rd20).1
  have rdb:=(rd1 rd20).2
  obtain⟨k1,k2,k3,k4⟩:=ok e (Gg he)
  have k20:=Qk6 h e.1 (by omega) t e.2 (by omega) (IsSl.ext dt sr.x) (fun x hx=>by have:=k4 x hx;omega)
  obtain⟨ss,o1,o2,o3⟩:=sr.o
  have lz:(List.zipWith fL ((r.take j).map PE) ss).length<=1000:=by rw[G7,o1,Hw,Gj,GJ];omega
  repeat' first|apply Qf|apply Qb|apply Qt|apply QL|apply Qn|apply Qe|apply Q7|apply Xm|apply Xn|(apply Qg;refine Qk rfl ?_)|(apply Qd;first|apply Q5|apply Xw|refine QO rfl rfl rfl rfl rfl ?_|refine QE rfl rfl rfl rfl rfl rfl ?_)|(apply Qc;first|(have z:=used;refine Qy (esz:=2) rfl rfl (by omega) ?_)|(refine Qy (esz:=1) rfl rfl (by omega) ?_)|(refine Q1 rfl rd0 ?_;have used:=True.intro)|refine Qr rfl lr ?_|refine QW rfl ?_|refine Q1 rfl rda ?_|refine Q1 rfl rdb ?_|(refine Qj rfl k20 ?_;rintro v h1 ⟨e1,t1,rfl,q1⟩)|(refine qU rfl ?_;intro h3 e3 s3)|(refine JG ((sr.x.trans e1).trans e3) ((o2.ext e1).ext e3) rfl rfl s3 (by unfold XS;omega) ?_;intro s4 h4 o4 x4 fr4 l4)|refine Ql rfl ?_|refine QM rfl rfl (by omega) ?_|refine Qx rfl rfl (by omega) ?_)
  have sr4:SRow fL hr h4 s4 ((r.take (j+1)).map PE):=by
   rw[GB,he,GW]
   exact SRow.push o1 o2 o3 e1 q1 e3 o4 x4 fr4
  exact Qz (j:=r.length-(j+1)) (by omega) ⟨j+1,s4,by omega,rfl,sr4,rfl⟩
 ·have:j=r.length:=by omega
  subst this
  rw[Gx]at sr
  repeat' first|apply Qf|apply Qb|apply QS|apply QQ|apply Qe|(apply Qg;refine Qi rfl ?_)|(apply Qd;refine QE rfl rfl rfl rfl rfl rfl ?_)|(apply Qc;first|(refine Qy (esz:=1) rfl rfl (by omega) ?_)|(refine Q1 rfl rd0 ?_)|refine Qr rfl lr ?_|refine Ql rfl ?_|refine QF rfl rfl (by omega) ?_)
  exact QB ⟨rfl,s,_,_,sr,rfl⟩
def I12(l:List (List Ent))(ls:SV)(hb:Qa)(k:Nat)(E:Env)(h:Qa):Prop:=∃ i s,i<=l.length/\k=l.length-i/\SMx fL hb h s ((l.take i).map fun r=>r.map PE) ∧
 E.keep [0,3,4]=[(0,some (.sc ls)),(3,some (.sc s)),(4,some (.sc (.int .i64 (i:Nat))))]
def R12(l:List (List Ent))(hb:Qa)(ex:Ex)(E:Env)(h:Qa):Prop:=ex = .ex 0/\∃ s a b c,SMx fL hb h s (l.map fun r=>r.map PE)/\E=[(0,a),(3,some (.sc s)),(4,b),(11,c)]
theorem Qkk(l:List (List Ent))(ls:SV)(hb:Qa)(hl:l.length<=1000)(em:EMx hb ls l)(ok:∀ r∈l,r.length<=1000/\∀ e∈r,smE e)(k:Nat)(E:Env)(h:Qa)(hI:I12 l ls hb k E h) :
  wA FT HKt QmC (E.keep [0,3,4]) h (Qp (I12 l ls hb) k (R12 l hb)):=by
 obtain⟨i,s,hi,rfl,sm,hE⟩:=hI
 rw[hE]
 have lm:=em.len
 by_cases hlt:i<l.length
 ·obtain⟨r,hr⟩:∃ r,l[i]?=some r:=⟨_,Ga hlt⟩
  obtain⟨id,off,cap,rs,es,rd,er⟩:=em.at hr
  subst es
  have rd0:=Qw sm.x rd
  obtain⟨ok1,ok2⟩:=ok r (Gg hr)
  repeat' first|apply Qf|apply Qb|apply Qt|apply Qn|apply Qe|(apply Qg;refine Qk rfl ?_)|(apply Qd;first|refine QG rfl rfl rfl rfl ?_|refine QO rfl rfl rfl rfl rfl ?_)|(apply Qc;first|refine Qr rfl lm ?_|refine Ql rfl ?_|refine Qx rfl rfl (by omega) ?_|refine Xk rfl rfl ?_)
  refine QV (I12e r (.sc (.slc id off l.length cap)) (.sc s) i h) r.length (R12e r (.sc (.slc id off l.length cap)) (.sc s) i h) ⟨0,_,Gm _,rfl,SRow.nil ⟨_,rfl⟩ (QlL h),rfl⟩ (QgP l r id off cap rs (.sc s) i h hlt hl ok1 rd0 (er.ext sm.x) ok2) ?_
  rintro ex E' h2 ⟨rfl,s2,_,_,sr,rfl⟩
  have sm2:=sm.ext sr.x
  obtain⟨vs,o1,o2,o3⟩:=sm2.o
  have lz:vs.length<=1000:=by rw[o1,Gj,GJ];omega
  repeat' first|apply Qb|apply QL|apply QK|apply Qe|(apply Qd;refine Qu rfl rfl rfl ?_)|(apply Qc;first|(refine Qa4 rfl ?_;intro h3 e3 s3)|(refine Qag (ws:=[s2]) (sm2.x.trans e3) (o2.ext e3) rfl rfl s3 (by simp only[Gu,GC];unfold XS;omega) ?_;intro s5 h5 o5 x5 l5 fr5)|refine Ql rfl ?_|refine QM rfl rfl (by omega) ?_)
  have sm5:SMx fL hb h5 s5 ((l.take (i+1)).map fun r=>r.map PE):=by
   rw[GB,hr,GW]
   exact SMx.push o1 (o2.ext e3) (fun i t r x y=>(o3 i t r x y).ext e3) (sr.row.ext e3) o5 x5 fr5
  exact Qz (j:=l.length-(i+1)) (by omega) ⟨i+1,s5,by omega,rfl,sm5,rfl⟩
 ·have:i=l.length:=by omega
  subst this
  rw[Gx]at sm
  repeat' first|apply Qf|apply Qb|apply QS|apply QQ|apply Qe|(apply Qg;refine Qi rfl ?_)|(apply Qd;refine QG rfl rfl rfl rfl ?_)|(apply Qc;first|refine Qr rfl lm ?_|refine Ql rfl ?_|refine QF rfl rfl (by omega) ?_)
  exact QB ⟨rfl,s,_,_,_,sm,rfl⟩
theorem Qik(h0:Qa)(l:List (List Ent))(ls:SV)(hl:l.length<=1000)(em:EMx h0 ls l)(ok:∀ r∈l,r.length<=1000/\∀ e∈r,smE e):∃ r h',Cal FT HKt 12 [.sc ls] h0 r h'/\(Ext h0 h'/\∃ s,r = .sc s/\SMx fL h0 h' s (l.map fun r=>r.map PE)):=by
 refine Cal.of (F:=a12) rfl rfl rfl ?_
 repeat' first|apply Qf|apply Qb|apply Qt|apply Qe|(apply Qd;first|refine Qq rfl ?_|refine QA rfl rfl ?_|refine Qu rfl rfl rfl ?_)|(apply Qc;first|refine Ql rfl ?_|refine Xk rfl rfl ?_)
 refine QV (I12 l ls h0) l.length (R12 l h0) ⟨0,_,Gm _,rfl,⟨⟨_,rfl⟩,[],rfl,Own.lit0 h0,fun i t r a=>by simp at a⟩,rfl⟩ (Qkk l ls h0 hl em ok) ?_
 rintro ex E' h2 ⟨rfl,s2,_,_,_,sm,rfl⟩
 repeat' first|apply Qf|apply Qb|apply QK|apply Qs|apply Qe|(apply Qd;refine Qq rfl ?_)|(apply Qc;refine Ql rfl ?_)
 exact⟨.inr rfl,sm.x,s2,rfl,sm⟩
def I18e(r:List Ent)(ls a3:AV)(i:Nat)(hr:Qa)(k:Nat)(E:Env)(h:Qa):Prop:=∃ j s,j<=r.length/\k=r.length-j/\SRow fR hr h s ((r.take j).map PE) ∧
 E.keep [0,3,4,5,6]=[(0,some ls),(3,some a3),(4,some (.sc (.int .i64 (i:Nat)))),(5,some (.sc s)),(6,some (.sc (.int .i64 (j:Nat))))]
def R18e(r:List Ent)(ls a3:AV)(i:Nat)(hr:Qa)(ex:Ex)(E:Env)(h:Qa):Prop:=ex = .ex 2/\∃ s a b,SRow fR hr h s (r.map PE)/\E=[(0,some ls),(3,some a3),(4,some (.sc (.int .i64 (i:Nat)))),(5,some (.sc s)),(6,a),(21,b)]
theorem QgL(l:List (List Ent))(r:List Ent)(id off:Nat)(cap:Option Nat)(rs:SV)(a3:AV)(i:Nat)(hr:Qa)(hi:i<l.length)(hl2:l.length<=1000)(hrl:r.length<=1000)(rd:Q3 hr id (off+i*1) 1=some [rs])(er:ERow hr rs r)(ok:∀ e∈r,smE e)(k:Nat)(E:Env)(h:Qa)(hI:I18e r (.sc (.slc id off l.length cap)) a3 i hr k E h) :
  wA FT HKt Qmx (E.keep [0,3,4,5,6]) h (Qp (I18e r (.sc (.slc id off l.length cap)) a3 i hr) k (R18e r (.sc (.slc id off l.length cap)) a3 i hr)):=by
 obtain⟨j,s,hj,rfl,sr,hE⟩:=hI
 rw[hE]
 have lr:=er.len
 have rd0:=Qw sr.x rd
 by_cases hlt:j<r.length
 ·obtain⟨e,he⟩:∃ e,r[j]?=some e:=⟨_,Ga hlt⟩
  obtain⟨id2,off2,cap2,t,es,rd2,dt⟩:=er.at he
  subst es
  have rd20:=Qw sr.x rd2
  have rda:=(rd1 rd20).1
  have rdb:=(rd1 rd20).2
  obtain⟨k1,k2,k3,k4⟩:=ok e (Gg he)
  have k20:=Qk3 h e.1 t e.2 ⟨by omega,by omega,by omega,fun x hx=>by have:=k4 x hx;unfold smC;omega⟩ (IsSl.ext dt sr.x)
  obtain⟨ss,o1,o2,o3⟩:=sr.o
  have lz:(List.zipWith fR ((r.take j).map PE) ss).length<=1000:=by rw[G7,o1,Hw,Gj,GJ];omega
  repeat' first|apply Qf|apply Qb|apply Qt|apply QL|apply Qn|apply Qe|apply Q7|apply Xm|apply Xn|(apply Qg;refine Qk rfl ?_)|(apply Qd;first|apply Q5|apply Xw|refine QO rfl rfl rfl rfl rfl ?_|refine QE rfl rfl rfl rfl rfl rfl ?_)|(apply Qc;first|(have z:=used;refine Qy (esz:=2) rfl rfl (by omega) ?_)|(refine Qy (esz:=1) rfl rfl (by omega) ?_)|(refine Q1 rfl rd0 ?_;have used:=True.intro)|refine Qr rfl lr ?_|refine QW rfl ?_|refine Q1 rfl rda ?_|refine Q1 rfl rdb ?_|(refine Qj rfl k20 ?_;rintro v h1 ⟨e1,t1,rfl,q1⟩)|(refine qU rfl ?_;intro h3 e3 s3)|(refine JG ((sr.x.trans e1).trans e3) ((o2.ext e1).ext e3) rfl rfl s3 (by unfold XS;omega) ?_;intro s4 h4 o4 x4 fr4 l4)|refine Ql rfl ?_|refine QM rfl rfl (by omega) ?_|refine Qx rfl rfl (by omega) ?_)
  have sr4:SRow fR hr h4 s4 ((r.take (j+1)).map PE):=by
   rw[GB,he,GW]
   exact SRow.push o1 o2 o3 e1 q1 e3 o4 x4 fr4
  exact Qz (j:=r.length-(j+1)) (by omega) ⟨j+1,s4,by omega,rfl,sr4,rfl⟩
 ·have:j=r.length:=by omega
  subst this
  rw[Gx]at sr
  repeat' first|apply Qf|apply Qb|apply QS|apply QQ|apply Qe|(apply Qg;refine Qi rfl ?_)|(apply Qd;refine QE rfl rfl rfl rfl rfl rfl ?_)|(apply Qc;first|(refine Qy (esz:=1) rfl rfl (by omega) ?_)|(refine Q1 rfl rd0 ?_)|refine Qr rfl lr ?_|refine Ql rfl ?_|refine QF rfl rfl (by omega) ?_)
  exact QB ⟨rfl,s,_,_,sr,rfl⟩
def I18(l:List (List Ent))(ls:SV)(hb:Qa)(k:Nat)(E:Env)(h:Qa):Prop:=∃ i s,i<=l.length/\k=l.length-i/\SMx fR hb h s ((l.take i).map fun r=>r.map PE) ∧
 E.keep [0,3,4]=[(0,some (.sc ls)),(3,some (.sc s)),(4,some (.sc (.int .i64 (i:Nat))))]
def R18(l:List (List Ent))(hb:Qa)(ex:Ex)(E:Env)(h:Qa):Prop:=ex = .ex 0/\∃ s a b c,SMx fR hb h s (l.map fun r=>r.map PE)/\E=[(0,a),(3,some (.sc s)),(4,b),(11,c)]
theorem Qkh(l:List (List Ent))(ls:SV)(hb:Qa)(hl:l.length<=1000)(em:EMx hb ls l)(ok:∀ r∈l,r.length<=1000/\∀ e∈r,smE e)(k:Nat)(E:Env)(h:Qa)(hI:I18 l ls hb k E h) :
  wA FT HKt Qmy (E.keep [0,3,4]) h (Qp (I18 l ls hb) k (R18 l hb)):=by
 obtain⟨i,s,hi,rfl,sm,hE⟩:=hI
 rw[hE]
 have lm:=em.len
 by_cases hlt:i<l.length
 ·obtain⟨r,hr⟩:∃ r,l[i]?=some r:=⟨_,Ga hlt⟩
  obtain⟨id,off,cap,rs,es,rd,er⟩:=em.at hr
  subst es
  have rd0:=Qw sm.x rd
  obtain⟨ok1,ok2⟩:=ok r (Gg hr)
  repeat' first|apply Qf|apply Qb|apply Qt|apply Qn|apply Qe|(apply Qg;refine Qk rfl ?_)|(apply Qd;first|refine QG rfl rfl rfl rfl ?_|refine QO rfl rfl rfl rfl rfl ?_)|(apply Qc;first|refine Qr rfl lm ?_|refine Ql rfl ?_|refine Qx rfl rfl (by omega) ?_|refine Xk rfl rfl ?_)
  refine QV (I18e r (.sc (.slc id off l.length cap)) (.sc s) i h) r.length (R18e r (.sc (.slc id off l.length cap)) (.sc s) i h) ⟨0,_,Gm _,rfl,SRow.nil ⟨_,rfl⟩ (QlL h),rfl⟩ (QgL l r id off cap rs (.sc s) i h hlt hl ok1 rd0 (er.ext sm.x) ok2) ?_
  rintro ex E' h2 ⟨rfl,s2,_,_,sr,rfl⟩
  have sm2:=sm.ext sr.x
  obtain⟨vs,o1,o2,o3⟩:=sm2.o
  have lz:vs.length<=1000:=by rw[o1,Gj,GJ];omega
  repeat' first|apply Qb|apply QL|apply QK|apply Qe|(apply Qd;refine Qu rfl rfl rfl ?_)|(apply Qc;first|(refine Qa4 rfl ?_;intro h3 e3 s3)|(refine Qag (ws:=[s2]) (sm2.x.trans e3) (o2.ext e3) rfl rfl s3 (by simp only[Gu,GC];unfold XS;omega) ?_;intro s5 h5 o5 x5 l5 fr5)|refine Ql rfl ?_|refine QM rfl rfl (by omega) ?_)
  have sm5:SMx fR hb h5 s5 ((l.take (i+1)).map fun r=>r.map PE):=by
   rw[GB,hr,GW]
   exact SMx.push o1 (o2.ext e3) (fun i t r x y=>(o3 i t r x y).ext e3) (sr.row.ext e3) o5 x5 fr5
  exact Qz (j:=l.length-(i+1)) (by omega) ⟨i+1,s5,by omega,rfl,sm5,rfl⟩
 ·have:i=l.length:=by omega
  subst this
  rw[Gx]at sm
  repeat' first|apply Qf|apply Qb|apply QS|apply QQ|apply Qe|(apply Qg;refine Qi rfl ?_)|(apply Qd;refine QG rfl rfl rfl rfl ?_)|(apply Qc;first|refine Qr rfl lm ?_|refine Ql rfl ?_|refine QF rfl rfl (by omega) ?_)
  exact QB ⟨rfl,s,_,_,_,sm,rfl⟩
theorem Qii(h0:Qa)(l:List (List Ent))(ls:SV)(hl:l.length<=1000)(em:EMx h0 ls l)(ok:∀ r∈l,r.length<=1000/\∀ e∈r,smE e):∃ r h',Cal FT HKt 18 [.sc ls] h0 r h'/\(Ext h0 h'/\∃ s,r = .sc s/\SMx fR h0 h' s (l.map fun r=>r.map PE)):=by
 refine Cal.of (F:=a18) rfl rfl rfl ?_
 repeat' first|apply Qf|apply Qb|apply Qt|apply Qe|(apply Qd;first|refine Qq rfl ?_|refine QA rfl rfl ?_|refine Qu rfl rfl rfl ?_)|(apply Qc;first|refine Ql rfl ?_|refine Xk rfl rfl ?_)
 refine QV (I18 l ls h0) l.length (R18 l h0) ⟨0,_,Gm _,rfl,⟨⟨_,rfl⟩,[],rfl,Own.lit0 h0,fun i t r a=>by simp at a⟩,rfl⟩ (Qkh l ls h0 hl em ok) ?_
 rintro ex E' h2 ⟨rfl,s2,_,_,_,sm,rfl⟩
 repeat' first|apply Qf|apply Qb|apply QK|apply Qs|apply Qe|(apply Qd;refine Qq rfl ?_)|(apply Qc;refine Ql rfl ?_)
 exact⟨.inr rfl,sm.x,s2,rfl,sm⟩
theorem RowF.len{f:Pol->SV->P2}{h:Qa}{s:SV}{r:List Pol}(e:RowF f h s r):Yh false s=some (r.length:Int):=by
 obtain⟨ss,h1,h2,-⟩:=e
 have:=h2.len
 rwa [G7,h1,Hw]at this
theorem MxF.len{f:Pol->SV->P2}{h:Qa}{s:SV}{m:List (List Pol)}(e:MxF f h s m):Yh false s=some (m.length:Int):=by
 obtain⟨ss,h1,h2,-⟩:=e
 rw[← h1];exact IsSl.len h2
theorem RowF.at{f:Pol->SV->P2}{h:Qa}{s:SV}{r:List Pol}(e:RowF f h s r){i:Nat}{p:Pol}(hi:r[i]?=some p):∃ id off cap t,s = .slc id off r.length cap/\Q3 h id (off+i*2) 2=some [(f p t).1,(f p t).2]/\IsD h t (tms p.ts):=by
 obtain⟨ss,h1,h2,h3⟩:=e
 have hl:=(Gb.1 hi).1
 obtain⟨t,ht⟩:∃ t,ss[i]?=some t:=⟨_,Ga (by omega)⟩
 obtain⟨id,off,cap,e1,rd⟩:=h2.at (i:=i) (p:=f p t) (by rw[List.getElem?_zipWith,hi,ht])
 rw[G7,h1,Hw]at e1
 exact⟨id,off,cap,t,e1,rd,h3 i p t hi ht⟩
theorem MxF.at{f:Pol->SV->P2}{h:Qa}{s:SV}{m:List (List Pol)}(e:MxF f h s m){i:Nat}{r:List Pol}(hi:m[i]?=some r):∃ id off cap t,s = .slc id off m.length cap/\Q3 h id (off+i*1) 1=some [t]/\RowF f h t r:=by
 obtain⟨ss,h1,h2,h3⟩:=e
 have hl:=(Gb.1 hi).1
 obtain⟨t,ht⟩:∃ t,ss[i]?=some t:=⟨_,Ga (by omega)⟩
 obtain⟨id,off,cap,e1,rd⟩:=h2.at ht
 rw[h1]at e1
 exact⟨id,off,cap,t,e1,rd,h3 i t r ht hi⟩
end Go.Proofs.YtofknpknogfijaaGreatDoor
namespace Go.Proofs.YtofknpknogfijaaGreatDoor
open Go.Ab
set_option linter.all false
variable [HB]
def KZ(h h':Qa):Prop:=h.length<=h'.length/\∀(j:Nat) (b:Blk),h[j]?=some b->b.esz≠0->h'[j]?=some b
theorem KZ.trans{a b c:Qa}(x:KZ a b)(y:KZ b c):KZ a c:=⟨Gq x.1 y.1,fun j u h h0=>y.2 j u (x.2 j u h h0) h0⟩
structure SRowZ(f:Pol->SV->P2)(h0 hr h:Qa)(s:SV)(ps:List Pol):Prop where
 x:Ext h0 h
 z:KZ hr h
 nt:∀ j,j<hr.length->XW s j
 o:∃ ss:List SV,ss.length=ps.length/\OwnD h0 h s (List.zipWith f ps ss)/\∀(i:Nat) (p:Pol) (t:SV),ps[i]?=some p->ss[i]?=some t->IsD h t (tms p.ts)/\Apart s t
def NoI(bl:List SV):Prop:=∀ v∈bl,∀(k:IntKind) (n:Int),v ≠ .int k n
theorem NoI.app{a b:List SV}(x:NoI a)(y:NoI b):NoI (a++b):=fun v hv=>(Gy.1 hv).elim (x v) (y v)
def KI(h h':Qa):Prop:=h.length<=h'.length/\∀(j:Nat) (b:Blk),h[j]?=some b->h'[j]?=some b∨∃ b',h'[j]?=some b'/\b'.esz=b.esz/\(b.esz≠2∨∃ bl,b = .cells bl true 2/\NoI bl)
theorem KI.trans{a b c:Qa}(x:KI a b)(y:KI b c):KI a c:=by
 refine⟨Gq x.1 y.1,fun j u hu=>?_⟩
 rcases x.2 j u hu with h1|⟨b',h1,h2,h3⟩
 ·exact y.2 j u h1
 ·rcases y.2 j b' h1 with h4|⟨b2,h4,h5,h6⟩
  ·exact .inr ⟨b',h4,h2,h3⟩
  ·exact .inr ⟨b2,h4,h5.trans h2,h3⟩
theorem KI.set{h:Qa}{q:Nat}{b b':Blk}(hb:h[q]?=some b)(he:b'.esz=b.esz)(hn:b.esz≠2∨∃ bl,b = .cells bl true 2/\NoI bl):KI h (h.set q b'):=by
 refine⟨by simp,fun j u hj=>?_⟩
 by_cases e:j=q
 ·subst e
  rw[hb]at hj
  obtain rfl:=Option.some.inj hj
  exact .inr ⟨b',GA (Gb.1 hb).1,he,hn⟩
 ·left;rw[Gk (Ne.symm e)];exact hj
theorem QjK{ts:List Tm}{v:SV}(h:v∈prs (tms ts)):∃ n,v = .int .i64 n:=by
 induction ts with
 | nil=>cases h
 | cons t ts ih =>
  rcases GO.1 h with h|h
  ·exact⟨_,h⟩
  ·rcases GO.1 h with h|h
   ·exact⟨_,h⟩
   ·exact ih h
theorem IsD.ki{h h':Qa}{t:SV}{ts:List Tm}(d:IsD h t (tms ts))(k:KI h h'):IsD h' t (tms ts):=by
 rcases d with d|⟨id,off,cap,b,rfl,h1,h2,h3,h4⟩
 ·exact .inl d
 ·rcases k.2 id b h1 with h5|⟨b',h5,h6,h7⟩
  ·exact .inr ⟨id,off,cap,b,rfl,h5,h2,h3,h4⟩
  ·refine .inr ⟨id,off,cap,b',rfl,h5,h6.trans h2,h3,fun hp=>?_⟩
   exfalso
   obtain⟨cs,rw',e1,e2⟩:=h4 hp
   rcases h7 with h7|⟨bl,h7,h8⟩
   ·exact h7 h2
   ·rw[e1]at h7
    obtain rfl:cs=bl:=(Blk.cells.inj h7).1
    unfold cut at e2
    split at e2
    ·have e3:=Option.some.inj e2
     have hne:tms ts≠[]:=fun e=>by rw[e]at hp;simp at hp
     obtain⟨v,hv⟩:∃ v,v∈prs (tms ts):=by
      cases ts with
      | nil=>exact absurd rfl hne
      | cons t ts=>exact⟨_,.head _⟩
     obtain⟨n,e⟩:=QjK hv
     rw[← e3]at hv
     exact h8 v (List.mem_of_mem_drop (List.mem_of_mem_take hv)) .i64 n e
    ·cases e2
theorem IsD.noint{h:Qa}{t:SV}{ps:List P2}(d:IsD h t ps)(k:IntKind)(n:Int):t ≠ .int k n:=by
 rcases d with ⟨rfl,-⟩|⟨id,off,cap,b,rfl,-⟩
 ·intro e;cases e
 ·intro e;cases e
def OwnX(lo:Nat)(h:Qa)(s:SV)(ps:List P2):Prop:=∃ id cap,s = .slc id 0 ps.length cap/\lo<=id/\h[id]?=some (.cells (prs ps) true 2)/\(cap=none∨cap=some ps.length)/\NoI (prs ps)
theorem OwnX.is{lo:Nat}{h:Qa}{s:SV}{ps:List P2}(o:OwnX lo h s ps):IsD h s ps:=by
 obtain⟨id,cap,rfl,b,c,d,e⟩:=o
 have hl:=Zl ps
 refine .inr ⟨id,0,cap,_,rfl,c,rfl,fun h0=>?_,fun _=>⟨_,_,rfl,?_⟩⟩
 ·have:ps=[]:=Gw h0
  rw[this];rfl
 ·unfold cut
  rw[show ESz.n 2=2 from rfl,if_pos (by omega),Hi,GG (by omega)]
section
variable {FT:zzA} {HK:zzH} {E:Env} {h h0:Qa} {K:Env->Qa->Prop} {d:Option Nat} {r:List AOp} {x y xo so:AO} {m n:Int}
theorem k_stX{id i:Nat}{a b:SV}{ps:List P2}{p:AO}(ha:evS E p=some (.ptr id (0+i*2)))(hx:ev E x=some (.agg [a,b]))(hc:h[id]?=some (.cells (prs ps) true 2))(hi:i<ps.length)
  (hw:∀ h1,h1=h.set id (.cells (prs (ps.set i (a,b))) true 2)->Qm FT HK r (Qv d none E) h1 K):Qm FT HK (⟨d,.st 2 p x,none⟩::r) E h K:=by
 refine Q2 (v:=none) (h':=h.set id (.cells (prs (ps.set i (a,b))) true 2)) rfl rfl ?_ (hw _ rfl)
 have hl:=Zl ps
 have h2:i*2+(1+1)<=(prs ps).length:=by omega
 rw[Qd3 hi]
 simp only[Qo,ha,hx,Gl,AV.cells,Xx,hc,Q8,Hd,Gp,Gu,GC]
 rw[if_pos trivial,if_pos h2];rfl
end
set_option maxHeartbeats 16000000
set_option maxRecDepth 20000
attribute [local irreducible] Qm wA Xp Xo QI Qp QZ QY
def Qlq(p:Pol):Prop:=p.ts.length<=1000/\(∀ t∈p.ts,t.2.natAbs<=cM)/\∀ t∈p.ts,t.1.natAbs<=eM
def I33b(r:List Pol)(i:Nat)(sa sb:AV)(h0:Qa)(kk:Nat)(E:Env)(h:Qa):Prop:=∃ k:Nat,k<=r.length/\kk=r.length-k/\Ext h0 h ∧
 E.keep [0,1,5,6]=[(0,some sa),(1,some sb),(5,some (.sc (.int .i64 (i:Nat)))),(6,some (.sc (.int .i64 (k:Nat))))]
def R33b(i:Nat)(sa sb:AV)(h0:Qa)(ex:Ex)(E:Env)(h:Qa):Prop:=ex = .ex 2/\Ext h0 h/\∃ a6 a35:Option AV,
 E=[(0,some sa),(1,some sb),(5,some (.sc (.int .i64 (i:Nat)))),(6,a6),(35,a35)]
theorem QgG{m:List (List Pol)}(i:Nat)(r:List Pol)(sa sb:SV)(h0:Qa)(pa:MxF fL h0 sa m)(pb:MxF fR h0 sb m)(hm:m.length<=1000)(hr:m[i]?=some r)(rl:r.length<=1000)(ok:∀ p∈r,Qlq p)(kk:Nat)(E:Env)(h:Qa)(hI:I33b r i (.sc sa) (.sc sb) h0 kk E h) :
  wA FT HKt Qmm (E.keep [0,1,5,6]) h (Qp (I33b r i (.sc sa) (.sc sb) h0) kk (R33b i (.sc sa) (.sc sb) h0)):=by
 obtain⟨k,hk,rfl,x,hE⟩:=hI
 rw[hE]
 obtain⟨ida,offa,capa,ta0,esa,rda,pra⟩:=pa.at hr
 obtain⟨idb,offb,capb,tb0,esb,rdb,prb⟩:=pb.at hr
 have la:=pra.len
 have hi:i<m.length:=(Gb.1 hr).1
 generalize hsa:sa=SA at *
 generalize hsb:sb=SB at *
 subst esa esb
 by_cases hlt:k<r.length
 ·obtain⟨p,hp⟩:∃ p,r[k]?=some p:=⟨_,Ga hlt⟩
  obtain⟨id1,off1,cap1,ta,es1,rd1',da⟩:=pra.at hp
  obtain⟨id2,off2,cap2,tq,es2,rd2',db⟩:=prb.at hp
  subst es1 es2
  obtain⟨o1,o2,o3⟩:=ok p (Gg hp)
  have e1:[(fL p ta).1,(fL p ta).2]=[SV.bool p.big,ta]:=rfl
  have e2:[(fR p tq).1,(fR p tq).2]=[tq,SV.bool p.big]:=rfl
  rw[e1]at rd1'
  rw[e2]at rd2'
  have k15:=fun H (e:Ext h0 H)=>QoR H ta [116] (by decide) p (da.ext e) o1 o2 o3
  have k16:=fun H (e:Ext h0 H)=>QoQ H p.big tq [116] (by decide) p rfl (db.ext e) o1 o2 o3
  have heq:(!decide (qx [116] p=qx [116] p))=false:=by simp
  have tok0:True:=trivial
  repeat' first|apply Qf|apply Qb|apply Qt|apply QL|apply Qn|apply Qe|apply Q7|apply Xm|apply Xn|(apply Qg;first|refine Qk rfl ?_|refine Qi rfl ?_)|(apply Qd;first|apply Q5|apply Xw|refine XP (by assumption) ?_|refine QG rfl rfl rfl rfl ?_|refine QO rfl rfl rfl rfl rfl ?_)|(apply Qc;first|(refine Qy (esz:=1) rfl rfl (by omega) ?_)|(refine Qy (esz:=2) rfl rfl (by omega) ?_)|refine Qr rfl la ?_|refine Q1 rfl (Qw x rda) ?_|refine Q1 rfl (Qw x rdb) ?_|refine XH rfl (Qw x rd1') ?_|refine XH rfl (Qw x rd2') ?_|(have z:=tok0;refine Qj rfl (k15 _ x) ?_;rintro v h3 ⟨e3,rfl⟩;clear z tok0;replace x:=x.trans e3)|(refine Qj rfl (k16 _ x) ?_;rintro v h4 ⟨e4,rfl⟩;replace x:=x.trans e4)|refine QnV rfl rfl heq ?_|refine Ql rfl ?_|refine QM rfl rfl (by omega) ?_|refine Qx rfl rfl (by omega) ?_)
  exact Qz (j:=r.length-(k+1)) (by omega) ⟨k+1,by omega,rfl,x,by rw[← hsa,← hsb];rfl⟩
 ·have:k=r.length:=by omega
  subst this
  repeat' first|apply Qf|apply Qb|apply QS|apply QQ|apply Qe|(apply Qg;refine Qi rfl ?_)|(apply Qd;refine QO rfl rfl rfl rfl rfl ?_)|(apply Qc;first|(refine Qy (esz:=1) rfl rfl (by omega) ?_)|refine Qr rfl la ?_|refine Q1 rfl (Qw x rda) ?_|refine Ql rfl ?_|refine QF rfl rfl (by omega) ?_)
  exact QB ⟨rfl,x,_,_,by rw[← hsa,← hsb]⟩
def I33a(m:List (List Pol))(sa sb:AV)(h0:Qa)(kk:Nat)(E:Env)(h:Qa):Prop:=∃ i:Nat,i<=m.length/\kk=m.length-i/\Ext h0 h ∧
 E.keep [0,1,5]=[(0,some sa),(1,some sb),(5,some (.sc (.int .i64 (i:Nat))))]
def R33a(h0:Qa)(ex:Ex)(E:Env)(h:Qa):Prop:=ex = .ex 0/\Ext h0 h/\∃ a0 a1 a5 a15:Option AV,E=[(0,a0),(1,a1),(5,a5),(15,a15)]
theorem QgH{m:List (List Pol)}(sa sb:SV)(h0:Qa)(pa:MxF fL h0 sa m)(pb:MxF fR h0 sb m)(hm:m.length<=1000)(ok:∀ r∈m,r.length<=1000/\∀ p∈r,Qlq p)(kk:Nat)(E:Env)(h:Qa)(hI:I33a m (.sc sa) (.sc sb) h0 kk E h) :
  wA FT HKt Qmn (E.keep [0,1,5]) h (Qp (I33a m (.sc sa) (.sc sb) h0) kk (R33a h0)):=by
 obtain⟨i,hi,rfl,x,hE⟩:=hI
 rw[hE]
 have la:=pa.len
 by_cases hlt:i<m.length
 ·obtain⟨r,hr⟩:∃ r,m[i]?=some r:=⟨_,Ga hlt⟩
  have or:=ok r (Gg hr)
  obtain⟨ida,offa,capa,ta0,esa,rda,pra⟩:=pa.at hr
  obtain⟨idb,offb,capb,tb0,esb,rdb,prb⟩:=pb.at hr
  have lra:=pra.len
  have lrb:=prb.len
  generalize hsa:sa=SA at *
  generalize hsb:sb=SB at *
  subst esa esb
  repeat' first|apply Qf|apply Qb|apply Qt|apply Qn|apply Qe|apply Q7|apply Xm|apply Xn|(apply Qg;first|refine Qk rfl ?_|refine Qi rfl ?_)|(apply Qd;first|apply Q5|refine QG rfl rfl rfl rfl ?_)|(apply Qc;first|(refine Qy (esz:=1) rfl rfl (by omega) ?_)|refine Qr rfl la ?_|refine Q1 rfl (Qw x rda) ?_|refine Q1 rfl (Qw x rdb) ?_|refine Qr rfl lra ?_|refine Qr rfl lrb ?_|refine XJ rfl rfl rfl ?_|refine Ql rfl ?_|refine Qx rfl rfl (by omega) ?_)
  rw[← hsa,← hsb]at *
  refine QV (I33b r i (.sc sa) (.sc sb) h0) r.length (R33b i (.sc sa) (.sc sb) h0) ⟨0,Gm _,rfl,x,rfl⟩ (QgG i r sa sb h0 pa pb hm hr or.1 or.2) ?_
  rintro ex E' h2 ⟨rfl,x2,_,_,rfl⟩
  repeat' first|apply Qb|apply QL|apply QK|apply Qe|(apply Qd;refine Qu rfl rfl rfl ?_)|(apply Qc;first|refine Ql rfl ?_|refine QM rfl rfl (by omega) ?_)
  exact Qz (j:=m.length-(i+1)) (by omega) ⟨i+1,by omega,rfl,x2,rfl⟩
 ·have:i=m.length:=by omega
  subst this
  repeat' first|apply Qf|apply Qb|apply QS|apply QQ|apply Qe|(apply Qg;refine Qi rfl ?_)|(apply Qd;refine QG rfl rfl rfl rfl ?_)|(apply Qc;first|refine Qr rfl la ?_|refine Ql rfl ?_|refine QF rfl rfl (by omega) ?_)
  exact QB ⟨rfl,x,_,_,_,_,rfl⟩
theorem QoJ{m:List (List Pol)}(sa sb:SV)(h0:Qa)(pa:MxF fL h0 sa m)(pb:MxF fR h0 sb m)(hm:m.length<=1000)(ok:∀ r∈m,r.length<=1000/\∀ p∈r,Qlq p) :
  ∃ r h',Cal FT HKt 33 [.sc sa,.sc sb] h0 r h'/\(Ext h0 h'/\r = .sc (.bool true)):=by
 refine Cal.of (F:=a33) rfl rfl rfl ?_
 have la:=pa.len
 have lb:=pb.len
 repeat' first|apply Qf|apply Qb|apply Qt|apply Qn|apply Qe|(apply Qg;refine Qi rfl ?_)|(apply Qd;first|refine QA rfl rfl ?_|refine Qu rfl rfl rfl ?_)|(apply Qc;first|refine Qr rfl la ?_|refine Qr rfl lb ?_|refine XJ rfl rfl rfl ?_|refine Ql rfl ?_)
 refine QV (I33a m (.sc sa) (.sc sb) h0) m.length (R33a h0) ⟨0,Gm _,rfl,Ext.refl _,rfl⟩ (QgH sa sb h0 pa pb hm ok) ?_
 rintro ex E' h1 ⟨rfl,x,_,_,_,_,rfl⟩
 repeat' first|apply Qf|apply Qb|apply QK|apply Qs|apply Qe|(apply Qd;refine Qq rfl ?_)|(apply Qc;refine Ql rfl ?_)
 exact⟨.inr rfl,x,rfl⟩
end Go.Proofs.YtofknpknogfijaaGreatDoor
namespace Go.Proofs.YtofknpknogfijaaGreatDoor
open Go.Ab
set_option linter.all false
variable [HB]
structure GP(f:Int->Int)(p:Pol):Prop where
 nb:p.big=false
 can:Can p.ts
 cf:∀ e,cf p.ts e=f e
def FB(K B:Nat)(f:Int->Int):Prop:=∀ e,f e≠0->e.natAbs<=K/\(f e).natAbs<=B
theorem GP.bd{f:Int->Int}{p:Pol}{K B:Nat}(g:GP f p)(h:FB K B f):∀ t∈p.ts,t.1.natAbs<=K/\t.2.natAbs<=B:=fun t ht=>by
 have e:=Jf g.can ht
 have nz:=g.can.nz t ht
 rw[g.cf]at e
 rw[← e]at nz ⊢
 exact h _ nz
theorem GP.len{f:Int->Int}{p:Pol}{K B:Nat}(g:GP f p)(h:FB K B f):p.ts.length<=2*K+1 :=
 Z5 g.can (lo := -(K:Int)) fun t ht=>by have:=(g.bd h t ht).1;omega
theorem GP.eq{f:Int->Int}{p q:Pol}(a:GP f p)(b:GP f q):p=q:=by
 obtain⟨pb,pt⟩:=p
 obtain⟨qb,qt⟩:=q
 have h1:=a.nb
 have h2:=b.nb
 simp only at h1 h2
 subst h1;subst h2
 congr 1
 exact Can.ext a.can b.can fun e=>(a.cf e).trans (b.cf e).symm
theorem GP.cong{f g:Int->Int}{p:Pol}(a:GP f p)(h:∀ e,f e=g e):GP g p:=⟨a.nb,a.can,fun e=>(a.cf e).trans (h e)⟩
theorem GP.ofCol{M:List Tm}{f:Int->Int}(as0:Asc M)(h:∀ e,Go.Proofs.YtofknpknogfijaaGreatDoor.cf M e=f e)(hb:FB eM cM f):GP f (ZA M):=by
 have nb:(ZA M).big=false:=QkY as0 fun e he=>by
  rw[h]at he ⊢
  exact⟨(hb e he).2,(hb e he).1⟩
 rcases QfT as0 with e|⟨-,k,hs⟩
 ·rw[e]at nb;cases nb
 ·exact⟨nb,k.can,fun e=>(hs (dl e)).trans (h e)⟩
theorem yE{q:List Tm}{f:Int->Int}(h:∀ e,cf q e=f e)(e:Int):∀ l:List Tm,mc l q e=Yn l f e
 | []=>rfl
 | t::l=>by rw[Qem,yE h e l,h];rfl
theorem Qod{f:Int->Int}{p:Pol}(g:GP f p)(l:List Tm)(hb:FB eM cM (Yn l f)):GP (Yn l f) (ZA (X9 l p.ts [])) :=
 GP.ofCol (Vf (show Asc [] from .nil)) (fun e=>by
  show S (dl e) _=_
  rw[QcL]
  show 0+mc l p.ts e=_
  rw[Int.zero_add,yE g.cf]) hb
theorem Qoe{f g:Int->Int}{p q:Pol}(a:GP f p)(b:GP g q)(hb:FB eM cM fun e=>f e+g e):GP (fun e=>f e+g e) (Un p q):=by
 have e:Un p q=ZA (Xy q.ts (Xy p.ts [])):=by unfold Un;rw[if_neg (by rw[a.nb,b.nb];simp)]
 rw[e]
 exact GP.ofCol (Jy (Jy (show Asc [] from .nil))) (fun e=>by
  show S (dl e) _=_
  rw[yY,yY]
  show 0+Go.Proofs.YtofknpknogfijaaGreatDoor.cf p.ts e+Go.Proofs.YtofknpknogfijaaGreatDoor.cf q.ts e=_
  rw[a.cf,b.cf,Int.zero_add]) hb
theorem Qev:GP (fun _=>0) ⟨false,[]⟩:=⟨rfl,.nil,fun _=>rfl⟩
theorem FB.mono{K K' B B':Nat}{f:Int->Int}(h:FB K B f)(h1:K<=K')(h2:B<=B'):FB K' B' f:=fun e he=>⟨Gq (h e he).1 h1,Gq (h e he).2 h2⟩
theorem Qdh{K:Nat}:∀ {rows:List (List (List Tm))} {cs:List Nat} {e:Int},(∀ r∈rows,∀ l∈r,∀ t∈l,t.1.natAbs<=K)->K*rows.length<e.natAbs->dL rows cs e=0
 | [],cs,e,_,h=>by
  simp only[dL]
  rw[if_neg (by simp at h;omega)]
 | r::rs,cs,e,hb,h=>by
  simp only[dL]
  simp only[Gu,Nat.mul_add]at h
  refine VG fun c ds _ _=>Ji fun t ht=>?_
  have hm:r.getD c []∈r∨r.getD c []=[]:=by
   rw[Ge]
   rcases h:r[c]? with _|x
   ·exact .inr rfl
   ·exact .inl (Gg h)
  rcases hm with hm|hm
  ·have:=hb r (.head _) _ hm t ht
   exact Qdh (fun q hq=>hb q (.tail _ hq)) (by omega)
  ·rw[hm]at ht;cases ht
structure EOk(p:Pol):Prop where
 nb:p.big=false
 can:Can p.ts
 len:p.ts.length<=3
 bd:∀ t∈p.ts,t.1.natAbs<=12/\t.2.natAbs<=4
theorem JX{B:Nat}:∀ {l:List Tm},(∀ t∈l,t.2.natAbs<=B)->Yp l<=l.length*B
 | [],_=>by simp[Yp]
 | t::l,h=>by
  have:=JX (l:=l) fun u hu=>h u (.tail _ hu)
  have:=h t (.head _)
  simp only[Yp,Gu,GS];omega
theorem EOk.sum{p:Pol}(k:EOk p):Yp p.ts<=12:=by
 have:=JX (B:=4) fun t ht=>(k.bd t ht).2
 have:=k.len
 omega
theorem Qf4{r:List Pol}(h:∀ p∈r,EOk p):XQ (rT r)<=r.length*12:=by
 unfold rT
 induction r with
 | nil=>simp[XQ]
 | cons p r ih =>
  have:=ih fun q hq=>h q (.tail _ hq)
  have:=(h p (.head _)).sum
  simp only[GE,XQ,Gu,GS];omega
theorem Qd4{B:Nat}:∀ {l:List Nat},(∀ x∈l,x<=B)->l.foldr (·*·) 1<=B^l.length
 | [],_=>by simp
 | x::l,h=>by
  rw[List.foldr_cons,Gu,Nat.pow_succ,HF (B^_)]
  exact Hj (h x (.head _)) (Qd4 fun y hy=>h y (.tail _ hy))
structure ROk(n:Nat)(rows:List (List Pol)):Prop where
 n4:n<=4
 len:∀ r∈rows,r.length=n
 ok:∀ r∈rows,∀ p∈r,EOk p
theorem ROk.tail{n:Nat}{r:List Pol}{rs:List (List Pol)}(k:ROk n (r::rs)):ROk n rs:=⟨k.n4,fun q hq=>k.len q (.tail _ hq),fun q hq=>k.ok q (.tail _ hq)⟩
theorem ROk.fb{n:Nat}{rows:List (List Pol)}(k:ROk n rows){cs:List Nat}(hs:cs.Sublist (List.range' 0 n)):FB (12*rows.length) (48^rows.length) (dL (rows.map rT) cs):=by
 intro e he
 constructor
 ·refine Decidable.byContradiction fun hn=>he (Qdh (K:=12) (fun r hr l hl t ht=>?_) ?_)
  ·obtain⟨q,hq,rfl⟩:=Gs.1 hr
   obtain⟨p,hp,rfl⟩:=Gs.1 hl
   exact((k.ok q hq p hp).bd t ht).1
  ·rw[Gj];omega
 ·refine Gq (QeE (n:=n) hs fun r hr=>?_) ?_
  ·obtain⟨q,hq,rfl⟩:=Gs.1 hr
   unfold rT;rw[Gj];exact k.len q hq
  ·have:=Qd4 (B:=48) (l:=(rows.map rT).map XQ) fun x hx=>by
    obtain⟨y,hy,rfl⟩:=Gs.1 hx
    obtain⟨q,hq,rfl⟩:=Gs.1 hy
    have:=Qf4 (k.ok q hq)
    rw[k.len q hq]at this
    have:=k.n4
    omega
   simpa using this
theorem eok{e:Ent}(h:smE e):EOk (PE e):=by
 obtain⟨h1,h2,h3,h4⟩:=h
 obtain⟨r,e1,can,hr,-⟩:=V6 (low:=e.1) (xs:=e.2) (fun x hx=>by have:=h4 x hx;simp only[cM];omega) (by simp only[eM];omega) (fun i hi=>by simp only[eM];omega)
 have hv:∀ t∈r,t.2.natAbs<=4:=fun t ht=>by
  have hc:=QaR (low:=e.1) (xs:=e.2) (i:=e.2.length) (r:=r) (by
   unfold ofP at e1
   cases h:ofN e.1 e.2 e.2.length with
   | none=>rw[h]at e1;cases e1
   | some q=>rw[h]at e1;simp at e1;rw[e1])
  have h5:=Jf hc.1 ht
  have h6:=hr t ht
  rw[hc.2.2,if_pos ⟨h6.1,h6.2.1⟩]at h5
  have hm:e.2.getD (t.1-e.1).toNat 0∈e.2:=by
   rw[Ge,Ga (by omega)];exact GI _
  have:=h4 _ hm
  omega
 unfold PE
 rw[e1]
 refine⟨rfl,can,?_,fun t ht=>⟨?_,hv t ht⟩⟩
 ·have:=Z5 can (lo:=e.1) (n:=e.2.length) fun t ht=>⟨(hr t ht).1,(hr t ht).2.1⟩
  simp only;omega
 ·have:=hr t ht
  simp only at *;omega
set_option maxHeartbeats 16000000
set_option maxRecDepth 20000
attribute [local irreducible] Qm wA Xp Xo QI Qp QZ QY
def rwC(n:Nat)(R:Nat->Pol)(U:Nat->SV):List P2:=(List.range n).map fun c=>fL (R c) (U c)
theorem QdQ{n:Nat}{R:Nat->Pol}{U:Nat->SV}:(rwC n R U).length=n:=by simp[rwC]
theorem Qgq{n:Nat}{R:Nat->Pol}{U:Nat->SV}:rwC (n+1) R U=rwC n R U++[fL (R n) (U n)]:=by unfold rwC;rw[List.range_succ,GW];rfl
theorem VU{n:Nat}{R R':Nat->Pol}{U U':Nat->SV}(h:∀ c,c<n->R c=R' c/\U c=U' c):rwC n R U=rwC n R' U':=by
 unfold rwC
 exact G6 fun c hc=>by obtain⟨a,b⟩:=h c (by simpa using hc);rw[a,b]
theorem QjW{n i:Nat}{R:Nat->Pol}{U:Nat->SV}{p:Pol}{t:SV}:(rwC n R U).set i (fL p t)=rwC n (fun c=>if c=i then p else R c) (fun c=>if c=i then t else U c):=by
 refine Gt fun j=>?_
 unfold rwC
 rw[GQ]
 by_cases h:i=j
 ·subst h
  rw[if_pos rfl]
  rcases GD i n with h2|h2
  ·rw[if_pos (by simpa using h2),Gh,Gv h2];simp
  ·rw[if_neg (by simpa using h2),Gr (by simpa using h2)]
 ·rw[if_neg h,Gh,Gh]
  rcases GD j n with h2|h2
  ·rw[Gv h2];simp[show ¬ j=i from fun e=>h e.symm]
  ·rw[Gr (by simpa using h2)];rfl
theorem QjX{n:Nat}{h:Qa}{R:Nat->Pol}{U:Nat->SV}(d:∀ c,c<n->IsD h (U c) (tms (R c).ts)):NoI (prs (rwC n R U)):=by
 induction n with
 | zero=>intro v hv;cases hv
 | succ n ih =>
  rw[Qgq,yr]
  refine(ih fun c hc=>d c (by omega)).app fun v hv k m=>?_
  have hv:v∈[SV.bool (R n).big,U n]:=hv
  rcases GO.1 hv with rfl|hv
  ·intro e;cases e
  ·rcases GO.1 hv with rfl|hv
   ·exact IsD.noint (d n (by omega)) k m
   ·cases hv
structure RX(lo hi:Nat)(h:Qa)(n m:Nat)(M:Nat->Nat->Pol)(ids:Nat->Nat)(U:Nat->Nat->SV):Prop where
 b:∀ a,a<m->lo<=ids a/\ids a<hi/\h[ids a]?=some (.cells (prs (rwC n (M a) (U a))) true 2)
 d:∀ a c,a<m->c<n->IsD h (U a c) (tms (M a c).ts)
 ne:∀ a b,a<m->b<m->a≠b->ids a≠ids b
def hdR(n:Nat)(ids:Nat->Nat)(caps:Nat->Option Nat)(a:Nat):SV := .slc (ids a) 0 n (caps a)
structure BX(hb h:Qa)(s:SV)(n m:Nat)(M:Nat->Nat->Pol):Prop where
 x:Ext hb h
 o:∃(ids:Nat->Nat) (caps:Nat->Option Nat) (U:Nat->Nat->SV),Own hb h s ((List.range m).map (hdR n ids caps))/\RX hb.length h.length h n m M ids U
theorem RX.ext{lo hi hi':Nat}{h h':Qa}{n m:Nat}{M:Nat->Nat->Pol}{ids:Nat->Nat}{U:Nat->Nat->SV}(r:RX lo hi h n m M ids U)(e:Ext h h')(hh:hi<=hi'):RX lo hi' h' n m M ids U :=
 ⟨fun a ha=>let ⟨x,y,z⟩:=r.b a ha;⟨x,by omega,e.get _ _ z⟩,fun a c ha hc=>(r.d a c ha hc).ext e,r.ne⟩
theorem RX.push{lo:Nat}{h h2:Qa}{n m:Nat}{M:Nat->Nat->Pol}{ids:Nat->Nat}{U:Nat->Nat->SV}(r:RX lo h.length h n m M ids U)(e:Ext h h2){id:Nat}{V:Nat->SV}(h1:h.length<=id/\id<h2.length)(hlo:lo<=h.length)(hb:h2[id]?=some (.cells (prs (rwC n (M m) V)) true 2))(hd:∀ c,c<n->IsD h2 (V c) (tms (M m c).ts)) :
  RX lo h2.length h2 n (m+1) M (fun a=>if a=m then id else ids a) (fun a=>if a=m then V else U a):=by
 have r2:=r.ext e e.len
 refine⟨fun a ha=>?_,fun a c ha hc=>?_,fun a b ha hb2 hab=>?_⟩
 ·by_cases ea:a=m
  ·subst ea;simp only[if_pos];exact⟨by omega,h1.2,hb⟩
  ·simp only[if_neg ea];exact r2.b a (by omega)
 ·by_cases ea:a=m
  ·subst ea;simp only[if_pos];exact hd c hc
  ·simp only[if_neg ea];exact r2.d a c (by omega) hc
 ·by_cases ea:a=m
  ·subst ea
   simp only[if_pos,if_neg (Ne.symm hab)]
   have:=(r.b b (by omega)).2.1
   omega
  ·by_cases eb:b=m
   ·subst eb
    simp only[if_pos,if_neg ea]
    have:=(r.b a (by omega)).2.1
    omega
   ·simp only[if_neg ea,if_neg eb];exact r.ne a b (by omega) (by omega) hab
def mE(l:List (List Ent))(a c:Nat):Pol:=PE ((l.getD a []).getD c (0,[]))
theorem mE_at{l:List (List Ent)}{a c:Nat}{r:List Ent}{e:Ent}(hr:l[a]?=some r)(he:r[c]?=some e):mE l a c=PE e:=by
 unfold mE
 rw[Ge (l:=l),hr]
 simp only[Option.getD_some]
 rw[Ge,he];rfl
structure SX(hr h:Qa)(s:SV)(m:Nat)(R:Nat->Pol):Prop where
 x:Ext hr h
 o:∃ V:Nat->SV,OwnX hr.length h s (rwC m R V)/\∀ c,c<m->IsD h (V c) (tms (R c).ts)
end Go.Proofs.YtofknpknogfijaaGreatDoor
namespace Go.Proofs.YtofknpknogfijaaGreatDoor
open Go.Ab
set_option linter.all false
variable [HB]
structure PF(n:Nat)(f:Int->Int):Prop where
 fb:FB (12*n) (12^n) f
 sp:∃ lo:Int,∀ e,f e≠0->lo<=e/\e<=lo+2*(n:Int)
theorem UA{l:List Tm}{f:Int->Int}{e:Int}(h:Yn l f e≠0):∃ t∈l,f (e-t.1)≠0:=by
 refine Decidable.byContradiction fun hn=>h (Ji fun t ht=>?_)
 refine Decidable.byContradiction fun h2=>hn ⟨t,ht,h2⟩
theorem GP.pok{f:Int->Int}{p:Pol}(g:GP f p)(h:FB eM cM f):Pok p:=⟨fun hb=>(by rw[g.nb]at hb;cases hb),g.can,fun t ht=>(g.bd h t ht).2,fun t ht=>(g.bd h t ht).1⟩
theorem EOk.pok{p:Pol}(k:EOk p):Pok p:=⟨fun hb=>(by rw[k.nb]at hb;cases hb),k.can,fun t ht=>by have:=k.bd t ht;simp only[cM];omega,fun t ht=>by have:=k.bd t ht;simp only[eM];omega⟩
theorem Qa7{f:Int->Int}{p q:Pol}(g:GP f p)(hf:FB 524288 cM f)(kq:Pok q)(bq:q.big=false)(hq:Bd 524288 q.ts)(hb:∀ e,(Yn q.ts f e).natAbs<=cM):GP (Yn q.ts f) (Yg p q):=by
 have kp:=g.pok (hf.mono (by decide) (Gd _))
 obtain⟨L,hc,hs,he⟩:=Qhb kp kq g.nb bq (fun t ht=>(g.bd hf t ht).1) hq
 have hcf:∀ e,cf L e=Yn q.ts f e:=fun e=>by
  show S (dl e) L=_
  rw[hs]
  show mc p.ts q.ts e=_
  rw[QaW,yE g.cf]
 have:∀ t∈L,t.2.natAbs<=cM:=fun t ht=>by
  rw[← Jf hc ht,hcf];exact hb _
 rw[he,if_pos this]
 exact⟨rfl,hc,hcf⟩
def evS(k:Nat)(x:Int):List Tm->Int
 | []=>0
 | t::l=>t.2*x^(t.1+k).toNat+evS k x l
def evF(k:Nat)(f:Int->Int)(x:Int):Int:=sm (2*k+1) fun j=>f ((j:Int)-k)*x^j
def SpF(k:Nat)(f:Int->Int):Prop:=∀ e:Int,k<e.natAbs->f e=0
theorem FB.sp{k B:Nat}{f:Int->Int}(h:FB k B f):SpF k f:=fun e he=>by
 refine Decidable.byContradiction fun hn=>?_
 have:=(h e hn).1
 omega
theorem SpF.mono{j k:Nat}{f:Int->Int}(h:SpF j f)(hk:j<=k):SpF k f:=fun e he=>h e (by omega)
theorem Qez(k:Nat)(x:Int):∀ {l:List Tm},(∀ t∈l,t.1.natAbs<=k)->evS k x l=evT x (shL (-(k:Int)) l)
 | [],_=>rfl
 | t::l,h=>by
  have ih:=Qez k x (l:=l) fun u hu=>h u (.tail _ hu)
  unfold shL at ih ⊢
  simp only[GE,evS,evT]
  rw[ih,show t.1 - -(k:Int)=t.1+k by omega]
theorem Ve{k M:Nat}{x:Int}{f:Int->Int}(hf:SpF M f){l:List Tm}(hl:∀ t∈l,t.1.natAbs<=k):evF (k+M) (Yn l f) x=evS k x l*evF M f x:=by
 have h1:=QaU (x:=x) (f:=fun e=>f (e-M)) (M:=2*M) (N:=2*(k+M)) (fun e he=>hf _ (by omega)) (l:=shL (-(k:Int)) l) fun t ht=>by
  unfold shL at ht
  obtain⟨u,hu,rfl⟩:=Gs.1 ht
  have:=hl u hu
  simp only;omega
 have h2:∀ e:Int,Yn (shL (-(k:Int)) l) (fun e=>f (e-M)) e=Yn l f (e-((k+M:Nat):Int)):=fun e=>by
  rw[Vd (low := -(k:Int)) (s := -(M:Int)) (f:=fun e=>f (e-M)) (g:=f) (fun e=>by rw[Int.sub_eq_add_neg])]
  congr 1;omega
 unfold evF
 rw[Qez k x hl,← h1]
 exact XT fun j _=>by rw[h2]
theorem Qgm:∀ {n:Nat} {c:Nat->Int},(∀ x:Int,1<=x->sm n (fun j=>c j*x^j)=0)->∀ j,j<n->c j=0
 | 0,c,h,j,hj=>by omega
 | n+1,c,h,j,hj=>by
  have split:∀ x:Int,sm (n+1) (fun j=>c j*x^j)=c 0+x*sm n (fun j=>c (j+1)*x^j):=fun x=>by
   rw[Nat.add_comm,US]
   simp only[sm]
   rw[← Z7]
   have:∀ i,c (1+i)*x^(1+i)=x*(c (i+1)*x^i):=fun i=>by
    rw[Nat.add_comm 1 i,Int.pow_succ,Hr (x^i) x,Int.mul_left_comm]
   rw[XT (g:=fun i=>x*(c (i+1)*x^i)) fun i _=>this i]
   simp
  have c0:c 0=0:=by
   have h1:=h ((c 0).natAbs+1) (by omega)
   rw[split]at h1
   generalize sm n (fun j=>c (j+1)*(((c 0).natAbs:Int)+1)^j)=s at h1
   refine Decidable.byContradiction fun hn=>?_
   have hd:((c 0).natAbs+1:Int) ∣ c 0:=⟨-s,by rw[Int.mul_neg];omega⟩
   have:=Int.le_of_dvd (a:=((c 0).natAbs+1:Int)) (b:=(c 0).natAbs) (by omega) (Int.dvd_natAbs.2 hd)
   omega
  rcases j with _|j
  ·exact c0
  ·refine Qgm (n:=n) (c:=fun j=>c (j+1)) (fun x hx=>?_) j (by omega)
   have h1:=h x hx
   rw[split,c0,Int.zero_add]at h1
   rcases Int.mul_eq_zero.1 h1 with h2|h2
   ·omega
   ·exact h2
theorem Qog{k:Nat}{f g:Int->Int}(hf:SpF k f)(hg:SpF k g)(h:∀ x:Int,1<=x->evF k f x=evF k g x)(e:Int):f e=g e:=by
 by_cases he:k<e.natAbs
 ·rw[hf e he,hg e he]
 ·have:=Qgm (n:=2*k+1) (c:=fun j=>f ((j:Int)-k)-g ((j:Int)-k)) (fun x hx=>by
   have h1:=h x hx
   unfold evF at h1
   rw[XT (g:=fun j=>f ((j:Int)-k)*x^j+(-1)*(g ((j:Int)-k)*x^j)) fun j _=>by rw[Int.sub_mul];omega,UT,Z7,h1]
   omega) (e+k).toNat (by omega)
  rw[show (((e+k).toNat:Nat):Int)-k=e by omega]at this
  omega
theorem QeB{k:Nat}{f g:Int->Int}(x:Int):evF k (fun e=>f e+g e) x=evF k f x+evF k g x:=by
 unfold evF
 rw[← UT]
 exact XT fun j _=>by rw[Hv]
theorem QhU{k:Nat}(x:Int):evF k (fun _=>0) x=0:=by
 unfold evF
 rw[XT (g:=fun _=>0) fun j _=>by rw[Hx],sm_zero]
theorem zA{k:Nat}{f g:Int->Int}(h:∀ e,f e=g e)(x:Int):evF k f x=evF k g x:=by
 have:f=g:=funext h
 rw[this]
def evW(k:Nat)(x:Int)(r:List (List Tm)):Row:=fun c=>evS k x (r.getD c [])
theorem QlT{k:Nat}{rows:List (List (List Tm))}{cs:List Nat}(h:∀ r∈rows,∀ l∈r,∀ t∈l,t.1.natAbs<=k):SpF (k*rows.length) (dL rows cs):=fun e he=>Qdh h he
theorem Qlm{k:Nat}{x:Int}{cs:List Nat}{F:Nat->List Nat->Int->Int}:evF k (fun e=>alt (fun c ds=>F c ds e) cs) x=alt (fun c ds=>evF k (F c ds) x) cs:=by
 unfold evF
 rw[QiX]
 exact XT fun j _=>by rw[← QcK]
theorem QkJ{k:Nat}{r:List (List Tm)}(h:∀ l∈r,∀ t∈l,t.1.natAbs<=k)(c:Nat):∀ t∈r.getD c [],t.1.natAbs<=k:=by
 intro t ht
 rw[Ge]at ht
 rcases hc:r[c]? with _|y
 ·rw[hc]at ht;cases ht
 ·rw[hc]at ht;exact h y (Gg hc) t ht
theorem Qh7{k:Nat}{x:Int}:∀ {rows:List (List (List Tm))} {cs:List Nat},(∀ r∈rows,∀ l∈r,∀ t∈l,t.1.natAbs<=k)->D (rows.map (evW k x)) cs=evF (k*rows.length) (dL rows cs) x
 | [],cs,_=>by
  show 1=evF 0 (dL [] cs) x
  simp[evF,sm,dL]
 | r::rs,cs,h=>by
  have hs:∀ ds,SpF (k*rs.length) (dL rs ds):=fun ds=>QlT fun q hq=>h q (.tail _ hq)
  rw[GE,XM]
  have e:evF (k*(r::rs).length) (dL (r::rs) cs) x=evF (k+k*rs.length) (fun e=>alt (fun c ds=>Yn (r.getD c []) (dL rs ds) e) cs) x:=by
   rw[Gu,Nat.mul_succ,Nat.add_comm];rfl
  rw[e,Qlm]
  refine Yj fun c ds=>?_
  rw[Qh7 fun q hq=>h q (.tail _ hq),Ve (hs ds) (QkJ (h r (.head _)) c)]
  rfl
