/- Steps that the division needs. -/
import Derived.Test.YtofknpknogfijaaGreatDoorPZ
import Derived.Test.YtofknpknogfijaaGreatDoorSP1
import Derived.Test.YtofknpknogfijaaGreatDoorW2
import Derived.Test.YtofknpknogfijaaGreatDoorCG2
import Derived.Test.YtofknpknogfijaaGreatDoorPM
import Derived.Test.YtofknpknogfijaaGreatDoorTR1
import Derived.Test.YtofknpknogfijaaGreatDoorAb50
namespace Go.Proofs.YtofknpknogfijaaGreatDoor
open Go.Ab
set_option linter.all false
variable [HB]
section
variable {FT:FuncId→Option AFun} {HK:FuncId→Option Xj} {E:Env} {h h0:Qa} {K:Env→Qa→Prop} {d:Option Nat} {r:List AOp} {x y xo so:AO} {m n:Int}
theorem Qcq {a b z0 z1:SV} (hx:ev E xo=some (.agg [a,b])) (hw:∀ h1,Ext h h1→X7 h1 2 (.slc h.length 0 1 (some 1))=some (1,[a,b])→Ql FT HK r (Qr d (some (.sc (.slc h.length 0 1 (some 1)))) E) h1 K) :
  Ql FT HK (⟨d,.bsl 2 [z0,z1] 1 [(0,xo)],none⟩::r) E h K:=by
 refine Xe (v:=some (.sc (.slc h.length 0 1 (some 1)))) (h':=h++[.cells [a,b] true 2]) rfl rfl ?_ (hw _ ⟨_,rfl⟩ (by simp [X7,QZ,cut]))
 simp [Qm,Yp,hx,AV.cells,ZB,rep,Xh,ez2]
theorem QdC {bytes:Nat} {s t a b:SV} {ps:List P2} {z2:List SV} (he:Ext h0 h) (ho:OwnD h0 h s ps) (hs:evS E so=some s) (hx:evS E x=some t) (ht:X7 h 2 t=some (1,[a,b])) (hb:(ps.length+1)*(bytes+1)≤Yu)
  (hw:∀ s' h',OwnD h0 h' s' (ps++[(a,b)])→Ext h0 h'→Fram h h' s s'→h.length≤h'.length→Ql FT HK r (Qr d (some (.sc s')) E) h' K) :
  Ql FT HK (⟨d,.app 2 bytes z2 so x,none⟩::r) E h K:=by
 obtain ⟨s',h',h1,h2,h3,h4,h5⟩:=appD (bytes:=bytes) he ho hb a b
 refine Xe (v:=some (.sc s')) (h':=h') rfl rfl ?_ (hw s' h' h2 h3 h5 h4)
 simp only [Qm,hs,hx,Gm,ez2,ht,h1,Gl]
end
set_option maxHeartbeats 16000000
set_option maxRecDepth 20000
attribute [local irreducible] Ql wA Xr Xp QA Qp QW QY
def smC (x:Int):Prop := -4611686018427387904≤x∧x≤4611686018427387904
def smallP (low:Int) (xs:List Int):Prop:=xs.length≤20 ∧ -100≤low∧low≤100∧∀ x∈xs,smC x
def Qlm (low:Int) (xs:List Int):Prop:=xs.length≤20 ∧ -1000≤low∧low≤1000∧∀ x∈xs,smC x
theorem smallP.q {low:Int} {xs:List Int} (h:smallP low xs):Qlm low xs:=⟨h.1,by have:=h.2.1;omega,by have:=h.2.2.1;omega,h.2.2.2⟩
section
variable {FT:FuncId→Option AFun} {HK:FuncId→Option Xj} {E:Env} {h:Qa} {K:Env→Qa→Prop} {d:Option Nat} {r:List AOp} {x:AO}
end
def IsRf (h:Qa) (v:AV) (p:Pol):Prop:=∃ s,v=.agg [s,.bool p.big]∧IsD h s (tms p.ts)
structure St27 (h0 h:Qa) (q4 q5:Nat) (b:Bool) (s:SV) (r:List Tm):Prop where
 e:Ext h0 h
 c4:Cel h q4 .nilS (.bool b)
 c5:Cel h q5 s (.bool false)
 o:OwnD h0 h s (tms r)
 l:h0.length≤q4∧q4 < q5
def I27 (h0:Qa) (q4 q5:Nat) (low:Int) (c:SV) (xs:List Int) (E:Env) (h:Qa):Prop:=∃ (i:Nat) (r:List Tm) (s:SV),i≤xs.length∧ofN low xs i=some r∧St27 h0 h q4 q5 false s r ∧
 E.keep [0,1,4,5,6]=[(0,some (.sc (.int .i64 low))),(1,some (.sc c)),(4,some (.sc (.ptr q4 0))),(5,some (.sc (.ptr q5 0))),(6,some (.sc (.int .i64 (i:Nat))))]
def R27 (h0:Qa) (q4 q5:Nat) (low:Int) (xs:List Int) (ex:Ex) (E:Env) (h:Qa):Prop :=
 (ex=.ex 0∧∃ r s a b c d,ofN low xs xs.length=some r∧St27 h0 h q4 q5 false s r∧E=[(0,a),(1,b),(4,some (.sc (.ptr q4 0))),(5,some (.sc (.ptr q5 0))),(6,c),(10,d)]) ∨
 (ex=.rt∧ofN low xs xs.length=none∧Ext h0 h∧Cel h q4 .nilS (.bool true)∧E=[(4,some (.sc (.ptr q4 0)))])
end Go.Proofs.YtofknpknogfijaaGreatDoor
namespace Go.Proofs.YtofknpknogfijaaGreatDoor
open Go.Ab
set_option linter.all false
variable [HB]
section
variable {FT:FuncId→Option AFun} {HK:FuncId→Option Xj} {E:Env} {h h0:Qa} {K:Env→Qa→Prop} {d:Option Nat} {r:List AOp} {x y lo hi:AO}
end
set_option maxHeartbeats 16000000
set_option maxRecDepth 20000
attribute [local irreducible] Ql wA Xr Xp QA Qp QW
abbrev WV (a b:Int):AV:=.agg [.int .i64 a,.int .i64 b]
def I112 (h0:Qa) (q1 q2:Nat) (H L:Int) (k:Nat) (E:Env) (h:Qa):Prop:=∃ a b:Int,a*1125899906842624+b=H*1125899906842624+L∧a≤H∧H≤a+1000-k∧b≤1152921504606846976 ∧ -1125899906842624*k≤b∧Ext h0 h∧Cel h q1 (.int .i64 a) (.int .i64 b)∧Cel h q2 (.int .i64 0) (.int .i64 0) ∧
 E.keep [1,2]=[(1,some (.sc (.ptr q1 0))),(2,some (.sc (.ptr q2 0)))]
def R112 (h0:Qa) (q1 q2:Nat) (H L:Int) (ex:Ex) (E:Env) (h:Qa):Prop:=ex=.ex 0∧∃ a b:Int,∃ d,a*1125899906842624+b=H*1125899906842624+L∧a≤H∧H≤a+1000∧0≤b∧b≤1152921504606846976∧Ext h0 h∧Cel h q1 (.int .i64 a) (.int .i64 b)∧Cel h q2 (.int .i64 0) (.int .i64 0) ∧
 E=[(1,some (.sc (.ptr q1 0))),(2,some (.sc (.ptr q2 0))),(5,d)]
abbrev nh (x:Int):SV:=.int .i64 (x / 1125899906842624)
abbrev nl (x:Int):SV:=.int .i64 (x%1125899906842624)
abbrev nf (x:Int):AV:=.agg [nh x,nl x]
def I81b (h0:Qa) (q4 q6 q9:Nat) (A b sg:Int) (s:Nat) (x p:Int) (k:Nat) (E:Env) (h:Qa):Prop:=∃ i:Nat,i≤s∧k=s-i∧Ext h0 h∧Cel h q4 (.int .i64 0) (.int .i64 0)∧Cel h q6 (nh x) (nl x)∧Cel h q9 (nh (p*2 ^ i)) (nl (p*2 ^ i)) ∧
 E.keep [0,1,4,5,6,7,9,10]=[(0,some (.sc (.int .i64 A))),(1,some (.sc (.int .i64 b))),(4,some (.sc (.ptr q4 0))),(5,some (.sc (.int .i64 sg))),(6,some (.sc (.ptr q6 0))),(7,some (.sc (.int .i64 (s:Nat)))),(9,some (.sc (.ptr q9 0))),(10,some (.sc (.int .i64 (i:Nat))))]
def R81b (h0:Qa) (q4 q6 q9:Nat) (A b sg:Int) (s:Nat) (x p:Int) (ex:Ex) (E:Env) (h:Qa):Prop:=ex=.ex 2∧∃ a d,Ext h0 h∧Cel h q4 (.int .i64 0) (.int .i64 0)∧Cel h q6 (nh x) (nl x)∧Cel h q9 (nh (p*2 ^ s)) (nl (p*2 ^ s)) ∧
 E=[(0,some (.sc (.int .i64 A))),(1,some (.sc (.int .i64 b))),(4,some (.sc (.ptr q4 0))),(5,some (.sc (.int .i64 sg))),(6,some (.sc (.ptr q6 0))),(7,some (.sc (.int .i64 (s:Nat)))),(9,some (.sc (.ptr q9 0))),(10,a),(41,d)]
def I81 (h0:Qa) (q4 q6:Nat) (A:Nat) (b sg:Int) (k:Nat) (E:Env) (h:Qa):Prop:=∃ s:Nat,s≤60∧k=60-s∧s%10=0∧Ext h0 h∧Cel h q4 (.int .i64 0) (.int .i64 0)∧Cel h q6 (nh (sg*(A%2 ^ s:Nat)*b)) (nl (sg*(A%2 ^ s:Nat)*b)) ∧
 E.keep [0,1,4,5,6,7]=[(0,some (.sc (.int .i64 (A:Nat)))),(1,some (.sc (.int .i64 b))),(4,some (.sc (.ptr q4 0))),(5,some (.sc (.int .i64 sg))),(6,some (.sc (.ptr q6 0))),(7,some (.sc (.int .i64 (s:Nat))))]
def R81 (h0:Qa) (q4 q6:Nat) (A:Nat) (b sg:Int) (ex:Ex) (E:Env) (h:Qa):Prop:=ex=.ex 0∧∃ a0 a1 a5 a7 d,Ext h0 h∧Cel h q4 (.int .i64 0) (.int .i64 0)∧Cel h q6 (nh (sg*A*b)) (nl (sg*A*b)) ∧
 E=[(0,a0),(1,a1),(4,some (.sc (.ptr q4 0))),(5,a5),(6,some (.sc (.ptr q6 0))),(7,a7),(17,d)]
end Go.Proofs.YtofknpknogfijaaGreatDoor
namespace Go.Proofs.YtofknpknogfijaaGreatDoor
open Go.Ab
set_option linter.all false
set_option maxHeartbeats 16000000
set_option maxRecDepth 20000
attribute [local irreducible] Ql wA Xr Xp QA Qp QW QY
variable [HB]
section
variable {FT:FuncId→Option AFun} {HK:FuncId→Option Xj} {E:Env} {h:Qa} {K:Env→Qa→Prop} {d:Option Nat} {r:List AOp} {x:AO}
end
def idS:SV→List Nat
 | .slc id _ _ _=>[id]
 | _=>[]
section
variable {FT:FuncId→Option AFun} {HK:FuncId→Option Xj} {E:Env} {h hb:Qa} {K:Env→Qa→Prop} {d:Option Nat} {r:List AOp} {x lo hi:AO}
end
def wp (u:Tm):P2:=(nh u.2,nl u.2)
def putM (e v:Int):List Tm→List Tm
 | []=>[(e,v)]
 | u::r=>if u.1 < e then u::putM e v r else if u.1=e then (e,u.2+v)::r else (e,v)::u::r
def I80 (h1:Qa) (q7:Nat) (sx st:SV) (e:Int) (M:List Tm) (k:Nat) (E:Env) (h:Qa):Prop:=∃ i:Nat,i≤M.length∧k=M.length-i∧(∀ u∈M.take i,u.1 < e)∧h=h1 ∧
 E.keep [0,1,2,7,10]=[(0,some (.sc sx)),(1,some (.sc st)),(2,some (.sc (.int .i64 e))),(7,some (.sc (.ptr q7 0))),(10,some (.sc (.int .i64 (i:Nat))))]
def R80 (h1:Qa) (q7:Nat) (sx st:SV) (e:Int) (M:List Tm) (ex:Ex) (E:Env) (h:Qa):Prop:=ex=.ex 0∧∃ i:Nat,∃ d,i≤M.length∧(∀ u∈M.take i,u.1 < e)∧(∀ u,M[i]?=some u→e≤u.1)∧h=h1 ∧
 E=[(0,some (.sc sx)),(1,some (.sc st)),(2,some (.sc (.int .i64 e))),(7,some (.sc (.ptr q7 0))),(10,some (.sc (.int .i64 (i:Nat)))),(25,d)]
def okT (u:Tm):Prop:=u.2≠0→u.2.natAbs≤cM∧u.1.natAbs≤eM
abbrev nzT (u:Tm):Bool:=decide (u.2≠0)
noncomputable def colP (M:List Tm):Pol:=open Classical in if ∀ u∈M,okT u then ⟨false,M.filter nzT⟩ else YP
def I82 (h0:Qa) (q4 q5:Nat) (sx st:SV) (M:List Tm) (k:Nat) (E:Env) (h:Qa):Prop:=∃ (i:Nat) (s:SV),i≤M.length∧k=M.length-i∧(∀ u∈M.take i,okT u)∧St27 h0 h q4 q5 false s ((M.take i).filter nzT) ∧
 E.keep [0,1,4,5,6]=[(0,some (.sc sx)),(1,some (.sc st)),(4,some (.sc (.ptr q4 0))),(5,some (.sc (.ptr q5 0))),(6,some (.sc (.int .i64 (i:Nat))))]
def R82 (h0:Qa) (q4 q5:Nat) (M:List Tm) (ex:Ex) (E:Env) (h:Qa):Prop :=
 (ex=.ex 0∧∃ s a b c d,(∀ u∈M,okT u)∧St27 h0 h q4 q5 false s (M.filter nzT)∧E=[(0,a),(1,b),(4,some (.sc (.ptr q4 0))),(5,some (.sc (.ptr q5 0))),(6,c),(12,d)]) ∨
 (ex=.rt∧¬ (∀ u∈M,okT u)∧Ext h0 h∧Cel h q4 .nilS (.bool true)∧E=[(4,some (.sc (.ptr q4 0)))])
def IsRfO (h0 h:Qa) (v:AV) (p:Pol):Prop:=∃ s,v=.agg [s,.bool p.big]∧OwnD h0 h s (tms p.ts)
def ngT (t:Tm):Tm:=(t.1,-t.2)
def ngP (p:Pol):Pol:=⟨p.big,p.ts.map ngT⟩
structure St48 (h0 h:Qa) (q1 q2 q3:Nat) (b:Bool) (s so:SV) (r:List Tm):Prop where
 e:Ext h0 h
 c1:Cel h q1 s (.bool b)
 c2:Cel h q2 .nilS (.bool false)
 c3:Cel h q3 so (.bool b)
 o:OwnD h0 h so (tms r)
 l:h0.length≤q1∧q1 < q2∧q2 < q3
def I48 (h0:Qa) (q1 q2 q3:Nat) (s:SV) (p:Pol) (k:Nat) (E:Env) (h:Qa):Prop:=∃ (i:Nat) (so:SV),i≤p.ts.length∧k=p.ts.length-i∧St48 h0 h q1 q2 q3 p.big s so ((p.ts.take i).map ngT) ∧
 E.keep [1,2,3,4]=[(1,some (.sc (.ptr q1 0))),(2,some (.sc (.ptr q2 0))),(3,some (.sc (.ptr q3 0))),(4,some (.sc (.int .i64 (i:Nat))))]
def R48 (h0:Qa) (q1 q2 q3:Nat) (s:SV) (p:Pol) (ex:Ex) (E:Env) (h:Qa):Prop:=ex=.ex 0∧∃ so a b,St48 h0 h q1 q2 q3 p.big s so (p.ts.map ngT) ∧
 E=[(1,some (.sc (.ptr q1 0))),(2,some (.sc (.ptr q2 0))),(3,some (.sc (.ptr q3 0))),(4,a),(12,b)]
def wSub (a b:Int):Int:=a-b
def VT (_ b:Int):Int := -b
theorem wop56:Wop 61 VT:=fun h0 a b ha hb=>by
 simp only [cM] at ha hb
 refine ⟨?_,by unfold VT;omega⟩
 refine Cal.of (F:=a61) rfl rfl rfl ?_
 repeat' (first | refine Qg ?_ | refine Qb ?_ | refine Qt ?_ | refine Qf ?_ | ((refine Qe ?_);refine Qq rfl ?_) | ((refine Qc ?_);first | refine Qo rfl ?_ | refine JR rfl (by omega) ?_))
 exact ⟨.inr rfl,rfl,rfl⟩
noncomputable def subP (p q:Pol):Pol:=Zm wSub p q
noncomputable def QeL (q:Pol):Pol:=Zm VT qL q
theorem QmE (h0:Qa) (sp:SV) (p:Pol) (hp:IsD h0 sp (tms p.ts)) (kp:Pok p) :
  ∃ r h',Cal FT HKt 24 [.agg [.bool p.big,sp]] h0 r h'∧Ext h0 h'∧yN h' r (QeL p):=by
 refine Cal.of (F:=a24) rfl rfl rfl ?_
 have k53:=fun H (e:Ext h0 H)=>QjF wop56 rfl H .nilS sp qL p (IsD.nil H) (hp.ext e) Qfd kp
 unfold QeL
 generalize Zm VT qL p=D at *
 repeat' (first | refine Qg ?_ | refine Qb ?_ | refine Qt ?_ | refine Qf ?_ | ((refine Qe ?_);first | refine Qq rfl ?_ | refine QE rfl rfl ?_) | ((refine Qc ?_);first | (have z:=e1;refine Xb ?_;intro h2 e2 c2;have d1:=c1.ext e2;have x2:=e1.trans e2) | (refine Qx rfl ?_;intro h1 e1 c1) | refine QI rfl d1 ?_ | (refine XE rfl rfl ?_) | (refine Qi rfl (k53 h2 x2) ?_;rintro r h3 ⟨e3,s,rfl,is⟩;have c2_3:=c2.ext e3) | (refine Xm rfl rfl c2_3 ?_;intro h4 w4)))
 exact ⟨.inr rfl,Xg rfl w4.cel.read ⟨w4.ext (x2.trans e3) e1.len,s,rfl,is.wrC w4⟩⟩
theorem QkP (g:Int→Int) (q:List Tm):S g (mG VT [] q) = - S g q:=by
 unfold mG
 rw [Vb (x:=0) (y := -1) (fun a b=>by unfold VT;omega)];omega
theorem S_mA (g:Int→Int) (p q:List Tm):S g (mA p q)=S g p+S g q:=by
 unfold mA
 rw [Vb (x:=1) (y:=1) (fun a b=>by omega)];omega
theorem QjX {p q:Pol} (bp:p.big=false) (bq:q.big=false):Je p q=open Classical in if yu (mA p.ts q.ts) then ⟨false,mA p.ts q.ts⟩ else YP:=by
 unfold Je;rw [if_neg (by simp [bp,bq])]
theorem Qg2 {w:Int→Int→Int} {p q:Pol} (bp:p.big=false) (bq:q.big=false):Zm w p q=open Classical in if yu (mG w p.ts q.ts) then ⟨false,mG w p.ts q.ts⟩ else YP:=by
 unfold Zm;rw [if_neg (by simp [bp,bq])]
theorem Qe2 {w:Int→Int→Int} (q:Pol):Zm w q YP=YP:=by unfold Zm;rw [if_pos (.inr rfl)]
theorem Qf8 {p q:Pol} (kp:Pok p) (kq:Pok q) (bp:p.big=false) (bq:q.big=false) (hp:Bd 524288 p.ts) (hq:Bd 524288 q.ts) :
  ∃ L,Can L∧(∀ g,S g L=S2 g p.ts q.ts)∧(Yl p q=open Classical in if ∀ t∈L,t.2.natAbs≤cM then ⟨false,L⟩ else YP):=by
 by_cases h0:p.ts=[]∨q.ts=[]
 ·refine ⟨[],.nil,fun g=>?_,?_⟩
  ·rcases h0 with h | h
   ·rw [h];rfl
   ·rw [h]
    unfold S2
    exact (zg _).symm
  ·unfold Yl
   rw [if_neg (by simp [bp,bq]),if_pos h0,if_pos (by simp)]
 ·have h1:p.ts≠[]:=fun h=>h0 (.inl h)
  have h2:q.ts≠[]:=fun h=>h0 (.inr h)
  obtain ⟨a,b⟩:=hp.lh h1
  obtain ⟨c,d⟩:=hq.lh h2
  refine ⟨Vd p.ts q.ts (qk p.ts q.ts) (Zs p.ts q.ts),J9 _ _ _,fun g=>Qnh (Qai kp.can kq.can) g,?_⟩
  unfold Yl
  rw [if_neg (by simp [bp,bq]),if_neg h0,if_neg (by unfold qk;omega)]
theorem Bd.mono {j k:Nat} {l:List Tm} (h:Bd j l) (hk:j≤k):Bd k l:=fun t ht=>Gn (h t ht) hk
theorem QlS {q:Pol} (kq:Pok q) (bq:q.big=false):QeL q=⟨false,mG VT [] q.ts⟩:=by
 unfold QeL
 rw [Qg2 rfl bq,if_pos]
 intro t ht
 have h1:=Z2 (ZL .nil kq.can) ht
 have h2:cf (mrg VT [] q.ts) t.1 = - cf q.ts t.1:=QkP _ _
 rw [h2] at h1
 have:=Qg8 kq.can kq.cf t.1
 omega
def Jo (L:List Tm) (M:List Tm):List Tm:=L.foldl (fun M t=>putM t.1 t.2 M) M
structure Sm2 (h:Qa) (sx st:SV) (M:List Tm) (n B:Nat):Prop where
 x:IsInts h sx (M.map (·.1))
 t:IsD h st (M.map wp)
 len:M.length≤n
 bd:∀ u∈M,u.2.natAbs≤n*B
structure St49 (h0 h:Qa) (q2 q3 q4:Nat) (s t:SV) (bp bq:Bool):Prop where
 e:Ext h0 h
 c2:Cel h q2 s (.bool bp)
 c3:Cel h q3 t (.bool bq)
 c4:Cel h q4 .nilS (.bool false)
def I49a (h0:Qa) (q2 q3 q4:Nat) (s t:SV) (bp bq:Bool) (P:List Tm) (k:Nat) (E:Env) (h:Qa):Prop:=∃ (i:Nat) (sx st:SV),i≤P.length∧k=P.length-i∧St49 h0 h q2 q3 q4 s t bp bq∧Sm2 h sx st (Jo (P.take i) []) i cM ∧
 E.keep [2,3,4,5,6,7]=[(2,some (.sc (.ptr q2 0))),(3,some (.sc (.ptr q3 0))),(4,some (.sc (.ptr q4 0))),(5,some (.sc sx)),(6,some (.sc st)),(7,some (.sc (.int .i64 (i:Nat))))]
def R49a (h0:Qa) (q2 q3 q4:Nat) (s t:SV) (bp bq:Bool) (P:List Tm) (ex:Ex) (E:Env) (h:Qa):Prop:=ex=.ex 0∧∃ sx st a b,St49 h0 h q2 q3 q4 s t bp bq∧Sm2 h sx st (Jo P []) P.length cM ∧
 E=[(2,some (.sc (.ptr q2 0))),(3,some (.sc (.ptr q3 0))),(4,some (.sc (.ptr q4 0))),(5,some (.sc sx)),(6,some (.sc st)),(7,a),(20,b)]
structure St49b (h0 h:Qa) (q3 q4:Nat) (t:SV) (bq:Bool):Prop where
 e:Ext h0 h
 c3:Cel h q3 t (.bool bq)
 c4:Cel h q4 .nilS (.bool false)
def I49b (h0:Qa) (q3 q4:Nat) (t:SV) (bq:Bool) (Q M0:List Tm) (n0:Nat) (k:Nat) (E:Env) (h:Qa):Prop:=∃ (i:Nat) (sx st:SV),i≤Q.length∧k=Q.length-i∧St49b h0 h q3 q4 t bq∧Sm2 h sx st (Jo (Q.take i) M0) (n0+i) cM ∧
 E.keep [3,4,5,6,8]=[(3,some (.sc (.ptr q3 0))),(4,some (.sc (.ptr q4 0))),(5,some (.sc sx)),(6,some (.sc st)),(8,some (.sc (.int .i64 (i:Nat))))]
def R49b (h0:Qa) (q3 q4:Nat) (t:SV) (bq:Bool) (Q M0:List Tm) (n0:Nat) (ex:Ex) (E:Env) (h:Qa):Prop:=ex=.ex 2∧∃ sx st a b c,St49b h0 h q3 q4 t bq∧Sm2 h sx st (Jo Q M0) (n0+Q.length) cM ∧
 E=[(3,a),(4,some (.sc (.ptr q4 0))),(5,some (.sc sx)),(6,some (.sc st)),(8,b),(46,c)]
noncomputable def addR (p q:Pol):Pol:=if p.big=true∨q.big=true then YP else colP (Jo q.ts (Jo p.ts []))
def mt (a b:Tm):Tm:=(a.1+b.1,a.2*b.2)
abbrev bM:Nat:=9903520314283042199192993792
def Qal (P Q M:List Tm):List Tm:=P.foldl (fun M a=>Jo (Q.map (mt a)) M) M
def I46b (h0:Qa) (q2 q3 q4:Nat) (s t:SV) (bp bq:Bool) (Q:List Tm) (a:Tm) (M0:List Tm) (n0 i:Nat) (k:Nat) (E:Env) (h:Qa):Prop:=∃ (j:Nat) (sx st:SV),j≤Q.length∧k=Q.length-j∧St49 h0 h q2 q3 q4 s t bp bq∧Sm2 h sx st (Jo ((Q.map (mt a)).take j) M0) (n0+j) bM ∧
 E.keep [2,3,4,5,6,7,8]=[(2,some (.sc (.ptr q2 0))),(3,some (.sc (.ptr q3 0))),(4,some (.sc (.ptr q4 0))),(5,some (.sc sx)),(6,some (.sc st)),(7,some (.sc (.int .i64 (i:Nat)))),(8,some (.sc (.int .i64 (j:Nat))))]
def R46b (h0:Qa) (q2 q3 q4:Nat) (s t:SV) (bp bq:Bool) (Q:List Tm) (a:Tm) (M0:List Tm) (n0 i:Nat) (ex:Ex) (E:Env) (h:Qa):Prop:=ex=.ex 2∧∃ sx st b c,St49 h0 h q2 q3 q4 s t bp bq∧Sm2 h sx st (Jo (Q.map (mt a)) M0) (n0+Q.length) bM ∧
 E=[(2,some (.sc (.ptr q2 0))),(3,some (.sc (.ptr q3 0))),(4,some (.sc (.ptr q4 0))),(5,some (.sc sx)),(6,some (.sc st)),(7,some (.sc (.int .i64 (i:Nat)))),(8,b),(27,c)]
def I46a (h0:Qa) (q2 q3 q4:Nat) (s t:SV) (bp bq:Bool) (P Q:List Tm) (k:Nat) (E:Env) (h:Qa):Prop:=∃ (i:Nat) (sx st:SV),i≤P.length∧k=P.length-i∧St49 h0 h q2 q3 q4 s t bp bq∧Sm2 h sx st (Qal (P.take i) Q []) (i*Q.length) bM ∧
 E.keep [2,3,4,5,6,7]=[(2,some (.sc (.ptr q2 0))),(3,some (.sc (.ptr q3 0))),(4,some (.sc (.ptr q4 0))),(5,some (.sc sx)),(6,some (.sc st)),(7,some (.sc (.int .i64 (i:Nat))))]
def R46a (h0:Qa) (q2 q3 q4:Nat) (s t:SV) (bp bq:Bool) (P Q:List Tm) (ex:Ex) (E:Env) (h:Qa):Prop:=ex=.ex 0∧∃ sx st a b c d,St49 h0 h q2 q3 q4 s t bp bq∧Sm2 h sx st (Qal P Q []) (P.length*Q.length) bM ∧
 E=[(2,a),(3,b),(4,some (.sc (.ptr q4 0))),(5,some (.sc sx)),(6,some (.sc st)),(7,c),(20,d)]
end Go.Proofs.YtofknpknogfijaaGreatDoor
namespace Go.Proofs.YtofknpknogfijaaGreatDoor
set_option linter.all false
variable [HB]
def Asc (l:List Tm):Prop:=l.Pairwise fun a b=>a.1 < b.1
theorem S_ng (g:Int→Int):∀ l:List Tm,S g (l.map ngT) = - S g l
 | []=>rfl
 | t::l=>by
  simp only [List.map_cons,S,ngT]
  rw [S_ng g l,Int.neg_mul];omega
theorem Qg9 {l:List Tm} (h:Can l):Can (l.map ngT) :=
 ⟨List.pairwise_map.2 (h.asc.imp fun {x y} hxy=>hxy),fun t ht=>by
  obtain ⟨u,hu,rfl⟩:=List.mem_map.1 ht
  have:=h.nz u hu
  show -u.2≠0
  omega⟩
theorem Qje {q:Pol} (k:Pok q):QeL q=ngP q:=by
 cases hb:q.big with
 | true =>
  have:=QmS k hb
  rw [this]
  unfold QeL;rw [Qe2];rfl
 | false =>
  rw [QlS k hb]
  have e:mG VT [] q.ts=q.ts.map ngT:=Can.ext (ZL .nil k.can) (Qg9 k.can) fun e=>by
   show S (dl e) _=S (dl e) _
   rw [QkP,S_ng]
  rw [e];unfold ngP;rw [hb]
theorem lo0_ng (l:List Tm):lo0 (l.map ngT)=lo0 l:=by cases l <;> rfl
def hd0 (l:List Tm):Int:=match l with
 | []=>0
 | t::_=>t.2
def shT (l:List Tm):List Tm:=l.map fun t=>(t.1-lo0 l,t.2)
def sgT (l:List Tm):List Tm:=if hd0 l < 0 then l.map ngT else l
def nrmP (p:Pol):Pol:=if p.big=true∨p.ts=[] then p else ⟨false,shT (sgT p.ts)⟩
def Sml (p:Pol):Prop:=∀ t∈p.ts,t.1.natAbs≤300
noncomputable def rfN (p:Pol):Pol:=if p.big=true∨p.ts=[] then p else if hd0 p.ts < 0 then ngP (colP (Qal p.ts [(-lo0 p.ts,1)] [])) else colP (Qal p.ts [(-lo0 p.ts,1)] [])
open Go.Ab
set_option maxHeartbeats 16000000
set_option maxRecDepth 20000
attribute [local irreducible] Ql wA Xr Xp QA Qp QW QY
def Jy (i:Nat):Nat:=2305843009213562881-131072*i
def qf (n b:Nat):Nat:=YI n 64 1 b ((n-1) / 131072)
def qh (n b:Nat):Bool:=YI n 64 1 (qf n b) 65536 == n-1
abbrev fP (l:List (Nat × Nat)):List P2:=l.map fun x=>(SV.int .u64 (x.1:Int),SV.int .u64 (x.2:Int))
def YF (i:Nat):List (Nat × Nat):=(if 15 < i then [(p1,r1)] else [])++(if 27 < i then [(p2,r2)] else [])
theorem prs28:((List.range 28).all fun i=>prM (Jy i) == (i == 15 || i == 27))=true:=by decide +kernel
theorem Qi7 {i:Nat} (h:i < 28):prM (Jy i)=(i == 15 || i == 27):=by
 have:=Hd.1 prs28 i (Hk.2 h)
 exact eq_of_beq this
theorem root1:qh p1 13=true∧((List.range 13).all fun b=>decide (b < 2) || qh p1 b == false)=true∧qf p1 13=r1:=by decide +kernel
theorem root2:qh p2 5=true∧((List.range 5).all fun b=>decide (b < 2) || qh p2 b == false)=true∧qf p2 5=r2:=by decide +kernel
structure RootAt (n B r:Nat):Prop where
 ok:qh n B=true
 no:∀ b,2≤b→b < B→qh n b=false
 eq:qf n B=r
 two:2≤B
 le:B≤100
theorem Qkf {n B:Nat} (h:((List.range B).all fun b=>decide (b < 2) || qh n b == false)=true):∀ b,2≤b→b < B→qh n b=false:=fun b h1 h2=>by
 have:=Hd.1 h b (Hk.2 h2)
 rw [Bool.or_eq_true,decide_eq_true_iff] at this
 rcases this with h | h
 ·omega
 ·exact eq_of_beq h
theorem Qi3:RootAt p1 13 r1:=⟨root1.1,Qkf root1.2.1,root1.2.2,by decide,by decide⟩
theorem Qi2:RootAt p2 5 r2:=⟨root2.1,Qkf root2.2.1,root2.2.2,by decide,by decide⟩
structure F95 (q5 n r:Nat) (s:SV) (ps:List P2) (h0 h:Qa):Prop where
 x:Ext h0 h
 c5:Cel h q5 (.int .u64 (n:Nat)) (.int .u64 (r:Nat))
 o:OwnD h0 h s ps
 l:h0.length≤q5
theorem F95.ext {q5 n r:Nat} {s:SV} {ps:List P2} {h0 h h':Qa} (f:F95 q5 n r s ps h0 h) (e:Ext h h'):F95 q5 n r s ps h0 h':=⟨f.x.trans e,f.c5.ext e,f.o.ext e,f.l⟩
def I95b (q5 n B c:Nat) (s:SV) (ps:List P2) (h0:Qa) (m:Nat) (E:Env) (h:Qa):Prop:=∃ b r,2≤b∧b≤B∧m=B-b∧F95 q5 n r s ps h0 h ∧
 E.keep [0,3,4,5,6]=[(0,some (.sc (.int .i64 (c:Nat)))),(3,some (.sc s)),(4,some (u n)),(5,some (.sc (.ptr q5 0))),(6,some (u b))]
def R95b (q5 n r c:Nat) (s:SV) (ps:List P2) (h0:Qa) (ex:Ex) (E:Env) (h:Qa):Prop:=ex=.ex 2∧F95 q5 n r s ps h0 h ∧
 ∃ a b,E=[(0,some (.sc (.int .i64 (c:Nat)))),(3,some (.sc s)),(4,some (u n)),(5,some (.sc (.ptr q5 0))),(6,a),(35,b)]
theorem QfE (q5 n B R c:Nat) (s:SV) (ps:List P2) (h0:Qa) (hn:2 < n∧n < 9223372036854775808) (hB:RootAt n B R) (m:Nat) (E:Env) (h:Qa) (hI:I95b q5 n B c s ps h0 m E h) :
  wA FT HKt Qkq (E.keep [0,3,4,5,6]) h (Qp (I95b q5 n B c s ps h0) m (R95b q5 n R c s ps h0)):=by
 obtain ⟨b,r,h2,hb,rfl,f,hE⟩:=hI
 rw [hE]
 have le:=hB.le
 have c5:=f.c5
 have k1:=fun H (r':Nat)=>yJ H n r' b ((n-1) / 131072) ⟨by omega,by omega⟩ (by omega) (by omega)
 have hlt:YI n 64 1 b ((n-1) / 131072) < 18446744073709551616:=GG (Zy 64 1 b _ (by omega)) (by omega)
 have k2:=fun H=>yJ H n (YI n 64 1 b ((n-1) / 131072)) (YI n 64 1 b ((n-1) / 131072)) 65536 ⟨by omega,by omega⟩ hlt (by omega)
 have eR:YI n 64 1 b ((n-1) / 131072)=qf n b:=rfl
 rw [eR] at k1 k2 hlt
 have hsh:((n:Int)-1) / ((2 ^ 17:Nat):Int)=(((n-1) / 131072:Nat):Int):=by omega
 have e1:((n:Int)-1)=((n-1:Nat):Int):=by omega
 have hlt2:YI n 64 1 (qf n b) 65536 < n:=Zy 64 1 _ _ (by omega)
 by_cases hok:qh n b=true
 ·have hv:YI n 64 1 (qf n b) 65536=n-1:=eq_of_beq hok
  have:b=B:=by
   apply Classical.byContradiction
   intro hne
   have:=hB.no b h2 (by omega)
   rw [this] at hok;cases hok
  subst this
  have eq:=hB.eq
  rw [hv] at k2
  repeat' (first | refine Qg ?_ | refine Qb ?_ | refine Q0 ?_ | refine Qv ?_ | refine QX ?_ | refine Qf ?_ | (refine JJ ?_ ?_;rfl) | ((refine Qh ?_);refine Qj rfl ?_) | ((refine Qe ?_);first | refine QU rfl rfl rfl rfl rfl ?_ | refine QT rfl rfl rfl rfl rfl rfl ?_) | ((refine Qc ?_);first | refine QI rfl c5 ?_ | refine Xi rfl ?_ | (refine XJ rfl rfl (by omega) ?_) | (refine XN (q:=17) rfl rfl rfl (by decide) ?_;rw [hsh]) | (refine Qi rfl (k1 _ _) ?_;rintro v1 h1 ⟨x1,rfl⟩;have f1:=f.ext x1;have c6:=f1.c5) | (refine Jr rfl rfl c6 ?_;intro h2 w2;have c7:=w2.cel) | refine QI rfl c7 ?_ | refine Qz rfl c7 ?_ | (refine Qi rfl (k2 _) ?_;rintro v3 h3 ⟨x3,rfl⟩) | refine Qo rfl ?_ | refine XD rfl rfl (by omega) ?_))
  exact QN ⟨rfl,⟨(w2.ext f1.x f1.l).trans x3,by rw [← eq];exact c7.ext x3,(f1.o.wrC w2).ext x3,f1.l⟩,_,_,rfl⟩
 ·have hv:YI n 64 1 (qf n b) 65536≠n-1:=fun e=>hok (by unfold qh;rw [e];simp)
  have hbB:b < B:=by
   rcases Gw b B with h | h
   ·exact h
   ·have:b=B:=by omega
    subst this;exact absurd hB.ok hok
  generalize YI n 64 1 (qf n b) 65536=V at *
  repeat' (first | refine Qg ?_ | refine Qb ?_ | refine Qv ?_ | refine QJ ?_ | refine Qn ?_ | refine Qf ?_ | ((refine Qh ?_);refine Qk rfl ?_) | ((refine Qe ?_);first | refine QU rfl rfl rfl rfl rfl ?_ | refine QT rfl rfl rfl rfl rfl rfl ?_) | ((refine Qc ?_);first | refine QI rfl c5 ?_ | refine Xi rfl ?_ | (refine XJ rfl rfl (by omega) ?_) | (refine XN (q:=17) rfl rfl rfl (by decide) ?_;rw [hsh]) | (refine Qi rfl (k1 _ _) ?_;rintro v1 h1 ⟨x1,rfl⟩;have f1:=f.ext x1;have c6:=f1.c5) | (refine Jr rfl rfl c6 ?_;intro h2 w2;have c7:=w2.cel) | refine QI rfl c7 ?_ | refine Qz rfl c7 ?_ | (refine Qi rfl (k2 _) ?_;rintro v3 h3 ⟨x3,rfl⟩) | refine YK rfl rfl (by omega) ?_ | refine Qo rfl ?_ | refine Xf rfl rfl (by omega) ?_))
  exact QB (j:=B-(b+1)) (by omega) ⟨b+1,qf n b,by omega,by omega,rfl,⟨(w2.ext f1.x f1.l).trans x3,c7.ext x3,(f1.o.wrC w2).ext x3,f1.l⟩,rfl⟩
def I95 (c:Nat) (h0:Qa) (m:Nat) (E:Env) (h:Qa):Prop:=∃ (i:Nat) (s:SV),i≤28∧m=28-i∧(YF i).length≤c∧Ext h0 h∧OwnD h0 h s (fP (YF i)) ∧
 E.keep [0,3,4]=[(0,some (.sc (.int .i64 (c:Nat)))),(3,some (.sc s)),(4,some (u (Jy i)))]
def R95 (c:Nat) (h0:Qa) (ex:Ex) (E:Env) (h:Qa):Prop:=ex=.ex 0∧Ext h0 h∧∃ (i:Nat) (s:SV),i≤28∧(YF i).length=c∧OwnD h0 h s (fP (YF i)) ∧
 ∃ a b d,E=[(0,a),(3,some (.sc s)),(4,b),(12,d)]
theorem OwnD.len' {h0 h:Qa} {s:SV} {l:List (Nat × Nat)} (o:OwnD h0 h s (fP l)):Yi false s=some (l.length:Int):=by
 have:=o.is.len
 rw [Gt] at this
 exact this
theorem QeW (i:Nat):(YF i).length≤2:=by unfold YF;split <;> split <;> simp
theorem Qcv {i:Nat} (h1:i≠15) (h2:i≠27):YF (i+1)=YF i:=by
 unfold YF
 by_cases h:15 < i
 ·rw [if_pos h,if_pos (by omega)]
  by_cases h3:27 < i
  ·rw [if_pos h3,if_pos (by omega)]
  ·rw [if_neg h3,if_neg (by omega)]
 ·rw [if_neg h,if_neg (by omega),if_neg (by omega),if_neg (by omega)]
theorem QeV {i:Nat} (h:i=15∨i=27):∃ B r,RootAt (Jy i) B r∧YF (i+1)=YF i++[(Jy i,r)]:=by
 rcases h with rfl | rfl
 ·exact ⟨13,r1,Qi3,by decide⟩
 ·exact ⟨5,r2,Qi2,by decide⟩
theorem QiN (c:Nat) (hc:1≤c∧c≤2) (h0:Qa) (m:Nat) (E:Env) (h:Qa) (hI:I95 c h0 m E h) :
  wA FT HKt Qkr (E.keep [0,3,4]) h (Qp (I95 c h0) m (R95 c h0)):=by
 obtain ⟨i,s,hi,rfl,hl,x,o,hE⟩:=hI
 rw [hE]
 have ls:=OwnD.len' o
 by_cases hlt:(YF i).length < c
 ·have hi28:i < 28:=by
   rcases Gw i 28 with h | h
   ·exact h
   ·have:i=28:=by omega
    subst this
    have:(YF 28).length=2:=by decide
    omega
  have hcl:2305843000000000000 < Jy i∧Jy i < 9223372036854775808:=by unfold Jy;omega
  have hc1:Jy (i+1)+131072=Jy i:=by unfold Jy;omega
  have k118:=fun H=>QdR H (Jy i) ⟨by omega,by omega⟩
  have hpr:=Qi7 hi28
  by_cases hp:i=15∨i=27
  ·have hp1:prM (Jy i)=true:=by rw [hpr];rcases hp with rfl | rfl <;> rfl
   rw [hp1] at k118
   obtain ⟨B,R,ra,hf⟩:=QeV hp
   have rl:=fun q5 h1 (o:OwnD h0 h1 s (fP (YF i)))=>QfE q5 (Jy i) B R c s (fP (YF i)) h0 ⟨by omega,hcl.2⟩ ra
   have two:=ra.two
   clear ra hpr hp1
   generalize hn:Jy i=n at *
   generalize hn1:Jy (i+1)=n1 at *
   have en:((n:Int)-131072)=(n1:Nat):=by omega
   repeat' (first | refine Qg ?_ | refine Qb ?_ | refine Qv ?_ | refine Qn ?_ | refine Qf ?_ | ((refine Qh ?_);first | refine Qj rfl ?_ | refine Qk rfl ?_) | ((refine Qe ?_);first | refine QG rfl rfl rfl rfl ?_ | refine QU rfl rfl rfl rfl rfl ?_) | ((refine Qc ?_);first | refine Qs rfl ls ?_ | (refine Qi rfl (k118 _) ?_;rintro v1 h1 ⟨x1,rfl⟩) | refine XE rfl rfl ?_ | (refine Yd rfl ?_;intro h2 x2 c5) | refine Qo rfl ?_ | refine XR rfl ?_ | refine Qy rfl rfl (by omega) ?_))
   refine Q9 (I95b h1.length n B c s (fP (YF i)) h0) (B-2) (R95b h1.length n R c s (fP (YF i)) h0) ⟨2,0,Gf _,two,rfl,⟨(x.trans x1).trans x2,c5,(o.ext x1).ext x2,by have:=x.len;have:=x1.len;omega⟩,rfl⟩ (rl h1.length h2 ((o.ext x1).ext x2)) ?_
   rintro ex E' h3 ⟨rfl,f3,_,_,rfl⟩
   have c3:=f3.c5
   repeat' (first | refine Qb ?_ | refine QJ ?_ | refine QP ?_ | refine Qf ?_ | ((refine Qe ?_);refine Qu rfl rfl rfl ?_) | ((refine Qc ?_);first | refine QI rfl c3 ?_ | (refine Qcq rfl ?_;intro h4 x4 s4) | (refine QdC (f3.x.trans x4) (f3.o.ext x4) rfl rfl s4 (by have:=QeW i;simp only [Gt,Yu];omega) ?_;intro s5 h5 o5 x5 fr5 l5) | (refine XJ rfl rfl (by omega) ?_;rw [en]) | refine Qo rfl ?_))
   refine QB (j:=28-(i+1)) (by omega) ⟨i+1,s5,by omega,rfl,by rw [hf];simp;omega,x5,?_,by rw [hn1];rfl⟩
   rw [hf]
   simpa using o5
  ·have hp1:prM (Jy i)=false:=by
    rw [hpr,Bool.or_eq_false_iff,beq_eq_false_iff_ne,beq_eq_false_iff_ne]
    exact ⟨fun e=>hp (.inl e),fun e=>hp (.inr e)⟩
   rw [hp1] at k118
   have hf:=Qcv (i:=i) (fun e=>hp (.inl e)) (fun e=>hp (.inr e))
   generalize hn:Jy i=n at *
   generalize hn1:Jy (i+1)=n1 at *
   have en:((n:Int)-131072)=(n1:Nat):=by omega
   repeat' (first | refine Qg ?_ | refine Qb ?_ | refine Q0 ?_ | refine Qv ?_ | refine QP ?_ | refine Qn ?_ | refine QX ?_ | refine Qf ?_ | ((refine Qh ?_);refine Qj rfl ?_) | ((refine Qe ?_);first | refine Qu rfl rfl rfl ?_ | refine QG rfl rfl rfl rfl ?_) | ((refine Qc ?_);first | refine Qs rfl ls ?_ | (refine Qi rfl (k118 _) ?_;rintro v1 h1 ⟨x1,rfl⟩) | (refine XJ rfl rfl (by omega) ?_;rw [en]) | refine Qo rfl ?_ | refine Yw rfl ?_ | refine Qy rfl rfl (by omega) ?_))
   exact QB (j:=28-(i+1)) (by omega) ⟨i+1,s,by omega,rfl,by rw [hf];exact hl,x.trans x1,by rw [hf];exact o.ext x1,by rw [hn1];rfl⟩
 ·repeat' (first | refine Qg ?_ | refine Qb ?_ | refine Q0 ?_ | refine QX ?_ | refine Qf ?_ | ((refine Qh ?_);refine Qk rfl ?_) | ((refine Qe ?_);refine QG rfl rfl rfl rfl ?_) | ((refine Qc ?_);first | refine Qs rfl ls ?_ | refine Qo rfl ?_ | refine QM rfl rfl (by omega) ?_))
  exact QN ⟨rfl,x,i,s,hi,by omega,o,_,_,_,rfl⟩
def Yt (c:Nat):List (Nat × Nat):=if c=1 then [(p1,r1)] else [(p1,r1),(p2,r2)]
theorem Qcw {i c:Nat} (hc:1≤c∧c≤2) (h:(YF i).length=c):YF i=Yt c:=by
 unfold Yt
 unfold YF at h ⊢
 by_cases h1:15 < i
 ·by_cases h2:27 < i
  ·rw [if_pos h1,if_pos h2] at h ⊢
   rw [if_neg (by simp at h;omega)];rfl
  ·rw [if_pos h1,if_neg h2] at h ⊢
   rw [if_pos (by simp at h;omega)];rfl
 ·rw [if_neg h1,if_neg (by omega)] at h
  simp at h;omega
theorem Qmk (h0:Qa) (c:Nat) (hc:1≤c∧c≤2):∃ r h',Cal FT HKt 95 [.sc (.int .i64 (c:Nat))] h0 r h'∧Ext h0 h'∧∃ s,r=.sc s∧OwnD h0 h' s (fP (Yt c)):=by
 refine Cal.of (F:=a95) rfl rfl rfl ?_
 repeat' (first | refine Qg ?_ | refine Qb ?_ | refine Qv ?_ | refine Qf ?_ | ((refine Qe ?_);first | refine Qq rfl ?_ | refine QE rfl rfl ?_ | refine Qu rfl rfl rfl ?_) | ((refine Qc ?_);first | (refine Qdz (Ext.refl h0) rfl rfl ⟨by decide,by omega,by unfold Yu;omega⟩ ?_;intro s1 h1 o1 x1 x1' l1) | refine Qo rfl ?_))
 have e0:List.replicate ((0:Int)).toNat (SV.int .u64 0,SV.int .u64 0)=fP (YF 0):=by decide
 rw [e0] at o1
 refine Q9 (I95 c h0) 28 (R95 c h0) ⟨0,s1,by omega,rfl,by rw [show YF 0=[] by decide];exact Gs _,x1,o1,rfl⟩ (QiN c hc h0) ?_
 rintro ex E' h2 ⟨rfl,x2,i,s2,hi,hl,o2,_,_,_,rfl⟩
 rw [Qcw hc hl] at o2
 repeat' (first | refine Qg ?_ | refine Qb ?_ | refine QP ?_ | refine Qt ?_ | refine Qf ?_ | ((refine Qe ?_);refine Qq rfl ?_) | ((refine Qc ?_);refine Qo rfl ?_))
 exact ⟨.inr rfl,x2,s2,rfl,o2⟩
def Qe9 (p N t:Nat) (pws:List Nat) (x:Nat) (m:Tm):Nat:=adM p x (ofM p m.2*pws.getD (m.1.toNat*t%N) 0%p)
def acc (p N t:Nat) (pws:List Nat) (l:List Tm):Nat:=l.foldl (Qe9 p N t pws) 0
theorem QhY {p N t i:Nat} {pws:List Nat} {l:List Tm} {m:Tm} (h:l[i]?=some m):acc p N t pws (l.take (i+1))=Qe9 p N t pws (acc p N t pws (l.take i)) m:=by
 unfold acc
 rw [GF,h,List.foldl_append];rfl
def U8 (p:Nat) (m:Tm):Prop:=0≤m.1∧m.1≤100000∧m.2.natAbs < p
theorem QcL {p N t:Nat} {pws:List Nat} (hp:0 < p):∀ {l:List Tm},acc p N t pws l < p:=by
 intro l
 unfold acc
 have:∀ (l:List Tm) (x:Nat),x < p→l.foldl (Qe9 p N t pws) x < p:=by
  intro l
  induction l with
  | nil=>intro x h;exact h
  | cons m l ih=>intro x h;exact ih _ (QcK h (GU _ hp))
 exact this l 0 hp
structure S108 (q rid:Nat) (top:List SV) (row:List Nat) (hb H h:Qa):Prop where
 x:Ext hb h
 c:Chg (·=rid) H h
 t:h[q]?=some (.cells top true 1)
 b:Bu h rid row
 lo:hb.length≤rid∧q≠rid
theorem S108.ext {q rid:Nat} {top:List SV} {row:List Nat} {hb H h h':Qa} (s:S108 q rid top row hb H h) (e:Ext h h'):S108 q rid top row hb H h' :=
 ⟨s.x.trans e,s.c.ext e,by obtain ⟨t,rfl⟩:=e;rw [Gk (Gb.1 s.t).1,s.t],s.b.ext e,s.lo⟩
theorem S108.put {q rid:Nat} {top:List SV} {row:List Nat} {hb H h:Qa} (s:S108 q rid top row hb H h) (row':List Nat):S108 q rid top row' hb H (h.set rid (.cells (row'.map fun (x:Nat)=>SV.int .u64 (x:Int)) true 1)) :=
 ⟨Ext.setF s.x s.lo.1 _,s.c.set rfl _,by rw [Gj (Ne.symm s.lo.2),s.t],s.b.set,s.lo⟩
section
variable {FT:FuncId→Option AFun} {HK:FuncId→Option Xj} {E:Env} {h:Qa} {K:Env→Qa→Prop} {r:List AOp} {x:AO}
theorem qq {t:Nat} {z1 z2 v w:SV} (hx:ev (Qr (some t) (some (.sc (.ptr h.length 0))) E) x=some (.agg [v,w])) (hw:∀ h1,Ext h h1→Cel h1 h.length v w→Ql FT HK r (Qr (some t) (some (.sc (.ptr h.length 0))) E) h1 K) :
  Ql FT HK (⟨some t,.new [z1,z2],none⟩::⟨none,.st 2 (.t t) x,none⟩::r) E h K :=
 Xb fun h1 e1 c1=>Xm (by simp [evS,ev,Qr,Env.get]) hx c1 fun h2 w2=>hw h2 (w2.ext e1 (Gf _)) w2.cel
end
theorem Qfq {h:Qa} {q i:Nat} {cs:List SV} {v:SV} (ht:h[q]?=some (.cells cs true 1)) (hi:cs[i]?=some v):QZ h q (0+i*1) 1=some [v]:=by
 have hl:=(Gb.1 hi).1
 simp only [QZ,ht,cut]
 rw [if_pos (by omega)]
 congr 1
 rw [G0,G3]
 apply Gr
 intro j
 cases j with
 | zero=>simp [hi]
 | succ j=>simp;omega
def Qh8 (p g q3 N t pid q rid n i k:Nat) (pws row:List Nat) (top:List SV) (l:List Tm) (ts:SV) (a1 a2 a8 a12 a64 a65 a71 a72 a73 a84 a85 a86:AV) (hb H:Qa) (m:Nat) (E:Env) (h:Qa):Prop:=∃ j,j≤l.length∧m=l.length-j∧S108 q rid top (row.set k (acc p N t pws (l.take j))) hb H h ∧
 E.keep [1,2,3,7,8,10,12,13,14,15,17,64,65,71,72,73,84,85,86,91,92,93]=[(1,some a1),(2,some a2),(3,some (.sc (.ptr q3 0))),(7,some (.sc (.int .i64 (N:Nat)))),(8,some a8),(10,some (.sc (.slc pid 0 N (some N)))),(12,some a12),(13,some (.sc (.int .i64 (t:Nat)))),(14,some (.sc (.slc q 0 n (some n)))),(15,some (.sc (.int .i64 (i:Nat)))),(17,some (.sc (.int .i64 (k:Nat)))),(64,some a64),(65,some a65),(71,some a71),(72,some a72),(73,some a73),(84,some a84),(85,some a85),(86,some a86),(91,some (.sc ts)),(92,some (.sc (.int .i64 (l.length:Nat)))),(93,some (.sc (.int .i64 (j:Nat))))]
def QkV (p g q3 N t pid q rid n i k:Nat) (pws row:List Nat) (top:List SV) (l:List Tm) (a1 a2 a8 a12 a64 a65 a71 a72 a73 a84 a85 a86:AV) (hb H:Qa) (ex:Ex) (E:Env) (h:Qa):Prop:=ex=.ex 12∧S108 q rid top (row.set k (acc p N t pws l)) hb H h ∧
 ∃ a b c d,E=[(1,some a1),(2,some a2),(3,some (.sc (.ptr q3 0))),(7,some (.sc (.int .i64 (N:Nat)))),(8,some a8),(10,some (.sc (.slc pid 0 N (some N)))),(12,some a12),(13,some (.sc (.int .i64 (t:Nat)))),(14,some (.sc (.slc q 0 n (some n)))),(15,some (.sc (.int .i64 (i:Nat)))),(17,a),(64,some a64),(65,some a65),(71,some a71),(72,some a72),(73,some a73),(84,some a84),(85,some a85),(86,some a86),(91,b),(92,c),(93,d),(94,some (.sc (.bool false)))]
theorem Qen (p g q3 N t pid q rid n i k:Nat) (pws row:List Nat) (top:List SV) (l:List Tm) (ts:SV) (a1 a2 a8 a12 a64 a65 a71 a72 a73 a84 a85 a86:AV) (hb H:Qa) (hp:0 < p∧p < 9223372036854775808) (hN:0 < N∧N≤131072) (ht:t < N) (hl:l.length≤1000000) (hi:i < n) (hk:k < n) (hrow:row.length=n)
  (c3:Cel hb q3 (.int .u64 (p:Nat)) (.int .u64 (g:Nat))) (bp:Bu hb pid pws) (lp:pws.length=N) (pp:∀ x∈pws,x < p) (dt:IsD hb ts (tms l)) (tok:∀ m∈l,U8 p m) (htop:top[i]?=some (.slc rid 0 n (some n))) (m:Nat) (E:Env) (h:Qa) (hI:Qh8 p g q3 N t pid q rid n i k pws row top l ts a1 a2 a8 a12 a64 a65 a71 a72 a73 a84 a85 a86 hb H m E h) :
  wA FT HKt Qhz (E.keep [1,2,3,7,8,10,12,13,14,15,17,64,65,71,72,73,84,85,86,91,92,93]) h (Qp (Qh8 p g q3 N t pid q rid n i k pws row top l ts a1 a2 a8 a12 a64 a65 a71 a72 a73 a84 a85 a86 hb H) m (QkV p g q3 N t pid q rid n i k pws row top l a1 a2 a8 a12 a64 a65 a71 a72 a73 a84 a85 a86 hb H)):=by
 obtain ⟨j,hj,rfl,s,hE⟩:=hI
 rw [hE]
 by_cases hlt:j < l.length
 ·obtain ⟨y,hy⟩:∃ y,l[j]?=some y:=⟨_,Ga hlt⟩
  have ok:=tok y (Gh hy)
  obtain ⟨id,off,cap,es,rA⟩:=dt.at (i:=j) (p:=tmP y) (by simp [hy])
  rw [Q6] at es
  subst es
  have rA0:=QH s.x rA
  obtain ⟨e,he⟩:∃ e:Nat,y.1=e:=⟨y.1.toNat,by have:=ok.1;omega⟩
  obtain ⟨y1,y2⟩:=y
  simp only at he
  subst he
  have step:=QhY (p:=p) (N:=N) (t:=t) (pws:=pws) hy
  have hmul:e*t≤100000*131072:=Nat.mul_le_mul (by have:=ok.2.1;simp only at this;omega) (by omega)
  have hme:((e:Int)*(t:Int))=((e*t:Nat):Int):=by rw [GZ]
  have hmr:(((e*t:Nat):Int)%(N:Int))=((e*t%N:Nat):Int):=by rw [Int.natCast_emod]
  have hix:e*t%N < N:=GU _ hN.1
  have rp:=fun h (x:Ext hb h)=>QH x (bp.rd (i:=e*t%N) (by omega))
  have hpw:pws.getD (e*t%N) 0 < p:=by rw [Ge,Ga (by omega)];exact pp _ (GD _)
  have rt:=Qfq s.t htop
  have hac:acc p N t pws (l.take j) < p:=QcL hp.1
  have rv:=s.b.rd (i:=k) (by rw [G1];omega)
  have gd:(row.set k (acc p N t pws (l.take j))).getD k 0=acc p N t pws (l.take j):=by rw [Ge,GC (by omega)];rfl
  rw [gd] at rv
  have k99:=fun H=>QcC H p g y2 hp.2 ok.2.2
  have hof:ofM p y2 < p:=Qcj ok.2.2
  have k98:=fun H=>YY H p g (ofM p y2) (pws.getD (e*t%N) 0) ⟨hp.1,by omega⟩ (by omega) (by omega)
  have hT:ofM p y2*pws.getD (e*t%N) 0%p < p:=GU _ hp.1
  have k129:=fun H=>QaH H p g (acc p N t pws (l.take j)) (ofM p y2*pws.getD (e*t%N) 0%p) hp.2 hac hT
  have ea:adM p (acc p N t pws (l.take j)) (ofM p y2*pws.getD (e*t%N) 0%p)=acc p N t pws (l.take (j+1)):=step.symm
  rw [ea] at k129
  have nx:=fun h' (x:Ext h h')=>(s.ext x).put ((row.set k (acc p N t pws (l.take j))).set k (acc p N t pws (l.take (j+1))))
  have wr:=fun h' (x:Ext h h')=>(s.ext x).b.wr (i:=k) (y:=acc p N t pws (l.take (j+1))) (by rw [G1];omega)
  rw [List.set_set] at nx wr
  clear step ea
  generalize hA1:acc p N t pws (l.take (j+1))=A1 at *
  generalize acc p N t pws (l.take j)=A0 at *
  generalize hP:pws.getD (e*t%N) 0=P at *
  generalize ofM p y2=Y at *
  generalize Y*P%p=T at *
  generalize e*t%N=ix at *
  have x0:=Ext.refl h
  repeat' (first | refine Qg ?_ | refine Qb ?_ | refine Qv ?_ | refine QJ ?_ | refine Qn ?_ | refine Qf ?_ | refine Q2 ?_ | refine Xk ?_ | refine Xl ?_ | ((refine Qh ?_);refine Qj rfl ?_) | ((refine Qe ?_);first | refine Q1 ?_ | refine Xw ?_ | refine XZ (by assumption) ?_ | refine qP rfl rfl rfl rfl rfl rfl rfl rfl rfl rfl rfl rfl rfl rfl rfl rfl rfl rfl rfl rfl rfl rfl ?_ | refine qO rfl rfl rfl rfl rfl rfl rfl rfl rfl rfl rfl rfl rfl rfl rfl rfl rfl rfl rfl rfl rfl rfl rfl ?_ | refine zJ rfl rfl rfl rfl rfl rfl rfl rfl rfl rfl rfl rfl rfl rfl rfl rfl rfl rfl rfl rfl rfl rfl rfl rfl ?_) | ((refine Qc ?_);first | (refine qq rfl ?_;intro h1 x1 c20;replace x0:=x1) | refine Xi rfl ?_ | (have z:=c20;refine QQ rfl (c20.ext (Ext.refl _)) ?_) | refine Qz rfl c20 ?_ | refine XX rfl rA0 ?_ | (refine zx rfl rfl (by rw [hme];omega) ?_;rw [hme]) | (refine UG rfl rfl (by omega) ?_;rw [hmr]) | refine Qw (esz:=1) rfl rfl (by omega) ?_ | refine Qw (esz:=2) rfl rfl (by omega) ?_ | refine Q4 rfl (rp _ (s.x.trans x0)) ?_ | refine Q4 rfl (QH x0 rt) ?_ | refine Q4 rfl (QH x0 rv) ?_ | refine QI rfl (c3.ext (s.x.trans x0)) ?_ | (refine Qi rfl (k99 _) ?_;rintro v2 h2 ⟨e2,rfl⟩;replace x0:=x0.trans e2) | (refine Qi rfl (k98 _) ?_;rintro v2 h2 ⟨e2,rfl⟩;replace x0:=x0.trans e2) | (refine Qi rfl (k129 _) ?_;rintro v2 h2 ⟨e2,rfl⟩;replace x0:=x0.trans e2) | refine ZX rfl rfl (wr _ x0) ?_ | refine Qo rfl ?_ | refine QK rfl rfl (by omega) ?_ | refine Qy rfl rfl (by omega) ?_))
  exact QB (j:=l.length-(j+1)) (by omega) ⟨j+1,by omega,rfl,by rw [hA1];exact nx _ x0,rfl⟩
 ·have:j=l.length:=by omega
  subst this
  rw [Gx] at s
  repeat' (first | refine Qg ?_ | refine Qb ?_ | refine Q0 ?_ | refine QX ?_ | refine Qf ?_ | ((refine Qh ?_);refine Qk rfl ?_) | ((refine Qe ?_);refine qO rfl rfl rfl rfl rfl rfl rfl rfl rfl rfl rfl rfl rfl rfl rfl rfl rfl rfl rfl rfl rfl rfl rfl ?_) | ((refine Qc ?_);refine QM rfl rfl (by omega) ?_))
  exact QN ⟨rfl,s,_,_,_,_,rfl⟩
