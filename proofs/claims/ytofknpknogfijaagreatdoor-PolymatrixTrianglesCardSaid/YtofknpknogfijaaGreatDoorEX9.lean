/- Steps that the division needs. -/
import Derived.Test.YtofknpknogfijaaGreatDoorPZ
import Derived.Test.YtofknpknogfijaaGreatDoorPY
import Derived.Test.YtofknpknogfijaaGreatDoorW2
namespace Go.Proofs.YtofknpknogfijaaGreatDoor
open Go.Ab
set_option linter.unusedVariables false
set_option linter.unusedSimpArgs false
set_option linter.unusedSectionVars false
variable [HB]
section
variable {FT:FuncId→Option AFun} {HK:FuncId→Option Xc} {E:Env} {h h0:Qa} {K:Env→Qa→Prop} {d:Option Nat} {r:List AOp} {x y xo so:AO} {m n:Int}
theorem zU {a b z0 z1:SV} (hx:ev E xo=some (.agg [a,b])) (hw:∀ h1,Ext h h1→Yf h1 2 (.slc h.length 0 1 (some 1))=some (1,[a,b])→Qi FT HK r (Qq d (some (.sc (.slc h.length 0 1 (some 1)))) E) h1 K) :
    Qi FT HK (⟨d,.bsl 2 [z0,z1] 1 [(0,xo)],none⟩::r) E h K:=by
  refine Q8 (v:=some (.sc (.slc h.length 0 1 (some 1)))) (h':=h++[.cells [a,b] true 2]) rfl rfl ?_ (hw _ ⟨_,rfl⟩ (by simp [Yf,QX,cut]))
  simp [Ql,Yb,hx,AV.cells,Zq,rep,Xe,ez2]
theorem qW {bytes:Nat} {s t a b:SV} {ps:List P2} {z2:List SV} (he:Ext h0 h) (ho:OwnD h0 h s ps) (hs:evS E so=some s) (hx:evS E x=some t) (ht:Yf h 2 t=some (1,[a,b])) (hb:(ps.length+1)*(bytes+1)≤YV)
    (hw:∀ s' h',OwnD h0 h' s' (ps++[(a,b)])→Ext h0 h'→Fram h h' s s'→h.length≤h'.length→Qi FT HK r (Qq d (some (.sc s')) E) h' K) :
    Qi FT HK (⟨d,.app 2 bytes z2 so x,none⟩::r) E h K:=by
  obtain ⟨s',h',h1,h2,h3,h4,h5⟩:=appD (bytes:=bytes) he ho hb a b
  refine Q8 (v:=some (.sc s')) (h':=h') rfl rfl ?_ (hw s' h' h2 h3 h5 h4)
  simp only [Ql,hs,hx,Option.bind_some,ez2,ht,h1,Option.map_some]
end
end Go.Proofs.YtofknpknogfijaaGreatDoor


namespace Go.Proofs.YtofknpknogfijaaGreatDoor
open Go.Ab
set_option linter.unusedVariables false
set_option linter.unusedSimpArgs false
set_option maxRecDepth 20000
set_option maxHeartbeats 8000000
attribute [local irreducible] Qi wA Xk Xj Qz Qo QS QV
set_option linter.unusedSectionVars false
variable [HB]
def smC (x:Int):Prop := -4611686018427387904≤x∧x≤4611686018427387904
def smallP (low:Int) (xs:List Int):Prop:=xs.length≤20 ∧ -100≤low∧low≤100∧∀ x∈xs,smC x
def Qiv (low:Int) (xs:List Int):Prop:=xs.length≤20 ∧ -1000≤low∧low≤1000∧∀ x∈xs,smC x
theorem smallP.q {low:Int} {xs:List Int} (h:smallP low xs):Qiv low xs:=⟨h.1,by have:=h.2.1;omega,by have:=h.2.2.1;omega,h.2.2.2⟩
end Go.Proofs.YtofknpknogfijaaGreatDoor


namespace Go.Proofs.YtofknpknogfijaaGreatDoor
open Go.Ab
set_option linter.unusedVariables false
set_option linter.unusedSimpArgs false
set_option maxRecDepth 20000
set_option maxHeartbeats 4000000
attribute [local irreducible] Qi wA Xk Xj Qz Qo QS QV
set_option linter.unusedSectionVars false
variable [HB]
section
variable {FT:FuncId→Option AFun} {HK:FuncId→Option Xc} {E:Env} {h:Qa} {K:Env→Qa→Prop} {d:Option Nat} {r:List AOp} {x:AO}
end
def IsRf (h:Qa) (v:AV) (p:Pol):Prop:=∃ s,v=.agg [s,.bool p.big]∧IsD h s (tms p.ts)
structure St27 (h0 h:Qa) (q4 q5:Nat) (b:Bool) (s:SV) (r:List Tm):Prop where
  e:Ext h0 h
  c4:Cel h q4 .nilS (.bool b)
  c5:Cel h q5 s (.bool false)
  o:OwnD h0 h s (tms r)
  l:h0.length≤q4∧q4 < q5
def I27 (h0:Qa) (q4 q5:Nat) (low:Int) (c:SV) (xs:List Int) (E:Env) (h:Qa):Prop:=∃ (i:Nat) (r:List Tm) (s:SV),i≤xs.length∧ofN low xs i=some r∧St27 h0 h q4 q5 false s r ∧
  E.keep [0,1,4,5,6]=[(0,some (.sc (.int .i64 low))),(1,some (.sc c)),(4,some (.sc (.ptr q4 0))),(5,some (.sc (.ptr q5 0))),(6,some (.sc (.int .i64 (i:Nat))))]
def R27 (h0:Qa) (q4 q5:Nat) (low:Int) (xs:List Int) (ex:Ex) (E:Env) (h:Qa):Prop :=
  (ex=.ex 0∧∃ r s a b c d,ofN low xs xs.length=some r∧St27 h0 h q4 q5 false s r∧E=[(0,a),(1,b),(4,some (.sc (.ptr q4 0))),(5,some (.sc (.ptr q5 0))),(6,c),(10,d)]) ∨
  (ex=.rt∧ofN low xs xs.length=none∧Ext h0 h∧Cel h q4 .nilS (.bool true)∧E=[(4,some (.sc (.ptr q4 0)))])
end Go.Proofs.YtofknpknogfijaaGreatDoor


namespace Go.Proofs.YtofknpknogfijaaGreatDoor
open Go.Ab
set_option linter.unusedVariables false
set_option linter.unusedSimpArgs false
set_option linter.unusedSectionVars false
variable [HB]
section
variable {FT:FuncId→Option AFun} {HK:FuncId→Option Xc} {E:Env} {h h0:Qa} {K:Env→Qa→Prop} {d:Option Nat} {r:List AOp} {x y lo hi:AO}
end
end Go.Proofs.YtofknpknogfijaaGreatDoor





namespace Go.Proofs.YtofknpknogfijaaGreatDoor
open Go.Ab
set_option linter.unusedVariables false
set_option linter.unusedSimpArgs false
set_option maxRecDepth 20000
set_option maxHeartbeats 4000000
attribute [local irreducible] Qi wA Xk Xj Qz Qo QS
set_option linter.unusedSectionVars false
variable [HB]
abbrev WV (a b:Int):AV:=.agg [.int .i64 a,.int .i64 b]
def I112 (h0:Qa) (q1 q2:Nat) (H L:Int) (k:Nat) (E:Env) (h:Qa):Prop:=∃ a b:Int,a*1125899906842624+b=H*1125899906842624+L∧a≤H∧H≤a+1000-k∧b≤1152921504606846976 ∧ -1125899906842624*k≤b∧Ext h0 h∧Cel h q1 (.int .i64 a) (.int .i64 b)∧Cel h q2 (.int .i64 0) (.int .i64 0) ∧
  E.keep [1,2]=[(1,some (.sc (.ptr q1 0))),(2,some (.sc (.ptr q2 0)))]
def R112 (h0:Qa) (q1 q2:Nat) (H L:Int) (ex:Ex) (E:Env) (h:Qa):Prop:=ex=.ex 0∧∃ a b:Int,∃ d,a*1125899906842624+b=H*1125899906842624+L∧a≤H∧H≤a+1000∧0≤b∧b≤1152921504606846976∧Ext h0 h∧Cel h q1 (.int .i64 a) (.int .i64 b)∧Cel h q2 (.int .i64 0) (.int .i64 0) ∧
  E=[(1,some (.sc (.ptr q1 0))),(2,some (.sc (.ptr q2 0))),(5,d)]
end Go.Proofs.YtofknpknogfijaaGreatDoor


namespace Go.Proofs.YtofknpknogfijaaGreatDoor
open Go.Ab
set_option linter.unusedVariables false
set_option linter.unusedSimpArgs false
set_option maxRecDepth 20000
set_option maxHeartbeats 4000000
attribute [local irreducible] Qi wA Xk Xj Qz Qo QS
set_option linter.unusedSectionVars false
variable [HB]
abbrev nh (x:Int):SV:=.int .i64 (x / 1125899906842624)
abbrev nl (x:Int):SV:=.int .i64 (x%1125899906842624)
abbrev nf (x:Int):AV:=.agg [nh x,nl x]
def I81b (h0:Qa) (q4 q6 q9:Nat) (A b sg:Int) (s:Nat) (x p:Int) (k:Nat) (E:Env) (h:Qa):Prop:=∃ i:Nat,i≤s∧k=s-i∧Ext h0 h∧Cel h q4 (.int .i64 0) (.int .i64 0)∧Cel h q6 (nh x) (nl x)∧Cel h q9 (nh (p*2 ^ i)) (nl (p*2 ^ i)) ∧
  E.keep [0,1,4,5,6,7,9,10]=[(0,some (.sc (.int .i64 A))),(1,some (.sc (.int .i64 b))),(4,some (.sc (.ptr q4 0))),(5,some (.sc (.int .i64 sg))),(6,some (.sc (.ptr q6 0))),(7,some (.sc (.int .i64 (s:Nat)))),(9,some (.sc (.ptr q9 0))),(10,some (.sc (.int .i64 (i:Nat))))]
def R81b (h0:Qa) (q4 q6 q9:Nat) (A b sg:Int) (s:Nat) (x p:Int) (ex:Ex) (E:Env) (h:Qa):Prop:=ex=.ex 2∧∃ a d,Ext h0 h∧Cel h q4 (.int .i64 0) (.int .i64 0)∧Cel h q6 (nh x) (nl x)∧Cel h q9 (nh (p*2 ^ s)) (nl (p*2 ^ s)) ∧
  E=[(0,some (.sc (.int .i64 A))),(1,some (.sc (.int .i64 b))),(4,some (.sc (.ptr q4 0))),(5,some (.sc (.int .i64 sg))),(6,some (.sc (.ptr q6 0))),(7,some (.sc (.int .i64 (s:Nat)))),(9,some (.sc (.ptr q9 0))),(10,a),(41,d)]
def I81 (h0:Qa) (q4 q6:Nat) (A:Nat) (b sg:Int) (k:Nat) (E:Env) (h:Qa):Prop:=∃ s:Nat,s≤60∧k=60-s∧s%10=0∧Ext h0 h∧Cel h q4 (.int .i64 0) (.int .i64 0)∧Cel h q6 (nh (sg*(A%2 ^ s:Nat)*b)) (nl (sg*(A%2 ^ s:Nat)*b)) ∧
  E.keep [0,1,4,5,6,7]=[(0,some (.sc (.int .i64 (A:Nat)))),(1,some (.sc (.int .i64 b))),(4,some (.sc (.ptr q4 0))),(5,some (.sc (.int .i64 sg))),(6,some (.sc (.ptr q6 0))),(7,some (.sc (.int .i64 (s:Nat))))]
def R81 (h0:Qa) (q4 q6:Nat) (A:Nat) (b sg:Int) (ex:Ex) (E:Env) (h:Qa):Prop:=ex=.ex 0∧∃ a0 a1 a5 a7 d,Ext h0 h∧Cel h q4 (.int .i64 0) (.int .i64 0)∧Cel h q6 (nh (sg*A*b)) (nl (sg*A*b)) ∧
  E=[(0,a0),(1,a1),(4,some (.sc (.ptr q4 0))),(5,a5),(6,some (.sc (.ptr q6 0))),(7,a7),(17,d)]
end Go.Proofs.YtofknpknogfijaaGreatDoor




namespace Go.Proofs.YtofknpknogfijaaGreatDoor
open Go.Ab
set_option linter.unusedVariables false
set_option linter.unusedSimpArgs false
set_option maxRecDepth 20000
set_option maxHeartbeats 4000000
attribute [local irreducible] Qi wA Xk Xj Qz Qo QS QV
set_option linter.unusedSectionVars false
variable [HB]
section
variable {FT:FuncId→Option AFun} {HK:FuncId→Option Xc} {E:Env} {h:Qa} {K:Env→Qa→Prop} {d:Option Nat} {r:List AOp} {x:AO}
theorem Qjf {a z0:SV} (hx:ev E x=some (.sc a)) (hw:Qi FT HK r (Qq d (some (.sc (.slc h.length 0 1 (some 1)))) E) (h++[.cells [a] true 1]) K):Qi FT HK (⟨d,.bsl 1 [z0] 1 [(0,x)],none⟩::r) E h K:=by
  refine Q8 (v:=some (.sc (.slc h.length 0 1 (some 1)))) (h':=h++[.cells [a] true 1]) rfl rfl ?_ hw
  simp [Ql,Yb,hx,AV.cells,Zq,rep,Xe]
end
def idS:SV→List Nat
  | .slc id _ _ _=>[id]
  | _=>[]
section
variable {FT:FuncId→Option AFun} {HK:FuncId→Option Xc} {E:Env} {h hb:Qa} {K:Env→Qa→Prop} {d:Option Nat} {r:List AOp} {x lo hi:AO}
end
def wp (u:Tm):P2:=(nh u.2,nl u.2)
def putM (e v:Int):List Tm→List Tm
  | []=>[(e,v)]
  | u::r=>if u.1 < e then u::putM e v r else if u.1=e then (e,u.2+v)::r else (e,v)::u::r
def I80 (h1:Qa) (q7:Nat) (sx st:SV) (e:Int) (M:List Tm) (k:Nat) (E:Env) (h:Qa):Prop:=∃ i:Nat,i≤M.length∧k=M.length-i∧(∀ u∈M.take i,u.1 < e)∧h=h1 ∧
  E.keep [0,1,2,7,10]=[(0,some (.sc sx)),(1,some (.sc st)),(2,some (.sc (.int .i64 e))),(7,some (.sc (.ptr q7 0))),(10,some (.sc (.int .i64 (i:Nat))))]
def R80 (h1:Qa) (q7:Nat) (sx st:SV) (e:Int) (M:List Tm) (ex:Ex) (E:Env) (h:Qa):Prop:=ex=.ex 0∧∃ i:Nat,∃ d,i≤M.length∧(∀ u∈M.take i,u.1 < e)∧(∀ u,M[i]?=some u→e≤u.1)∧h=h1 ∧
  E=[(0,some (.sc sx)),(1,some (.sc st)),(2,some (.sc (.int .i64 e))),(7,some (.sc (.ptr q7 0))),(10,some (.sc (.int .i64 (i:Nat)))),(25,d)]
end Go.Proofs.YtofknpknogfijaaGreatDoor


namespace Go.Proofs.YtofknpknogfijaaGreatDoor
open Go.Ab
set_option linter.unusedVariables false
set_option linter.unusedSimpArgs false
set_option maxRecDepth 20000
set_option maxHeartbeats 4000000
attribute [local irreducible] Qi wA Xk Xj Qz Qo QS QV
set_option linter.unusedSectionVars false
variable [HB]
def okT (u:Tm):Prop:=u.2≠0→u.2.natAbs≤cM∧u.1.natAbs≤eM
abbrev nzT (u:Tm):Bool:=decide (u.2≠0)
noncomputable def colP (M:List Tm):Pol:=open Classical in if ∀ u∈M,okT u then ⟨false,M.filter nzT⟩ else Jw
def I82 (h0:Qa) (q4 q5:Nat) (sx st:SV) (M:List Tm) (k:Nat) (E:Env) (h:Qa):Prop:=∃ (i:Nat) (s:SV),i≤M.length∧k=M.length-i∧(∀ u∈M.take i,okT u)∧St27 h0 h q4 q5 false s ((M.take i).filter nzT) ∧
  E.keep [0,1,4,5,6]=[(0,some (.sc sx)),(1,some (.sc st)),(4,some (.sc (.ptr q4 0))),(5,some (.sc (.ptr q5 0))),(6,some (.sc (.int .i64 (i:Nat))))]
def R82 (h0:Qa) (q4 q5:Nat) (M:List Tm) (ex:Ex) (E:Env) (h:Qa):Prop :=
  (ex=.ex 0∧∃ s a b c d,(∀ u∈M,okT u)∧St27 h0 h q4 q5 false s (M.filter nzT)∧E=[(0,a),(1,b),(4,some (.sc (.ptr q4 0))),(5,some (.sc (.ptr q5 0))),(6,c),(12,d)]) ∨
  (ex=.rt∧¬ (∀ u∈M,okT u)∧Ext h0 h∧Cel h q4 .nilS (.bool true)∧E=[(4,some (.sc (.ptr q4 0)))])
def IsRfO (h0 h:Qa) (v:AV) (p:Pol):Prop:=∃ s,v=.agg [s,.bool p.big]∧OwnD h0 h s (tms p.ts)
end Go.Proofs.YtofknpknogfijaaGreatDoor


namespace Go.Proofs.YtofknpknogfijaaGreatDoor
open Go.Ab
set_option linter.unusedVariables false
set_option linter.unusedSimpArgs false
set_option maxRecDepth 20000
set_option maxHeartbeats 4000000
attribute [local irreducible] Qi wA Xk Xj Qz Qo QS QV
set_option linter.unusedSectionVars false
variable [HB]
def ngT (t:Tm):Tm:=(t.1,-t.2)
def ngP (p:Pol):Pol:=⟨p.big,p.ts.map ngT⟩
structure St48 (h0 h:Qa) (q1 q2 q3:Nat) (b:Bool) (s so:SV) (r:List Tm):Prop where
  e:Ext h0 h
  c1:Cel h q1 s (.bool b)
  c2:Cel h q2 .nilS (.bool false)
  c3:Cel h q3 so (.bool b)
  o:OwnD h0 h so (tms r)
  l:h0.length≤q1∧q1 < q2∧q2 < q3
def I48 (h0:Qa) (q1 q2 q3:Nat) (s:SV) (p:Pol) (k:Nat) (E:Env) (h:Qa):Prop:=∃ (i:Nat) (so:SV),i≤p.ts.length∧k=p.ts.length-i∧St48 h0 h q1 q2 q3 p.big s so ((p.ts.take i).map ngT) ∧
  E.keep [1,2,3,4]=[(1,some (.sc (.ptr q1 0))),(2,some (.sc (.ptr q2 0))),(3,some (.sc (.ptr q3 0))),(4,some (.sc (.int .i64 (i:Nat))))]
def R48 (h0:Qa) (q1 q2 q3:Nat) (s:SV) (p:Pol) (ex:Ex) (E:Env) (h:Qa):Prop:=ex=.ex 0∧∃ so a b,St48 h0 h q1 q2 q3 p.big s so (p.ts.map ngT) ∧
  E=[(1,some (.sc (.ptr q1 0))),(2,some (.sc (.ptr q2 0))),(3,some (.sc (.ptr q3 0))),(4,a),(12,b)]
end Go.Proofs.YtofknpknogfijaaGreatDoor




namespace Go.Proofs.YtofknpknogfijaaGreatDoor
open Go.Ab
set_option linter.unusedVariables false
set_option linter.unusedSimpArgs false
set_option maxRecDepth 20000
set_option maxHeartbeats 4000000
attribute [local irreducible] Qi wA Xk Xj Qz Qo QS QV
set_option linter.unusedSectionVars false
variable [HB]
def Jh (L:List Tm) (M:List Tm):List Tm:=L.foldl (fun M t=>putM t.1 t.2 M) M
structure Sm2 (h:Qa) (sx st:SV) (M:List Tm) (n B:Nat):Prop where
  x:IsInts h sx (M.map (·.1))
  t:IsD h st (M.map wp)
  len:M.length≤n
  bd:∀ u∈M,u.2.natAbs≤n*B
structure St49 (h0 h:Qa) (q2 q3 q4:Nat) (s t:SV) (bp bq:Bool):Prop where
  e:Ext h0 h
  c2:Cel h q2 s (.bool bp)
  c3:Cel h q3 t (.bool bq)
  c4:Cel h q4 .nilS (.bool false)
def I49a (h0:Qa) (q2 q3 q4:Nat) (s t:SV) (bp bq:Bool) (P:List Tm) (k:Nat) (E:Env) (h:Qa):Prop:=∃ (i:Nat) (sx st:SV),i≤P.length∧k=P.length-i∧St49 h0 h q2 q3 q4 s t bp bq∧Sm2 h sx st (Jh (P.take i) []) i cM ∧
  E.keep [2,3,4,5,6,7]=[(2,some (.sc (.ptr q2 0))),(3,some (.sc (.ptr q3 0))),(4,some (.sc (.ptr q4 0))),(5,some (.sc sx)),(6,some (.sc st)),(7,some (.sc (.int .i64 (i:Nat))))]
def R49a (h0:Qa) (q2 q3 q4:Nat) (s t:SV) (bp bq:Bool) (P:List Tm) (ex:Ex) (E:Env) (h:Qa):Prop:=ex=.ex 0∧∃ sx st a b,St49 h0 h q2 q3 q4 s t bp bq∧Sm2 h sx st (Jh P []) P.length cM ∧
  E=[(2,some (.sc (.ptr q2 0))),(3,some (.sc (.ptr q3 0))),(4,some (.sc (.ptr q4 0))),(5,some (.sc sx)),(6,some (.sc st)),(7,a),(20,b)]
structure St49b (h0 h:Qa) (q3 q4:Nat) (t:SV) (bq:Bool):Prop where
  e:Ext h0 h
  c3:Cel h q3 t (.bool bq)
  c4:Cel h q4 .nilS (.bool false)
def I49b (h0:Qa) (q3 q4:Nat) (t:SV) (bq:Bool) (Q M0:List Tm) (n0:Nat) (k:Nat) (E:Env) (h:Qa):Prop:=∃ (i:Nat) (sx st:SV),i≤Q.length∧k=Q.length-i∧St49b h0 h q3 q4 t bq∧Sm2 h sx st (Jh (Q.take i) M0) (n0+i) cM ∧
  E.keep [3,4,5,6,8]=[(3,some (.sc (.ptr q3 0))),(4,some (.sc (.ptr q4 0))),(5,some (.sc sx)),(6,some (.sc st)),(8,some (.sc (.int .i64 (i:Nat))))]
def R49b (h0:Qa) (q3 q4:Nat) (t:SV) (bq:Bool) (Q M0:List Tm) (n0:Nat) (ex:Ex) (E:Env) (h:Qa):Prop:=ex=.ex 2∧∃ sx st a b c,St49b h0 h q3 q4 t bq∧Sm2 h sx st (Jh Q M0) (n0+Q.length) cM ∧
  E=[(3,a),(4,some (.sc (.ptr q4 0))),(5,some (.sc sx)),(6,some (.sc st)),(8,b),(46,c)]
noncomputable def addR (p q:Pol):Pol:=if p.big=true∨q.big=true then Jw else colP (Jh q.ts (Jh p.ts []))
end Go.Proofs.YtofknpknogfijaaGreatDoor


namespace Go.Proofs.YtofknpknogfijaaGreatDoor
open Go.Ab
set_option linter.unusedVariables false
set_option linter.unusedSimpArgs false
set_option maxRecDepth 20000
set_option maxHeartbeats 4000000
attribute [local irreducible] Qi wA Xk Xj Qz Qo QS QV
set_option linter.unusedSectionVars false
variable [HB]
def mt (a b:Tm):Tm:=(a.1+b.1,a.2*b.2)
abbrev bM:Nat:=9903520314283042199192993792
def U6 (P Q M:List Tm):List Tm:=P.foldl (fun M a=>Jh (Q.map (mt a)) M) M
def I46b (h0:Qa) (q2 q3 q4:Nat) (s t:SV) (bp bq:Bool) (Q:List Tm) (a:Tm) (M0:List Tm) (n0 i:Nat) (k:Nat) (E:Env) (h:Qa):Prop:=∃ (j:Nat) (sx st:SV),j≤Q.length∧k=Q.length-j∧St49 h0 h q2 q3 q4 s t bp bq∧Sm2 h sx st (Jh ((Q.map (mt a)).take j) M0) (n0+j) bM ∧
  E.keep [2,3,4,5,6,7,8]=[(2,some (.sc (.ptr q2 0))),(3,some (.sc (.ptr q3 0))),(4,some (.sc (.ptr q4 0))),(5,some (.sc sx)),(6,some (.sc st)),(7,some (.sc (.int .i64 (i:Nat)))),(8,some (.sc (.int .i64 (j:Nat))))]
def R46b (h0:Qa) (q2 q3 q4:Nat) (s t:SV) (bp bq:Bool) (Q:List Tm) (a:Tm) (M0:List Tm) (n0 i:Nat) (ex:Ex) (E:Env) (h:Qa):Prop:=ex=.ex 2∧∃ sx st b c,St49 h0 h q2 q3 q4 s t bp bq∧Sm2 h sx st (Jh (Q.map (mt a)) M0) (n0+Q.length) bM ∧
  E=[(2,some (.sc (.ptr q2 0))),(3,some (.sc (.ptr q3 0))),(4,some (.sc (.ptr q4 0))),(5,some (.sc sx)),(6,some (.sc st)),(7,some (.sc (.int .i64 (i:Nat)))),(8,b),(27,c)]
def I46a (h0:Qa) (q2 q3 q4:Nat) (s t:SV) (bp bq:Bool) (P Q:List Tm) (k:Nat) (E:Env) (h:Qa):Prop:=∃ (i:Nat) (sx st:SV),i≤P.length∧k=P.length-i∧St49 h0 h q2 q3 q4 s t bp bq∧Sm2 h sx st (U6 (P.take i) Q []) (i*Q.length) bM ∧
  E.keep [2,3,4,5,6,7]=[(2,some (.sc (.ptr q2 0))),(3,some (.sc (.ptr q3 0))),(4,some (.sc (.ptr q4 0))),(5,some (.sc sx)),(6,some (.sc st)),(7,some (.sc (.int .i64 (i:Nat))))]
def R46a (h0:Qa) (q2 q3 q4:Nat) (s t:SV) (bp bq:Bool) (P Q:List Tm) (ex:Ex) (E:Env) (h:Qa):Prop:=ex=.ex 0∧∃ sx st a b c d,St49 h0 h q2 q3 q4 s t bp bq∧Sm2 h sx st (U6 P Q []) (P.length*Q.length) bM ∧
  E=[(2,a),(3,b),(4,some (.sc (.ptr q4 0))),(5,some (.sc sx)),(6,some (.sc st)),(7,c),(20,d)]
end Go.Proofs.YtofknpknogfijaaGreatDoor



