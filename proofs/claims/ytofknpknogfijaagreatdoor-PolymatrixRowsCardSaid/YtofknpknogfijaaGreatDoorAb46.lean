import Derived.Test.YtofknpknogfijaaGreatDoorAb44
import Derived.Test.YtofknpknogfijaaGreatDoorAb29
import Derived.Test.YtofknpknogfijaaGreatDoorAb32
import Derived.Lib.SlKeysI
import Derived.Maps.Range
import Derived.Maps.OwnSet
/- Maps from ints to values of two cells: steps. -/
namespace Go.Ab
set_option linter.all false
abbrev zIW:ESz:=⟨1001002,none⟩
def prW (es:List (Int × (SV × SV))):List SV:=(es.map fun p=>[.int .i64 p.1,p.2.1,p.2.2]).flatten
abbrev MBW (es:List (Int × (SV × SV))):Blk:=.cells (prW es) true zIW
theorem JO (p:Int × (SV × SV)) (es:List (Int × (SV × SV))):prW (p::es)=.int .i64 p.1::p.2.1::p.2.2::prW es:=rfl
theorem Qdg (es:List (Int × (SV × SV))):(prW es).length=es.length*3:=by
 induction es with
 | nil=>rfl
 | cons p es ih=>rw [JO];simp only [GA,ih];omega
theorem Qi8 (a b:List (Int × (SV × SV))):prW (a++b)=prW a++prW b:=by simp [prW]
theorem yb:∀ (es:List (Int × (SV × SV))) (i:Nat) (p:Int × (SV × SV)),es[i]?=some p→(prW es).drop (i*3)=.int .i64 p.1::p.2.1::p.2.2::prW (es.drop (i+1))
 | [],i,p,h=>by simp at h
 | q::es,0,p,h=>by simp at h;subst h;rfl
 | q::es,i+1,p,h=>by
  rw [List.getElem?_cons_succ] at h
  have:=yb es i p h
  rw [JO,show (i+1)*3=i*3+1+1+1 by omega,List.drop_succ_cons,List.drop_succ_cons,List.drop_succ_cons,this,List.drop_succ_cons]
theorem QfZ (es:List (Int × (SV × SV))) (i:Nat):(prW es).take (i*3)=prW (es.take i):=by
 induction es generalizing i with
 | nil=>simp [prW]
 | cons p es ih =>
  cases i with
  | zero=>simp [prW]
  | succ i =>
   rw [JO,show (i+1)*3=i*3+1+1+1 by omega,Ha,Ha,Ha,ih,Ha,JO]
theorem QeQ:zIW.kw=1:=by decide
theorem Qfj:zIW.vw=2:=by decide
theorem Qju {es:List (Int × (SV × SV))} {i:Nat} {p:Int × (SV × SV)} (h:es[i]?=some p):Z1 zIW (prW es) i=[.int .i64 p.1]:=by
 unfold Z1
 rw [QeQ,Qfj,yb es i p h];rfl
theorem Qjt {es:List (Int × (SV × SV))} {i:Nat} {p:Int × (SV × SV)} (h:es[i]?=some p):JF zIW (prW es) i=[p.2.1,p.2.2]:=by
 unfold JF
 rw [QeQ,Qfj,← List.drop_drop,yb es i p h];rfl
theorem lenIW (es:List (Int × (SV × SV))):(prW es).length / (zIW.kw+zIW.vw)=es.length:=by
 rw [QeQ,Qfj,Qdg];omega
theorem Qgn (es:List (Int × (SV × SV))):YN zIW (prW es)=es.map fun p=>[p.1]:=by
 unfold YN
 rw [lenIW]
 refine Gr fun i=>?_
 by_cases hi:i < es.length
 ·have hg:es[i]?=some es[i]:=Ga hi
  simp only [Gi,Gq hi,hg,Gl,Qju hg]
  rfl
 ·rw [Gp (by simp;omega),Gp (by simp;omega)]
theorem QgJ (es:List (Int × (SV × SV))) (k:Int):UP zIW (prW es) [k]=es.findIdx? fun p=>p.1 == k:=by
 unfold UP
 rw [Qgn,List.findIdx?_map]
 congr 1
 funext p
 simp
def UL (es:List (Int × (SV × SV))) (k:Int):Option (SV × SV):=(es.find? fun p=>p.1 == k).map (·.2)
def Qeg (es:List (Int × (SV × SV))) (k:Int) (v:SV × SV):List (Int × (SV × SV)):=match es.findIdx? fun p=>p.1 == k with
 | some j=>es.set j (k,v)
 | none=>es++[(k,v)]
theorem Zt:∀ (es:List (Int × (SV × SV))) (k:Int),match es.findIdx? (fun p=>p.1 == k) with
  | some j=>∃ p,es[j]?=some p∧p.1=k∧UL es k=some p.2
  | none=>UL es k=none
 | [],k=>rfl
 | q::es,k=>by
  rw [List.findIdx?_cons]
  by_cases h:(q.1 == k)=true
  ·rw [if_pos h]
   exact ⟨q,rfl,by simpa using h,by unfold UL;rw [List.find?_cons,h];rfl⟩
  ·rw [if_neg h]
   have ih:=Zt es k
   have e:UL (q::es) k=UL es k:=by
    unfold UL
    rw [List.find?_cons]
    simp only [h]
   rw [e]
   cases hf:es.findIdx? (fun p=>p.1 == k) with
   | none=>rw [hf] at ih;exact ih
   | some j =>
    rw [hf] at ih
    obtain ⟨p,a,b,c⟩:=ih
    exact ⟨p,by simpa using a,b,c⟩
theorem Qft {es:List (Int × (SV × SV))} {j:Nat} {p:Int × (SV × SV)} {k:Int} {v:SV × SV} (hp:es[j]?=some p) (hk:p.1=k):Xh (prW es) (j*(zIW.kw+zIW.vw)+zIW.kw) [v.1,v.2]=prW (es.set j (k,v)):=by
 have hj:=(Gb.1 hp).1
 rw [QeQ,Qfj]
 unfold Xh
 rw [List.set_eq_take_append_cons_drop,if_pos hj,Qi8,JO]
 have hd:=yb es j p hp
 have e1:(prW es).take (j*3+1)=prW (es.take j)++[.int .i64 k]:=by
  rw [List.take_add,QfZ,hd,hk];rfl
 have e2:(prW es).drop (j*3+1+2)=prW (es.drop (j+1)):=by
  rw [show j*3+1+2=j*3+3 by omega,← List.drop_drop,hd];rfl
 have e3:(prW es).drop (j*(1+2)+1+[v.1,v.2].length)=prW (es.drop (j+1)):=e2
 rw [e1,e3]
 simp
section
variable {FT:FuncId→Option AFun} {HK:FuncId→Option Xj} {E:Env} {h:Qa} {K:Env→Qa→Prop} {d:Option Nat} {r:List AOp} {x y v:AO}
theorem Ql5 (hw:Ql FT HK r (Qr d (some (.sc (.mapv h.length))) E) (h++[MBW []]) K):Ql FT HK (⟨d,.mpM zIW,none⟩::r) E h K:=by
 refine Xe (v:=some (.sc (.mapv h.length))) (h':=h++[MBW []]) rfl rfl ?_ hw
 simp only [Qm]
 rw [if_pos (by decide)]
 rfl
theorem Qas {id:Nat} {es:List (Int × (SV × SV))} {n:Int} {a b:SV} {o:SV × SV} (hx:evS E x=some (.mapv id)) (hL:h[id]?=some (MBW es)) (hy:ev E y=some (.sc (.int .i64 n))) (ho:(UL es n).getD (a,b)=o)
  (hw:Ql FT HK r (Qr d (some (.agg [o.1,o.2])) E) h K):Ql FT HK (⟨d,.mpL zIW [a,b] false x y,none⟩::r) E h K:=by
 refine Xe rfl rfl ?_ hw
 have hi:Zl [.int .i64 n]=some [n]:=rfl
 simp only [Qm,hx,hL,if_true,hy,Qam,Gm,hi,QgJ]
 rw [if_pos (show [n].length=zIW.kw by rw [QeQ];rfl)]
 have:=Zt es n
 subst ho
 cases hf:es.findIdx? (fun p=>p.1 == n) with
 | none=>rw [hf] at this;simp only [] at this;rw [this];rfl
 | some j =>
  rw [hf] at this
  obtain ⟨p,a,b,c⟩:=this
  rw [c]
  simp only [Qjt a]
  rfl
theorem Ql4 {id:Nat} {es:List (Int × (SV × SV))} {n:Int} {a b:SV} (hx:evS E x=some (.mapv id)) (hL:h[id]?=some (MBW es)) (hy:ev E y=some (.sc (.int .i64 n))) (hv:ev E v=some (.agg [a,b]))
  (hw:Ql FT HK r (Qr d none E) (h.set id (MBW (Qeg es n (a,b)))) K):Ql FT HK (⟨d,.mpU zIW x y v,none⟩::r) E h K:=by
 refine Xe (v:=none) (h':=h.set id (MBW (Qeg es n (a,b)))) rfl rfl ?_ hw
 have hi:Zl [.int .i64 n]=some [n]:=rfl
 have hl2:([a,b]:List SV).length≠1:=by simp
 simp only [Qm,hx,hL,if_true,hy,hv,Qam,Gm,hi,QgJ,hl2,if_false]
 rw [if_pos (⟨by rw [QeQ];rfl,by rw [Qfj];rfl⟩:[n].length=zIW.kw∧[a,b].length=zIW.vw)]
 have:=Zt es n
 unfold Qeg
 cases hf:es.findIdx? (fun p=>p.1 == n) with
 | none =>
  have hp:prW (es++[(n,(a,b))])=prW es++[.int .i64 n]++[a,b]:=by simp [prW]
  simp only [← hp]
 | some j =>
  rw [hf] at this
  obtain ⟨p,c1,c2,c3⟩:=this
  simp only []
  have:=Qft (v:=(a,b)) c1 c2
  simp only at this
  rw [this]
end
def esF (g:Int→SV × SV) (K:List Int):List (Int × (SV × SV)):=K.map fun k=>(k,g k)
theorem QbQ (g:Int→SV × SV) (k:Int):∀ K:List Int,(esF g K).find? (fun p=>p.1 == k)=if k∈K then some (k,g k) else none
 | []=>rfl
 | a::K=>by
  have ih:=QbQ g k K
  unfold esF at ih ⊢
  rw [Gy,List.find?_cons]
  by_cases h:a=k
  ·subst h;simp
  ·have h2:(a == k)=false:=by simpa using h
   simp only [h2]
   rw [ih]
   have h3:¬ k=a:=fun e=>h e.symm
   simp [h3]
theorem Qct (g:Int→SV × SV) (K:List Int) (k:Int):UL (esF g K) k=if k∈K then some (g k) else none:=by
 unfold UL
 rw [QbQ]
 split <;> rfl
theorem Qlo {g g':Int→SV × SV} {K:List Int} (hn:K.Nodup) (k:Int) (hg:∀ e,e≠k→g' e=g e):Qeg (esF g K) k (g' k)=esF g' (if k∈K then K else K++[k]):=by
 unfold Qeg
 have hf:=Zt (esF g K) k
 rw [Qct] at hf
 cases hj:(esF g K).findIdx? (fun p=>p.1 == k) with
 | none =>
  rw [hj] at hf
  have hk:k ∉ K:=fun h=>by simp [h] at hf
  simp only []
  rw [if_neg hk]
  unfold esF
  rw [Hb]
  congr 1
  exact GO fun e he=>by rw [hg e (fun e2=>hk (e2 ▸ he))]
 | some j =>
  rw [hj] at hf
  obtain ⟨p,h1,h2,h3⟩:=hf
  have hk:k∈K:=by
   apply Classical.byContradiction
   intro h
   simp [h] at h3
  simp only []
  rw [if_pos hk]
  have hKj:K[j]?=some k:=by
   unfold esF at h1
   rw [Gi,Gc] at h1
   obtain ⟨a,b,rfl⟩:=h1
   simp only at h2
   rw [← h2];exact b
  refine Gr fun i=>?_
  unfold esF
  rw [GH]
  simp only [Gi,Gt]
  by_cases e:j=i
  ·subst e
   have:=(Gb.1 hKj).1
   rw [if_pos rfl,if_pos this,hKj];rfl
  ·rw [if_neg e]
   cases hi:K[i]? with
   | none=>rfl
   | some a =>
    have hne:a≠k:=fun e2=>by
     subst e2
     obtain ⟨a1,a2⟩:=Gb.1 hi
     obtain ⟨b1,b2⟩:=Gb.1 hKj
     exact e ((List.getElem_inj (h₀:=b1) (h₁:=a1) hn).1 (b2.trans a2.symm))
    simp only [Gl]
    rw [hg a hne]
variable [Base]
def JQ (g t:Nat):Xj:=fun args h=>match args with
 | [.sc (.mapv m)]=>some (.sc (.fn g [(h.length,0)]),h++[.cells [.mapv m] true ⟨0,some t⟩])
 | _=>none
theorem zw {P:Program} {f g t:Nat} (hfn:UO P f=true)
  (hc:∀ (mb:Option Nat) (w:World),Calls P f #[.map mb] w fun e w'=>e=.returned (.func (.func g) #[] #[.pointer (some ⟨w.heap.size,0,none⟩)])∧w'=w.alloc (.cells #[.map mb] t)):HkOK P f (JQ g t) where
 fn:=hfn
 len:=fun args h v h' hs=>by
  unfold JQ at hs
  split at hs
  ·simp at hs;rw [← hs.2];simp
  ·simp at hs
 run:=fun args h v h' hs β w vs hvs R hf=>by
  unfold JQ at hs
  split at hs
  ·rename_i m
   simp only [Option.some.injEq,Prod.mk.injEq] at hs
   obtain ⟨rfl,rfl⟩:=hs
   cases hvs with
   | cons h1 hvs =>
    cases hvs
    cases h1 with
    | sc h1 =>
     cases h1 with
     | mapv hL hn =>
      rename_i L
      refine (hc _ w).mono ?_
      rintro e w' ⟨rfl,rfl⟩
      have hfr:β h.length=none:=hf _ (Gf _) (by simp)
      obtain ⟨s1,s2⟩:=JA R hfr #[.map (some L.b)] t [.mapv m] ⟨0,some t⟩ (fun t' ht=>by cases ht;rfl) (show (0:Nat) < 1000000 by decide) (fun _=>by simp) (by simp) (fun i v hi=>by
       cases i with
       | zero=>simp at hi;subst hi;exact ⟨_,rfl,.mapv hL hn⟩
       | succ i=>simp at hi)
      exact ⟨_,_,rfl,.sc (.fn (.cons ⟨_,Q7 _ _ _,(by decide:(0:Nat) < 1000000),rfl⟩ .nil)),s1,s2⟩
  ·simp at hs
def Zd (z:ESz) (cs:List SV):List Int:=(YN z cs).map fun k=>k.headD 0
def Y1 (g t:Nat):Xj:=fun args h=>match args with
 | [.sc (.fn f [(p, 0)])] => match h[p]? with
   | some (.cells [.mapv m] _ z0) => match h[m]? with
     | some (.cells cs true z) =>
      if f=g∧z0=⟨0,some t⟩∧(1000000≤z.n∧z.n < 2000000∧z.kw=1)∧cs≠[]∧(Zd z cs).Nodup∧(∀ k∈Zd z cs,-9223372036854775808≤k∧k≤9223372036854775807)∧(Zd z cs).length≤1000000 then
       some (.sc (.slc h.length 0 (Zd z cs).length none),h++[.cells (((Zd z cs).mergeSort (fun x y:Int=>decide (x≤y))).map (.int .i64)) false 1])
      else none
     | _=>none
   | _=>none
 | _=>none
theorem QeP {β:Bt} {w:World} {L:Loc} {cs:List SV} {z:ESz} {es:Array MapEntry} (h1:cs.length=es.size*(z.kw+z.vw)) (hkw:z.kw=1)
  (h4:∀ (i:Nat) (e:MapEntry),es[i]?=some e→e.born=i∧VRel β (Z1 z cs i) e.key∧VRel β (JF z cs i) e.val) (h5:∀ i,i < es.size→∃ ns:List Int,Z1 z cs i=ns.map (.int .i64)) :
  es.toList.map (·.key)=(Zd z cs).map (Value.int .i64)∧(Zd z cs).length=es.size:=by
 have hsz:cs.length / (z.kw+z.vw)=es.size:=by rw [h1];exact Nat.mul_div_cancel _ (by omega)
 have hlen:(Zd z cs).length=es.size:=by simp [Zd,YN,hsz]
 refine ⟨Gr fun i=>?_,hlen⟩
 by_cases hi:i < es.size
 ·obtain ⟨e,he⟩:∃ e,es[i]?=some e:=⟨_,G4 hi⟩
  obtain ⟨ns,hns⟩:=h5 i hi
  obtain ⟨-,hk,-⟩:=h4 i e he
  have hl:=(QbT h1 hi).1
  rw [hns,Gt,hkw] at hl
  match ns,hl with
  | [n],_ =>
   rw [hns] at hk
   have e2:=hk.key
   have e3:(Zd z cs)[i]?=some n:=by
    have hin:Zl ([n].map (SV.int .i64))=some [n]:=rfl
    simp only [Zd,YN,Gi,hsz,Gq hi,Gl,hns,hin]
    rfl
   rw [Gi,Gi,e3]
   have e4:es.toList[i]?=some e:=by rw [← he];simp
   rw [e4,Gl,Gl,e2]
   rfl
 ·rw [Gp (by simp;omega),Gp (by simp;omega)]
def vOf:Value→Int
 | .int _ n=>n
 | _=>0
theorem QeS {P:Program} {kt:TypeId} {es:Array MapEntry} {ks:List Int} (q1:es.toList.map (·.key)=ks.map (Value.int .i64))
  (hrd:∀ x∈es.toList,∃ n:Int,x.key=.int .i64 n∧Go.WideElems.rd P kt (fun _=>some ((DataW.nil:DataW Unit),[])) x=some (.int .i64 n,.nil)) :
  (Go.intKeys (.map ((es.toList.map (Go.WideElems.rg P kt fun _=>some ((DataW.nil:DataW Unit),[]))).foldr DataW.insert []))).Perm ks:=by
 have h1:((es.toList.map (Go.WideElems.rg P kt fun _=>some ((DataW.nil:DataW Unit),[]))).map fun p=>Go.intOf p.1)=(es.toList.map (·.key)).map vOf:=by
  rw [G9,G9]
  refine GO fun x hx=>?_
  obtain ⟨n,e,hr⟩:=hrd x hx
  simp only [Function.comp_apply,Go.WideElems.rg,hr,Option.getD_some,e,vOf,Go.intOf]
 have h2:(ks.map (Value.int .i64)).map vOf=ks:=by
  rw [G9]
  have:(vOf∘Value.int .i64)=id:=by funext n;rfl
  rw [this,List.map_id]
 rw [q1,h2] at h1
 have h3:=(Go.WideShapes.sorted_perm (es.toList.map (Go.WideElems.rg P kt fun _=>some ((DataW.nil:DataW Unit),[])))).map fun p=>Go.intOf p.1
 rw [h1] at h3
 exact h3
theorem qe {P:Program} {f g t kt:Nat} (hfn:UO P f=true) (hkt:P.underlying kt=some (.int .i64))
  (hc:∀ (b Bm nn:Nat) (D0:DataW Unit) (R:Value→Option (DataW Unit × List MemPlace)) (w:World),Bm < w.heap.size→w.cell? ⟨Bm,0,none⟩=some (.map (some b))→w.ownsMap P kt R b nn D0→Go.Maps.size D0≤maxLen→Go.Maps.size D0*8≤140737488355328 →
   Calls P f #[.func (.func g) #[] #[.pointer (some ⟨Bm,0,none⟩)]] w fun e w'=>∃ (v:Value) (ss:List Int),e=.returned v∧ss.Perm (Go.intKeys D0) ∧
    w'.ownsRow w.heap.size kt 1 v ss.length ((ss.mergeSort (fun x y:Int=>decide (x≤y))).map (Value.int .i64))∧(v=.slice none 0 0↔ss=[])∧RowKit.Below w.heap.size w w'):HkOK P f (Y1 g t) where
 fn:=hfn
 len:=fun args h v h' hs=>by
  unfold Y1 at hs
  split at hs
  ·split at hs
   ·split at hs
    ·split at hs
     ·simp at hs;rw [← hs.2];simp
     ·simp at hs
    ·simp at hs
   ·simp at hs
  ·simp at hs
 run:=fun args h v h' hs β w vs hvs R hf=>by
  unfold Y1 at hs
  split at hs
  case h_2=>simp at hs
  rename_i f' p
  split at hs
  case h_2=>simp at hs
  rename_i m rw0 z0 hp
  split at hs
  case h_2=>simp at hs
  rename_i cs z hm
  split at hs
  case isFalse=>simp at hs
  rename_i hcond
  obtain ⟨rfl,rfl,⟨z1,z2,z3⟩,hne,hnd,hrg,hlk⟩:=hcond
  simp only [Option.some.injEq,Prod.mk.injEq] at hs
  obtain ⟨rfl,rfl⟩:=hs
  cases hvs with
  | cons h1 hvs =>
   cases hvs
   cases h1 with
   | sc h1 =>
    cases h1 with
    | fn hcap =>
     cases hcap with
     | cons hc1 hcr =>
      cases hcr
      obtain ⟨L,hL,hLn,rfl⟩:=hc1
      obtain ⟨b1,ccs,e0,fz,b2,b3,b4,b5,b6,b7,b8,b9⟩:=(R.blk p L [.mapv m] rw0 ⟨0,some t⟩ hp hL).cell hLn
      have hbase:L.base=0:=(b8 t rfl).1
      obtain ⟨c,hc1,hc2⟩:=b5 0 (.mapv m) rfl
      rw [hbase] at hc1
      cases hc2 with
      | mapv hM hMn =>
       rename_i M
       obtain ⟨es,k1,k2,k3,k4,k5⟩:=J8 R hm hM hMn
       obtain ⟨q1,q2⟩:=QeP (w:=w) (L:=M) k2 z3 k4 k5
       have hcell:w.cell? ⟨L.b,0,none⟩=some (.map (some M.b)):=by
        rw [cell_of_row w L.b 0 ccs e0 _ b2]
        simpa using hc1
       have hlt:L.b < w.heap.size:=(GB.1 b2).1
       have hwf:∀ x∈es.toList,∃ n:Int,x.key=.int .i64 n∧(Lit.int .i64 n).wf=true:=by
        intro x hx
        have:x.key∈es.toList.map (·.key):=Gu.2 ⟨x,hx,rfl⟩
        rw [q1] at this
        obtain ⟨n,hn,e⟩:=Gu.1 this
        obtain ⟨r1,r2⟩:=hrg n hn
        refine ⟨n,e.symm,?_⟩
        simp only [Lit.wf,Bool.and_eq_true,decide_eq_true_eq]
        have m1:IntKind.i64.min = -9223372036854775808:=by decide
        have m2:IntKind.i64.max=9223372036854775807:=by decide
        omega
       have hrd:∀ x∈es.toList,∃ n:Int,x.key=.int .i64 n∧Go.WideElems.rd P kt (fun _=>some ((DataW.nil:DataW Unit),[])) x=some (.int .i64 n,.nil):=by
        intro x hx
        obtain ⟨n,e,hw⟩:=hwf x hx
        refine ⟨n,e,?_⟩
        unfold Go.WideElems.rd
        rw [e,Go.Maps.keyOf_int_mk hkt hw]
        rfl
       have hown:w.ownsMap P kt (fun _=>some ((DataW.nil:DataW Unit),[])) M.b es.size (.map ((es.toList.map (Go.WideElems.rg P kt fun _=>some ((DataW.nil:DataW Unit),[]))).foldr DataW.insert [])):=by
        refine ⟨es,es.size,k1,⟨?_,⟨?_,?_,?_⟩,?_⟩,Gf _,rfl⟩
        ·have:maxLen=9223372036854775807:=rfl
         omega
        ·intro x hx
         obtain ⟨i,hi⟩:=Hp.1 hx
         have hi2:es[i]?=some x:=by rw [← hi];simp
         rw [(k4 i x hi2).1]
         exact (GB.1 hi2).1
        ·have:es.toList.map (·.born)=List.range es.size:=by
          refine Gr fun i=>?_
          by_cases hi:i < es.size
          ·obtain ⟨e,he⟩:∃ e,es[i]?=some e:=⟨_,G4 hi⟩
           have e4:es.toList[i]?=some e:=by rw [← he];simp
           rw [Gi,e4,Gq hi,Gl,(k4 i e he).1]
          ·rw [Gp (by simp;omega),Gp (by simp;omega)]
         rw [this];exact List.nodup_range
        ·rw [q1]
         exact List.pairwise_map.2 (List.Pairwise.imp (fun {a b} hab e=>hab (by simpa using e)) hnd)
        ·intro x hx
         obtain ⟨n,-,e⟩:=hrd x hx
         exact ⟨_,e⟩
       have hkeys:=QeS (es:=es) (P:=P) (kt:=kt) q1 hrd
       have hsize:Go.Maps.size (H:=Unit) (.map ((es.toList.map (Go.WideElems.rg P kt fun _=>some ((DataW.nil:DataW Unit),[]))).foldr DataW.insert []))=es.size:=by
        show List.length _=_
        rw [(Go.WideShapes.sorted_perm _).length_eq];simp
       have hmx:maxLen=9223372036854775807:=rfl
       have hcall:=hc M.b L.b es.size _ _ w hlt hcell hown (by rw [hsize];omega) (by rw [hsize];omega)
       have eB:(#[(Value.pointer (some ⟨L.b,L.base+0,none⟩))]:Array Value)=#[.pointer (some ⟨L.b,0,none⟩)]:=by rw [hbase]
       show Calls P f #[.func (.func f') #[] #[.pointer (some ⟨L.b,L.base+0,none⟩)]] w _
       rw [eB]
       refine hcall.mono ?_
       rintro e w' ⟨v,ss,rfl,hS,hrow,hnil,hbl⟩
       have hfr:β h.length=none:=hf _ (Gf _) (by simp)
       have hperm:=hS.trans hkeys
       have hms:=Go.mergeSort_of_perm_i hperm
       have hpl:=hperm.length_eq
       rw [hms] at hrow
       have hpos:0 < es.size:=by
        rcases Nat.eq_zero_or_pos es.size with h0 | h0
        ·rw [h0,Nat.zero_mul] at k2
         exact absurd (Gz k2) hne
        ·exact h0
       obtain ⟨o1,o2⟩:=hrow
       rcases o2 with ⟨o3,o4⟩ | ⟨A,cap,cur,o3,o4,o5,o6,o7,o8,o9⟩
       ·omega
       ·subst o3
        have hml:((Zd z cs).mergeSort (fun x y:Int=>decide (x≤y))).length=(Zd z cs).length:=List.length_mergeSort _
        have hlen:(((Zd z cs).mergeSort (fun x y:Int=>decide (x≤y))).map (SV.int .i64)).length≤cur.size:=by rw [Gt,hml,o8,G3];omega
        obtain ⟨s1,s2⟩:=Qi4 R hfr hbl o4 o5 hlen (fun i v hi=>by
         rw [Gi] at hi
         cases hx:((Zd z cs).mergeSort (fun x y:Int=>decide (x≤y)))[i]? with
         | none=>rw [hx] at hi;cases hi
         | some x =>
          rw [hx] at hi
          simp only [Gl,Option.some.injEq] at hi
          subst hi
          refine ⟨.int .i64 x,?_,.int _ _⟩
          have h9:(cur.toList.take (ss.length*1))[i]?=some (Value.int .i64 x):=by rw [o9,Gi,hx];rfl
          rw [GJ] at h9
          split at h9
          ·simpa using h9
          ·cases h9)
        refine ⟨_,_,rfl,.sc ?_,s1,s2⟩
        rw [hpl]
        refine .slc (Q7 _ _ _) (fun k hk=>by cases hk) (by omega) (fun _=>rfl) (fun _=>⟨Gf _,?_⟩) (show (1:ESz).n < 1000000 by decide)
        simp [o8]
