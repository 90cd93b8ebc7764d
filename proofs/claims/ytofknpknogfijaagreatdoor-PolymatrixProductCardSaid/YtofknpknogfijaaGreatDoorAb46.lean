import Derived.Test.YtofknpknogfijaaGreatDoorAb44
import Derived.Lib.SlKeysI
import Derived.Maps.Range
import Derived.Maps.OwnSet
/- Maps from ints to values of two cells: steps. -/
namespace Go.Ab
set_option linter.all false
abbrev zIW:ESz:=⟨1001002,none⟩
def prW(es:List (Int×(SV×SV))):List SV:=(es.map fun p=>[.int .i64 p.1,p.2.1,p.2.2]).flatten
abbrev MBW(es:List (Int×(SV×SV))):Blk := .cells (prW es) true zIW
theorem J0(p:Int×(SV×SV))(es:List (Int×(SV×SV))):prW (p::es) = .int .i64 p.1::p.2.1::p.2.2::prW es:=rfl
theorem Qd5(es:List (Int×(SV×SV))):(prW es).length=es.length*3:=by
 induction es with
 | nil=>rfl
 | cons p es ih=>rw[J0];simp only[Gu,ih];omega
theorem Qku(a b:List (Int×(SV×SV))):prW (a++b)=prW a++prW b:=by simp[prW]
theorem yt:∀(es:List (Int×(SV×SV))) (i:Nat) (p:Int×(SV×SV)),es[i]?=some p->(prW es).drop (i*3) = .int .i64 p.1::p.2.1::p.2.2::prW (es.drop (i+1))
 | [],i,p,h=>by simp at h
 | q::es,0,p,h=>by simp at h;subst h;rfl
 | q::es,i+1,p,h=>by
  rw[List.getElem?_cons_succ]at h
  have:=yt es i p h
  rw[J0,show (i+1)*3=i*3+1+1+1 by omega,HC,HC,HC,this,HC]
theorem Qg1(es:List (Int×(SV×SV)))(i:Nat):(prW es).take (i*3)=prW (es.take i):=by
 induction es generalizing i with
 | nil=>simp[prW]
 | cons p es ih =>
  cases i with
  | zero=>simp[prW]
  | succ i =>
   rw[J0,show (i+1)*3=i*3+1+1+1 by omega,Hb,Hb,Hb,ih,Hb,J0]
theorem QfI:zIW.kw=1:=by decide
theorem Qf8:zIW.vw=2:=by decide
theorem QkQ{es:List (Int×(SV×SV))}{i:Nat}{p:Int×(SV×SV)}(h:es[i]?=some p):Je zIW (prW es) i=[.int .i64 p.1]:=by
 unfold Je
 rw[QfI,Qf8,yt es i p h];rfl
theorem QkP{es:List (Int×(SV×SV))}{i:Nat}{p:Int×(SV×SV)}(h:es[i]?=some p):JS zIW (prW es) i=[p.2.1,p.2.2]:=by
 unfold JS
 rw[QfI,Qf8,← HD,yt es i p h];rfl
theorem lenIW(es:List (Int×(SV×SV))):(prW es).length/(zIW.kw+zIW.vw)=es.length:=by
 rw[QfI,Qf8,Qd5];omega
theorem Qhq(es:List (Int×(SV×SV))):YW zIW (prW es)=es.map fun p=>[p.1]:=by
 unfold YW
 rw[lenIW]
 refine Gt fun i=>?_
 by_cases hi:i<es.length
 ·have hg:es[i]?=some es[i]:=Ga hi
  simp only[Gh,Gv hi,hg,Gp,QkQ hg]
  rfl
 ·rw[Gr (by simp;omega),Gr (by simp;omega)]
theorem QhQ(es:List (Int×(SV×SV)))(k:Int):Vu zIW (prW es) [k]=es.findIdx? fun p=>p.1==k:=by
 unfold Vu
 rw[Qhq,List.findIdx?_map]
 congr 1
 funext p
 simp
def Vr(es:List (Int×(SV×SV)))(k:Int):Option (SV×SV):=(es.find? fun p=>p.1==k).map (·.2)
def Qfa(es:List (Int×(SV×SV)))(k:Int)(v:SV×SV):List (Int×(SV×SV)):=match es.findIdx? fun p=>p.1==k with
 | some j=>es.set j (k,v)
 | none=>es++[(k,v)]
theorem ZH:∀(es:List (Int×(SV×SV))) (k:Int),match es.findIdx? (fun p=>p.1==k) with
  | some j=>∃ p,es[j]?=some p/\p.1=k/\Vr es k=some p.2
  | none=>Vr es k=none
 | [],k=>rfl
 | q::es,k=>by
  rw[List.findIdx?_cons]
  by_cases h:(q.1==k)=true
  ·rw[if_pos h]
   exact⟨q,rfl,by simpa using h,by unfold Vr;rw[List.find?_cons,h];rfl⟩
  ·rw[if_neg h]
   have ih:=ZH es k
   have e:Vr (q::es) k=Vr es k:=by
    unfold Vr
    rw[List.find?_cons]
    simp only[h]
   rw[e]
   cases hf:es.findIdx? (fun p=>p.1==k) with
   | none=>rw[hf]at ih;exact ih
   | some j =>
    rw[hf]at ih
    obtain⟨p,a,b,c⟩:=ih
    exact⟨p,by simpa using a,b,c⟩
theorem Qgh{es:List (Int×(SV×SV))}{j:Nat}{p:Int×(SV×SV)}{k:Int}{v:SV×SV}(hp:es[j]?=some p)(hk:p.1=k):Q8 (prW es) (j*(zIW.kw+zIW.vw)+zIW.kw) [v.1,v.2]=prW (es.set j (k,v)):=by
 have hj:=(Gb.1 hp).1
 rw[QfI,Qf8]
 unfold Q8
 rw[List.set_eq_take_append_cons_drop,if_pos hj,Qku,J0]
 have hd:=yt es j p hp
 have e1:(prW es).take (j*3+1)=prW (es.take j)++[.int .i64 k]:=by
  rw[List.take_add,Qg1,hd,hk];rfl
 have e2:(prW es).drop (j*3+1+2)=prW (es.drop (j+1)):=by
  rw[show j*3+1+2=j*3+3 by omega,← HD,hd];rfl
 have e3:(prW es).drop (j*(1+2)+1+[v.1,v.2].length)=prW (es.drop (j+1)):=e2
 rw[e1,e3]
 simp
section
variable {FT:zzA} {HK:zzH} {E:Env} {h:Qa} {K:Env->Qa->Prop} {d:Option Nat} {r:List AOp} {x y v:AO}
theorem Qn0(hw:Qm FT HK r (Qv d (some (.sc (.mapv h.length))) E) (h++[MBW []]) K):Qm FT HK (⟨d,.mpM zIW,none⟩::r) E h K:=by
 refine Q2 (v:=some (.sc (.mapv h.length))) (h':=h++[MBW []]) rfl rfl ?_ hw
 simp only[Qo]
 rw[if_pos (by decide)]
 rfl
theorem Qa3{id:Nat}{es:List (Int×(SV×SV))}{n:Int}{a b:SV}{o:SV×SV}(hx:evS E x=some (.mapv id))(hL:h[id]?=some (MBW es))(hy:ev E y=some (.sc (.int .i64 n)))(ho:(Vr es n).getD (a,b)=o)
  (hw:Qm FT HK r (Qv d (some (.agg [o.1,o.2])) E) h K):Qm FT HK (⟨d,.mpL zIW [a,b] false x y,none⟩::r) E h K:=by
 refine Q2 rfl rfl ?_ hw
 have hi:Zz [.int .i64 n]=some [n]:=rfl
 simp only[Qo,hx,hL,if_true,hy,QaV,Gl,hi,QhQ]
 rw[if_pos (show [n].length=zIW.kw by rw[QfI];rfl)]
 have:=ZH es n
 subst ho
 cases hf:es.findIdx? (fun p=>p.1==n) with
 | none=>rw[hf]at this;simp only[]at this;rw[this];rfl
 | some j =>
  rw[hf]at this
  obtain⟨p,a,b,c⟩:=this
  rw[c]
  simp only[QkP a]
  rfl
theorem QnZ{id:Nat}{es:List (Int×(SV×SV))}{n:Int}{a b:SV}(hx:evS E x=some (.mapv id))(hL:h[id]?=some (MBW es))(hy:ev E y=some (.sc (.int .i64 n)))(hv:ev E v=some (.agg [a,b]))
  (hw:Qm FT HK r (Qv d none E) (h.set id (MBW (Qfa es n (a,b)))) K):Qm FT HK (⟨d,.mpU zIW x y v,none⟩::r) E h K:=by
 refine Q2 (v:=none) (h':=h.set id (MBW (Qfa es n (a,b)))) rfl rfl ?_ hw
 have hi:Zz [.int .i64 n]=some [n]:=rfl
 have hl2:([a,b]:List SV).length≠1:=by simp
 simp only[Qo,hx,hL,if_true,hy,hv,QaV,Gl,hi,QhQ,hl2,if_false]
 rw[if_pos (⟨by rw[QfI];rfl,by rw[Qf8];rfl⟩:[n].length=zIW.kw∧[a,b].length=zIW.vw)]
 have:=ZH es n
 unfold Qfa
 cases hf:es.findIdx? (fun p=>p.1==n) with
 | none =>
  have hp:prW (es++[(n,(a,b))])=prW es++[.int .i64 n]++[a,b]:=by simp[prW]
  simp only[← hp]
 | some j =>
  rw[hf]at this
  obtain⟨p,c1,c2,c3⟩:=this
  simp only[]
  have:=Qgh (v:=(a,b)) c1 c2
  simp only at this
  rw[this]
end
def esF(g:Int->SV×SV)(K:List Int):List (Int×(SV×SV)):=K.map fun k=>(k,g k)
theorem Qcu(g:Int->SV×SV)(k:Int):∀ K:List Int,(esF g K).find? (fun p=>p.1==k)=if k∈K then some (k,g k) else none
 | []=>rfl
 | a::K=>by
  have ih:=Qcu g k K
  unfold esF at ih ⊢
  rw[GE,List.find?_cons]
  by_cases h:a=k
  ·subst h;simp
  ·have h2:(a==k)=false:=by simpa using h
   simp only[h2]
   rw[ih]
   have h3:¬ k=a:=fun e=>h e.symm
   simp[h3]
theorem Qdb(g:Int->SV×SV)(K:List Int)(k:Int):Vr (esF g K) k=if k∈K then some (g k) else none:=by
 unfold Vr
 rw[Qcu]
 split <;> rfl
theorem Qni{g g':Int->SV×SV}{K:List Int}(hn:K.Nodup)(k:Int)(hg:∀ e,e≠k->g' e=g e):Qfa (esF g K) k (g' k)=esF g' (if k∈K then K else K++[k]):=by
 unfold Qfa
 have hf:=ZH (esF g K) k
 rw[Qdb]at hf
 cases hj:(esF g K).findIdx? (fun p=>p.1==k) with
 | none =>
  rw[hj]at hf
  have hk:k ∉ K:=fun h=>by simp[h]at hf
  simp only[]
  rw[if_neg hk]
  unfold esF
  rw[GW]
  congr 1
  exact G6 fun e he=>by rw[hg e (fun e2=>hk (e2 ▸ he))]
 | some j =>
  rw[hj]at hf
  obtain⟨p,h1,h2,h3⟩:=hf
  have hk:k∈K:=by
   apply Classical.byContradiction
   intro h
   simp[h]at h3
  simp only[]
  rw[if_pos hk]
  have hKj:K[j]?=some k:=by
   unfold esF at h1
   rw[Gh,Gc]at h1
   obtain⟨a,b,rfl⟩:=h1
   simp only at h2
   rw[← h2];exact b
  refine Gt fun i=>?_
  unfold esF
  rw[GQ]
  simp only[Gh,Gj]
  by_cases e:j=i
  ·subst e
   have:=(Gb.1 hKj).1
   rw[if_pos rfl,if_pos this,hKj];rfl
  ·rw[if_neg e]
   cases hi:K[i]? with
   | none=>rfl
   | some a =>
    have hne:a≠k:=fun e2=>by
     subst e2
     obtain⟨a1,a2⟩:=Gb.1 hi
     obtain⟨b1,b2⟩:=Gb.1 hKj
     exact e ((List.getElem_inj (h₀:=b1) (h₁:=a1) hn).1 (b2.trans a2.symm))
    simp only[Gp]
    rw[hg a hne]
variable [Base]
def J2(g t:Nat):Xq:=fun args h=>match args with
 | [.sc (.mapv m)]=>some (.sc (.fn g [(h.length,0)]),h++[.cells [.mapv m] true ⟨0,some t⟩])
 | _=>none
theorem z7{P:Program}{f g t:Nat}(hfn:Vt P f=true)
  (hc:∀(mb:Option Nat) (w:World),Calls P f #[.map mb] w fun e w'=>e = .returned (.func (.func g) #[] #[.pointer (some ⟨w.heap.size,0,none⟩)])/\w'=w.alloc (.cells #[.map mb] t)):HkOK P f (J2 g t) where
 fn:=hfn
 len:=fun args h v h' hs=>by
  unfold J2 at hs
  split at hs
  ·simp at hs;rw[← hs.2];simp
  ·simp at hs
 run:=fun args h v h' hs β w vs hvs R hf=>by
  unfold J2 at hs
  split at hs
  ·rename_i m
   simp only[Option.some.injEq,Prod.mk.injEq]at hs
   obtain⟨rfl,rfl⟩:=hs
   cases hvs with
   | cons h1 hvs =>
    cases hvs
    cases h1 with
    | sc h1 =>
     cases h1 with
     | mapv hL hn =>
      rename_i L
      refine(hc _ w).mono ?_
      rintro e w' ⟨rfl,rfl⟩
      have hfr:β h.length=none:=hf _ (Gd _) (by simp)
      obtain⟨s1,s2⟩:=JN R hfr #[.map (some L.b)] t [.mapv m] ⟨0,some t⟩ (fun t' ht=>by cases ht;rfl) (show (0:Nat)<1000000 by decide) (fun _=>by simp) (by simp) (fun i v hi=>by
       cases i with
       | zero=>simp at hi;subst hi;exact⟨_,rfl,.mapv hL hn⟩
       | succ i=>simp at hi)
      exact⟨_,_,rfl,.sc (.fn (.cons ⟨_,Xe _ _ _,(by decide:(0:Nat)<1000000),rfl⟩ .nil)),s1,s2⟩
  ·simp at hs
def Zs(z:ESz)(cs:List SV):List Int:=(YW z cs).map fun k=>k.headD 0
def Zd(g t:Nat):Xq:=fun args h=>match args with
 | [.sc (.fn f [(p, 0)])] => match h[p]? with
   | some (.cells [.mapv m] _ z0) => match h[m]? with
     | some (.cells cs true z) =>
      if f=g/\z0=⟨0,some t⟩/\(1000000<=z.n/\z.n<2000000/\z.kw=1)/\cs≠[]/\(Zs z cs).Nodup/\(∀ k∈Zs z cs,-9223372036854775808<=k/\k<=9223372036854775807)/\(Zs z cs).length<=1000000 then
       some (.sc (.slc h.length 0 (Zs z cs).length none),h++[.cells (((Zs z cs).mergeSort (fun x y:Int=>decide (x<=y))).map (.int .i64)) false 1])
      else none
     | _=>none
   | _=>none
 | _=>none
theorem QfH{β:Bt}{w:World}{L:Loc}{cs:List SV}{z:ESz}{es:Array MapEntry}(h1:cs.length=es.size*(z.kw+z.vw))(hkw:z.kw=1)
  (h4:∀(i:Nat) (e:MapEntry),es[i]?=some e->e.born=i/\VRel β (Je z cs i) e.key/\VRel β (JS z cs i) e.val) (h5:∀ i,i<es.size->∃ ns:List Int,Je z cs i=ns.map (.int .i64)) :
  es.toList.map (·.key)=(Zs z cs).map (Value.int .i64)/\(Zs z cs).length=es.size:=by
 have hsz:cs.length/(z.kw+z.vw)=es.size:=by rw[h1];exact Nat.mul_div_cancel _ (by omega)
 have hlen:(Zs z cs).length=es.size:=by simp[Zs,YW,hsz]
 refine⟨Gt fun i=>?_,hlen⟩
 by_cases hi:i<es.size
 ·obtain⟨e,he⟩:∃ e,es[i]?=some e:=⟨_,Ha hi⟩
  obtain⟨ns,hns⟩:=h5 i hi
  obtain⟨-,hk,-⟩:=h4 i e he
  have hl:=(Qcx h1 hi).1
  rw[hns,Gj,hkw]at hl
  match ns,hl with
  | [n],_ =>
   rw[hns]at hk
   have e2:=hk.key
   have e3:(Zs z cs)[i]?=some n:=by
    have hin:Zz ([n].map (SV.int .i64))=some [n]:=rfl
    simp only[Zs,YW,Gh,hsz,Gv hi,Gp,hns,hin]
    rfl
   rw[Gh,Gh,e3]
   have e4:es.toList[i]?=some e:=by rw[← he];simp
   rw[e4,Gp,Gp,e2]
   rfl
 ·rw[Gr (by simp;omega),Gr (by simp;omega)]
def vOf:Value->Int
 | .int _ n=>n
 | _=>0
theorem QfK{P:Program}{kt:TypeId}{es:Array MapEntry}{ks:List Int}(q1:es.toList.map (·.key)=ks.map (Value.int .i64))
  (hrd:∀ x∈es.toList,∃ n:Int,x.key = .int .i64 n/\Go.WideElems.rd P kt (fun _=>some ((DataW.nil:DataW Unit),[])) x=some (.int .i64 n,.nil)) :
  (Go.intKeys (.map ((es.toList.map (Go.WideElems.rg P kt fun _=>some ((DataW.nil:DataW Unit),[]))).foldr DataW.insert []))).Perm ks:=by
 have h1:((es.toList.map (Go.WideElems.rg P kt fun _=>some ((DataW.nil:DataW Unit),[]))).map fun p=>Go.intOf p.1)=(es.toList.map (·.key)).map vOf:=by
  rw[Hm,Hm]
  refine G6 fun x hx=>?_
  obtain⟨n,e,hr⟩:=hrd x hx
  simp only[Function.comp_apply,Go.WideElems.rg,hr,Option.getD_some,e,vOf,Go.intOf]
 have h2:(ks.map (Value.int .i64)).map vOf=ks:=by
  rw[Hm]
  have:(vOf∘Value.int .i64)=id:=by funext n;rfl
  rw[this,List.map_id]
 rw[q1,h2]at h1
 have h3:=(Go.WideShapes.sorted_perm (es.toList.map (Go.WideElems.rg P kt fun _=>some ((DataW.nil:DataW Unit),[])))).map fun p=>Go.intOf p.1
 rw[h1]at h3
 exact h3
theorem qA{P:Program}{f g t kt:Nat}(hfn:Vt P f=true)(hkt:P.underlying kt=some (.int .i64))
  (hc:∀(b Bm nn:Nat) (D0:DataW Unit) (R:Value->Option (DataW Unit×List MemPlace)) (w:World),Bm<w.heap.size->w.cell? ⟨Bm,0,none⟩=some (.map (some b))->w.ownsMap P kt R b nn D0->Go.Maps.size D0<=maxLen->Go.Maps.size D0*8<=140737488355328 ->
   Calls P f #[.func (.func g) #[] #[.pointer (some ⟨Bm,0,none⟩)]] w fun e w'=>∃(v:Value) (ss:List Int),e = .returned v/\ss.Perm (Go.intKeys D0) ∧
    w'.ownsRow w.heap.size kt 1 v ss.length ((ss.mergeSort (fun x y:Int=>decide (x<=y))).map (Value.int .i64))/\(v = .slice none 0 0↔ss=[])/\RowKit.Below w.heap.size w w'):HkOK P f (Zd g t) where
 fn:=hfn
 len:=fun args h v h' hs=>by
  unfold Zd at hs
  split at hs
  ·split at hs
   ·split at hs
    ·split at hs
     ·simp at hs;rw[← hs.2];simp
     ·simp at hs
    ·simp at hs
   ·simp at hs
  ·simp at hs
 run:=fun args h v h' hs β w vs hvs R hf=>by
  unfold Zd at hs
  split at hs
  case h_2=>simp at hs
  rename_i f' p
  split at hs
  case h_2=>simp at hs
  rename_i m rw0 z0 hp
  split at hs
  case h_2=>simp at hs
  rename_i cs z hm
  split at hs
  case isFalse=>simp at hs
  rename_i hcond
  obtain⟨rfl,rfl,⟨z1,z2,z3⟩,hne,hnd,hrg,hlk⟩:=hcond
  simp only[Option.some.injEq,Prod.mk.injEq]at hs
  obtain⟨rfl,rfl⟩:=hs
  cases hvs with
  | cons h1 hvs =>
   cases hvs
   cases h1 with
   | sc h1 =>
    cases h1 with
    | fn hcap =>
     cases hcap with
     | cons hc1 hcr =>
      cases hcr
      obtain⟨L,hL,hLn,rfl⟩:=hc1
      obtain⟨b1,ccs,e0,fz,b2,b3,b4,b5,b6,b7,b8,b9⟩:=(R.blk p L [.mapv m] rw0 ⟨0,some t⟩ hp hL).cell hLn
      have hbase:L.base=0:=(b8 t rfl).1
      obtain⟨c,hc1,hc2⟩:=b5 0 (.mapv m) rfl
      rw[hbase]at hc1
      cases hc2 with
      | mapv hM hMn =>
       rename_i M
       obtain⟨es,k1,k2,k3,k4,k5⟩:=qq R hm hM hMn
       obtain⟨q1,q2⟩:=QfH (w:=w) (L:=M) k2 z3 k4 k5
       have hcell:w.cell? ⟨L.b,0,none⟩=some (.map (some M.b)):=by
        rw[cell_of_row w L.b 0 ccs e0 _ b2]
        simpa using hc1
       have hlt:L.b<w.heap.size:=(GH.1 b2).1
       have hwf:∀ x∈es.toList,∃ n:Int,x.key = .int .i64 n/\(Lit.int .i64 n).wf=true:=by
        intro x hx
        have:x.key∈es.toList.map (·.key):=Gs.2 ⟨x,hx,rfl⟩
        rw[q1]at this
        obtain⟨n,hn,e⟩:=Gs.1 this
        obtain⟨r1,r2⟩:=hrg n hn
        refine⟨n,e.symm,?_⟩
        simp only[Lit.wf,Bool.and_eq_true,decide_eq_true_eq]
        have m1:IntKind.i64.min = -9223372036854775808:=by decide
        have m2:IntKind.i64.max=9223372036854775807:=by decide
        omega
       have hrd:∀ x∈es.toList,∃ n:Int,x.key = .int .i64 n/\Go.WideElems.rd P kt (fun _=>some ((DataW.nil:DataW Unit),[])) x=some (.int .i64 n,.nil):=by
        intro x hx
        obtain⟨n,e,hw⟩:=hwf x hx
        refine⟨n,e,?_⟩
        unfold Go.WideElems.rd
        rw[e,Go.Maps.keyOf_int_mk hkt hw]
        rfl
       have hown:w.ownsMap P kt (fun _=>some ((DataW.nil:DataW Unit),[])) M.b es.size (.map ((es.toList.map (Go.WideElems.rg P kt fun _=>some ((DataW.nil:DataW Unit),[]))).foldr DataW.insert [])):=by
        refine⟨es,es.size,k1,⟨?_,⟨?_,?_,?_⟩,?_⟩,Gd _,rfl⟩
        ·have:maxLen=9223372036854775807:=rfl
         omega
        ·intro x hx
         obtain⟨i,hi⟩:=Hs.1 hx
         have hi2:es[i]?=some x:=by rw[← hi];simp
         rw[(k4 i x hi2).1]
         exact(GH.1 hi2).1
        ·have:es.toList.map (·.born)=List.range es.size:=by
          refine Gt fun i=>?_
          by_cases hi:i<es.size
          ·obtain⟨e,he⟩:∃ e,es[i]?=some e:=⟨_,Ha hi⟩
           have e4:es.toList[i]?=some e:=by rw[← he];simp
           rw[Gh,e4,Gv hi,Gp,(k4 i e he).1]
          ·rw[Gr (by simp;omega),Gr (by simp;omega)]
         rw[this];exact List.nodup_range
        ·rw[q1]
         exact List.pairwise_map.2 (List.Pairwise.imp (fun {a b} hab e=>hab (by simpa using e)) hnd)
        ·intro x hx
         obtain⟨n,-,e⟩:=hrd x hx
         exact⟨_,e⟩
       have hkeys:=QfK (es:=es) (P:=P) (kt:=kt) q1 hrd
       have hsize:Go.Maps.size (H:=Unit) (.map ((es.toList.map (Go.WideElems.rg P kt fun _=>some ((DataW.nil:DataW Unit),[]))).foldr DataW.insert []))=es.size:=by
        show List.length _=_
        rw[(Go.WideShapes.sorted_perm _).length_eq];simp
       have hmx:maxLen=9223372036854775807:=rfl
       have hcall:=hc M.b L.b es.size _ _ w hlt hcell hown (by rw[hsize];omega) (by rw[hsize];omega)
       have eB:(#[(Value.pointer (some ⟨L.b,L.base+0,none⟩))]:Array Value)=#[.pointer (some ⟨L.b,0,none⟩)]:=by rw[hbase]
       show Calls P f #[.func (.func f') #[] #[.pointer (some ⟨L.b,L.base+0,none⟩)]] w _
       rw[eB]
       refine hcall.mono ?_
       rintro e w' ⟨v,ss,rfl,hS,hrow,hnil,hbl⟩
       have hfr:β h.length=none:=hf _ (Gd _) (by simp)
       have hperm:=hS.trans hkeys
       have hms:=Go.mergeSort_of_perm_i hperm
       have hpl:=hperm.length_eq
       rw[hms]at hrow
       have hpos:0<es.size:=by
        rcases Nat.eq_zero_or_pos es.size with h0|h0
        ·rw[h0,Nat.zero_mul]at k2
         exact absurd (Gw k2) hne
        ·exact h0
       obtain⟨o1,o2⟩:=hrow
       rcases o2 with ⟨o3,o4⟩|⟨A,cap,cur,o3,o4,o5,o6,o7,o8,o9⟩
       ·omega
       ·subst o3
        have hml:((Zs z cs).mergeSort (fun x y:Int=>decide (x<=y))).length=(Zs z cs).length:=List.length_mergeSort _
        have hlen:(((Zs z cs).mergeSort (fun x y:Int=>decide (x<=y))).map (SV.int .i64)).length<=cur.size:=by rw[Gj,hml,o8,Hh];omega
        obtain⟨s1,s2⟩:=Qkp R hfr hbl o4 o5 hlen (fun i v hi=>by
         rw[Gh]at hi
         cases hx:((Zs z cs).mergeSort (fun x y:Int=>decide (x<=y)))[i]? with
         | none=>rw[hx]at hi;cases hi
         | some x =>
          rw[hx]at hi
          simp only[Gp,Option.some.injEq]at hi
          subst hi
          refine⟨.int .i64 x,?_,.int _ _⟩
          have h9:(cur.toList.take (ss.length*1))[i]?=some (Value.int .i64 x):=by rw[o9,Gh,hx];rfl
          rw[GM]at h9
          split at h9
          ·simpa using h9
          ·cases h9)
        refine⟨_,_,rfl,.sc ?_,s1,s2⟩
        rw[hpl]
        refine .slc (Xe _ _ _) (fun k hk=>by cases hk) (by omega) (fun _=>rfl) (fun _=>⟨Gd _,?_⟩) (show (1:ESz).n<1000000 by decide)
        simp[o8]
