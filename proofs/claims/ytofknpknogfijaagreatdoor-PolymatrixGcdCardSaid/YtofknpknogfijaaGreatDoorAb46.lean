import Derived.Test.YtofknpknogfijaaGreatDoorAb42
import Derived.Lib.SlKeysI
import Derived.Maps.Range
import Derived.Maps.OwnSet
/- slices.Sorted(maps.Keys(m)) at maps with keys of the type int: hooks. -/
namespace Go.Ab
set_option linter.all false
variable [Base]
def yA(g t:Nat):Xq:=fun args h=>match args with
 | [.sc (.mapv m)]=>some (.sc (.fn g [(h.length,0)]),h++[.cells [.mapv m] true ⟨0,some t⟩])
 | _=>none
theorem zV{P:Program}{f g t:Nat}(hfn:U1 P f=true)
  (hc:∀(mb:Option Nat) (w:World),Calls P f #[.map mb] w fun e w'=>e = .returned (.func (.func g) #[] #[.pointer (some ⟨w.heap.size,0,none⟩)])/\w'=w.alloc (.cells #[.map mb] t)):HkOK P f (yA g t) where
 fn:=hfn
 len:=fun args h v h' hs=>by
  unfold yA at hs
  split at hs
  ·simp at hs;rw[← hs.2];simp
  ·simp at hs
 run:=fun args h v h' hs β w vs hvs R hf=>by
  unfold yA at hs
  split at hs
  ·rename_i m
   simp only[Option.some.injEq,Prod.mk.injEq]at hs
   obtain⟨rfl,rfl⟩:=hs
   cases hvs with
   | cons h1 hvs =>
    cases hvs
    cases h1 with
    | sc h1 =>
     cases h1 with
     | mapv hL hn =>
      rename_i L
      refine(hc _ w).mono ?_
      rintro e w' ⟨rfl,rfl⟩
      have hfr:β h.length=none:=hf _ (Ge _) (by simp)
      obtain⟨s1,s2⟩:=JM R hfr #[.map (some L.b)] t [.mapv m] ⟨0,some t⟩ (fun t' ht=>by cases ht;rfl) (show (0:Nat)<1000000 by decide) (fun _=>by simp) (by simp) (fun i v hi=>by
       cases i with
       | zero=>simp at hi;subst hi;exact⟨_,rfl,.mapv hL hn⟩
       | succ i=>simp at hi)
      exact⟨_,_,rfl,.sc (.fn (.cons ⟨_,Q3 _ _ _,(by decide:(0:Nat)<1000000),rfl⟩ .nil)),s1,s2⟩
  ·simp at hs
def ZN(z:ESz)(cs:List SV):List Int:=(Zc z cs).map fun k=>k.headD 0
def Jq(g t:Nat):Xq:=fun args h=>match args with
 | [.sc (.fn f [(p, 0)])] => match h[p]? with
   | some (.cells [.mapv m] _ z0) => match h[m]? with
     | some (.cells cs true z) =>
      if f=g/\z0=⟨0,some t⟩/\(1000000<=z.n/\z.n<2000000/\z.kw=1)/\cs≠[]/\(ZN z cs).Nodup/\(∀ k∈ZN z cs,-9223372036854775808<=k/\k<=9223372036854775807)/\(ZN z cs).length<=1000000 then
       some (.sc (.slc h.length 0 (ZN z cs).length none),h++[.cells (((ZN z cs).mergeSort (fun x y:Int=>decide (x<=y))).map (.int .i64)) false 1])
      else none
     | _=>none
   | _=>none
 | _=>none
theorem QeX{β:Bt}{w:World}{L:Loc}{cs:List SV}{z:ESz}{es:Array MapEntry}(h1:cs.length=es.size*(z.kw+z.vw))(hkw:z.kw=1)
  (h4:∀(i:Nat) (e:MapEntry),es[i]?=some e->e.born=i/\VRel β (JI z cs i) e.key/\VRel β (qD z cs i) e.val) (h5:∀ i,i<es.size->∃ ns:List Int,JI z cs i=ns.map (.int .i64)) :
  es.toList.map (·.key)=(ZN z cs).map (Value.int .i64)/\(ZN z cs).length=es.size:=by
 have hsz:cs.length/(z.kw+z.vw)=es.size:=by rw[h1];exact Nat.mul_div_cancel _ (by omega)
 have hlen:(ZN z cs).length=es.size:=by simp[ZN,Zc,hsz]
 refine⟨Gr fun i=>?_,hlen⟩
 by_cases hi:i<es.size
 ·obtain⟨e,he⟩:∃ e,es[i]?=some e:=⟨_,G6 hi⟩
  obtain⟨ns,hns⟩:=h5 i hi
  obtain⟨-,hk,-⟩:=h4 i e he
  have hl:=(Qb4 h1 hi).1
  rw[hns,Gp,hkw]at hl
  match ns,hl with
  | [n],_ =>
   rw[hns]at hk
   have e2:=hk.key
   have e3:(ZN z cs)[i]?=some n:=by
    have hin:Jc ([n].map (SV.int .i64))=some [n]:=rfl
    simp only[ZN,Zc,Gj,hsz,Gw hi,Gm,hns,hin]
    rfl
   rw[Gj,Gj,e3]
   have e4:es.toList[i]?=some e:=by rw[← he];simp
   rw[e4,Gm,Gm,e2]
   rfl
 ·rw[Gg (by simp;omega),Gg (by simp;omega)]
def vOf:Value->Int
 | .int _ n=>n
 | _=>0
theorem Qe1{P:Program}{kt:TypeId}{es:Array MapEntry}{ks:List Int}(q1:es.toList.map (·.key)=ks.map (Value.int .i64))
  (hrd:∀ x∈es.toList,∃ n:Int,x.key = .int .i64 n/\Go.WideElems.rd P kt (fun _=>some ((DataW.nil:DataW Unit),[])) x=some (.int .i64 n,.nil)) :
  (Go.intKeys (.map ((es.toList.map (Go.WideElems.rg P kt fun _=>some ((DataW.nil:DataW Unit),[]))).foldr DataW.insert []))).Perm ks:=by
 have h1:((es.toList.map (Go.WideElems.rg P kt fun _=>some ((DataW.nil:DataW Unit),[]))).map fun p=>Go.intOf p.1)=(es.toList.map (·.key)).map vOf:=by
  rw[List.map_map,List.map_map]
  refine Ht fun x hx=>?_
  obtain⟨n,e,hr⟩:=hrd x hx
  simp only[Function.comp_apply,Go.WideElems.rg,hr,Option.getD_some,e,vOf,Go.intOf]
 have h2:(ks.map (Value.int .i64)).map vOf=ks:=by
  rw[List.map_map]
  have:(vOf∘Value.int .i64)=id:=by funext n;rfl
  rw[this,List.map_id]
 rw[q1,h2]at h1
 have h3:=(Go.WideShapes.sorted_perm (es.toList.map (Go.WideElems.rg P kt fun _=>some ((DataW.nil:DataW Unit),[])))).map fun p=>Go.intOf p.1
 rw[h1]at h3
 exact h3
theorem qF{P:Program}{f g t kt:Nat}(hfn:U1 P f=true)(hkt:P.underlying kt=some (.int .i64))
  (hc:∀(b Bm nn:Nat) (D0:DataW Unit) (R:Value->Option (DataW Unit×List MemPlace)) (w:World),Bm<w.heap.size->w.cell? ⟨Bm,0,none⟩=some (.map (some b))->w.ownsMap P kt R b nn D0->Go.Maps.size D0<=maxLen->Go.Maps.size D0*8<=140737488355328 ->
   Calls P f #[.func (.func g) #[] #[.pointer (some ⟨Bm,0,none⟩)]] w fun e w'=>∃(v:Value) (ss:List Int),e = .returned v/\ss.Perm (Go.intKeys D0) ∧
    w'.ownsRow w.heap.size kt 1 v ss.length ((ss.mergeSort (fun x y:Int=>decide (x<=y))).map (Value.int .i64))/\(v = .slice none 0 0↔ss=[])/\RowKit.Below w.heap.size w w'):HkOK P f (Jq g t) where
 fn:=hfn
 len:=fun args h v h' hs=>by
  unfold Jq at hs
  split at hs
  ·split at hs
   ·split at hs
    ·split at hs
     ·simp at hs;rw[← hs.2];simp
     ·simp at hs
    ·simp at hs
   ·simp at hs
  ·simp at hs
 run:=fun args h v h' hs β w vs hvs R hf=>by
  unfold Jq at hs
  split at hs
  case h_2=>simp at hs
  rename_i f' p
  split at hs
  case h_2=>simp at hs
  rename_i m rw0 z0 hp
  split at hs
  case h_2=>simp at hs
  rename_i cs z hm
  split at hs
  case isFalse=>simp at hs
  rename_i hcond
  obtain⟨rfl,rfl,⟨z1,z2,z3⟩,hne,hnd,hrg,hlk⟩:=hcond
  simp only[Option.some.injEq,Prod.mk.injEq]at hs
  obtain⟨rfl,rfl⟩:=hs
  cases hvs with
  | cons h1 hvs =>
   cases hvs
   cases h1 with
   | sc h1 =>
    cases h1 with
    | fn hcap =>
     cases hcap with
     | cons hc1 hcr =>
      cases hcr
      obtain⟨L,hL,hLn,rfl⟩:=hc1
      obtain⟨b1,ccs,e0,fz,b2,b3,b4,b5,b6,b7,b8,b9⟩:=(R.blk p L [.mapv m] rw0 ⟨0,some t⟩ hp hL).cell hLn
      have hbase:L.base=0:=(b8 t rfl).1
      obtain⟨c,hc1,hc2⟩:=b5 0 (.mapv m) rfl
      rw[hbase]at hc1
      cases hc2 with
      | mapv hM hMn =>
       rename_i M
       obtain⟨es,k1,k2,k3,k4,k5⟩:=qy R hm hM hMn
       obtain⟨q1,q2⟩:=QeX (w:=w) (L:=M) k2 z3 k4 k5
       have hcell:w.cell? ⟨L.b,0,none⟩=some (.map (some M.b)):=by
        rw[cell_of_row w L.b 0 ccs e0 _ b2]
        simpa using hc1
       have hlt:L.b<w.heap.size:=(Gv.1 b2).1
       have hwf:∀ x∈es.toList,∃ n:Int,x.key = .int .i64 n/\(Lit.int .i64 n).wf=true:=by
        intro x hx
        have:x.key∈es.toList.map (·.key):=GA.2 ⟨x,hx,rfl⟩
        rw[q1]at this
        obtain⟨n,hn,e⟩:=GA.1 this
        obtain⟨r1,r2⟩:=hrg n hn
        refine⟨n,e.symm,?_⟩
        simp only[Lit.wf,Bool.and_eq_true,decide_eq_true_eq]
        have m1:IntKind.i64.min = -9223372036854775808:=by decide
        have m2:IntKind.i64.max=9223372036854775807:=by decide
        omega
       have hrd:∀ x∈es.toList,∃ n:Int,x.key = .int .i64 n/\Go.WideElems.rd P kt (fun _=>some ((DataW.nil:DataW Unit),[])) x=some (.int .i64 n,.nil):=by
        intro x hx
        obtain⟨n,e,hw⟩:=hwf x hx
        refine⟨n,e,?_⟩
        unfold Go.WideElems.rd
        rw[e,Go.Maps.keyOf_int_mk hkt hw]
        rfl
       have hown:w.ownsMap P kt (fun _=>some ((DataW.nil:DataW Unit),[])) M.b es.size (.map ((es.toList.map (Go.WideElems.rg P kt fun _=>some ((DataW.nil:DataW Unit),[]))).foldr DataW.insert [])):=by
        refine⟨es,es.size,k1,⟨?_,⟨?_,?_,?_⟩,?_⟩,Ge _,rfl⟩
        ·have:maxLen=9223372036854775807:=rfl
         omega
        ·intro x hx
         obtain⟨i,hi⟩:=List.mem_iff_getElem?.1 hx
         have hi2:es[i]?=some x:=by rw[← hi];simp
         rw[(k4 i x hi2).1]
         exact(Gv.1 hi2).1
        ·have:es.toList.map (·.born)=List.range es.size:=by
          refine Gr fun i=>?_
          by_cases hi:i<es.size
          ·obtain⟨e,he⟩:∃ e,es[i]?=some e:=⟨_,G6 hi⟩
           have e4:es.toList[i]?=some e:=by rw[← he];simp
           rw[Gj,e4,Gw hi,Gm,(k4 i e he).1]
          ·rw[Gg (by simp;omega),Gg (by simp;omega)]
         rw[this];exact List.nodup_range
        ·rw[q1]
         exact List.pairwise_map.2 (List.Pairwise.imp (fun {a b} hab e=>hab (by simpa using e)) hnd)
        ·intro x hx
         obtain⟨n,-,e⟩:=hrd x hx
         exact⟨_,e⟩
       have hkeys:=Qe1 (es:=es) (P:=P) (kt:=kt) q1 hrd
       have hsize:Go.Maps.size (H:=Unit) (.map ((es.toList.map (Go.WideElems.rg P kt fun _=>some ((DataW.nil:DataW Unit),[]))).foldr DataW.insert []))=es.size:=by
        show List.length _=_
        rw[(Go.WideShapes.sorted_perm _).length_eq];simp
       have hmx:maxLen=9223372036854775807:=rfl
       have hcall:=hc M.b L.b es.size _ _ w hlt hcell hown (by rw[hsize];omega) (by rw[hsize];omega)
       have eB:(#[(Value.pointer (some ⟨L.b,L.base+0,none⟩))]:Array Value)=#[.pointer (some ⟨L.b,0,none⟩)]:=by rw[hbase]
       show Calls P f #[.func (.func f') #[] #[.pointer (some ⟨L.b,L.base+0,none⟩)]] w _
       rw[eB]
       refine hcall.mono ?_
       rintro e w' ⟨v,ss,rfl,hS,hrow,hnil,hbl⟩
       have hfr:β h.length=none:=hf _ (Ge _) (by simp)
       have hperm:=hS.trans hkeys
       have hms:=Go.mergeSort_of_perm_i hperm
       have hpl:=hperm.length_eq
       rw[hms]at hrow
       have hpos:0<es.size:=by
        rcases Nat.eq_zero_or_pos es.size with h0|h0
        ·rw[h0,Nat.zero_mul]at k2
         exact absurd (Gu k2) hne
        ·exact h0
       obtain⟨o1,o2⟩:=hrow
       rcases o2 with ⟨o3,o4⟩|⟨A,cap,cur,o3,o4,o5,o6,o7,o8,o9⟩
       ·omega
       ·subst o3
        have hml:((ZN z cs).mergeSort (fun x y:Int=>decide (x<=y))).length=(ZN z cs).length:=List.length_mergeSort _
        have hlen:(((ZN z cs).mergeSort (fun x y:Int=>decide (x<=y))).map (SV.int .i64)).length<=cur.size:=by rw[Gp,hml,o8,Hd];omega
        obtain⟨s1,s2⟩:=Qin R hfr hbl o4 o5 hlen (fun i v hi=>by
         rw[Gj]at hi
         cases hx:((ZN z cs).mergeSort (fun x y:Int=>decide (x<=y)))[i]? with
         | none=>rw[hx]at hi;cases hi
         | some x =>
          rw[hx]at hi
          simp only[Gm,Option.some.injEq]at hi
          subst hi
          refine⟨.int .i64 x,?_,.int _ _⟩
          have h9:(cur.toList.take (ss.length*1))[i]?=some (Value.int .i64 x):=by rw[o9,Gj,hx];rfl
          rw[GC]at h9
          split at h9
          ·simpa using h9
          ·cases h9)
        refine⟨_,_,rfl,.sc ?_,s1,s2⟩
        rw[hpl]
        refine .slc (Q3 _ _ _) (fun k hk=>by cases hk) (by omega) (fun _=>rfl) (fun _=>⟨Ge _,?_⟩) (show (1:ESz).n<1000000 by decide)
        simp[o8]
