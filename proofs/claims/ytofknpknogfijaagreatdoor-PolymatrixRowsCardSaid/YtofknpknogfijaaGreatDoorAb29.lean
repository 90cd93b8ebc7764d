import Derived.Test.YtofknpknogfijaaGreatDoorAb27
/- A memory that is what was there and a few blocks more,each known. -/
namespace Go.Ab
set_option linter.all false
theorem isA {h0:Qa} {s:SV} {n:Nat} {vs:List SV} (L:Qa) (h:IsSl h0 s 1 n vs):IsSl (h0++L) s 1 n vs:=IsSl.ext h ⟨L,rfl⟩
theorem cut1 {cs:List SV} {j:Nat} {x:SV} (h:cs[j]?=some x):cut cs (0+j*1) 1=some [x]:=by
 obtain ⟨hl,e⟩:=Gb.1 h
 simp only [G0,G3]
 unfold cut
 rw [if_pos (by omega),GS hl,e];rfl
theorem rdS {L:Qa} {k j:Nat} {vs:List SV} {rw':Bool} {z:ESz} {x:SV} (hL:L[k]?=some (.cells vs rw' z)) (hx:vs[j]?=some x):QZ L k (0+j*1) 1=some [x]:=by
 simp only [QZ,hL]
 exact cut1 hx
def Cellq (h0 B:Qa) (q:Nat):Prop:=∀ a b:SV,∃ B',Xx B q 0 [a,b]=some B'∧B'.length=B.length∧QZ B' q 0 2=some [a,b]∧Ext h0 B'
section
variable {FT:FuncId→Option AFun} {HK:FuncId→Option Xj} {E:Env} {h0 L L':Qa} {K:Env→Qa→Prop} {d:Option Nat} {r:List AOp} {x y:AO}
theorem Xg {h:Qa} {a id off n:Nat} {vs:List SV} {Q:AV→Prop} (hE:E.get a=some (.sc (.ptr id off))) (hr:QZ h id off n=some vs) (hK:Q (.agg vs)):oK (XL [.cell a n true] E h) Q:=by
 have:XL [.cell a n true] E h=some (.agg vs):=by simp only [XL,ZS,hE,hr,Gm,YB,if_true,AV.pv,Gl,PV.av]
 rw [this];exact hK
theorem Zb {h:Qa} {a id off n t:Nat} {vs:List SV} {v:SV} {Q:AV→Prop} (hE:E.get a=some (.sc (.ptr id off))) (hr:QZ h id off n=some vs) (ht:E.get t=some (.sc v)) (hK:Q (.tup [.agg vs,.sc v])):oK (XL [.cell a n true,.t t] E h) Q:=by
 have:XL [.cell a n true,.t t] E h=some (.tup [.agg vs,.sc v]):=by simp only [XL,Zj,ZS,hE,hr,ht,Gm,YB,if_true,AV.pv,Gl]
 rw [this];exact hK
theorem XE {zero cs:List SV} {parts:List (Nat × Nat × AO)} {ps:List (Nat × Nat × List SV)} {h:Qa} (hp:Yp E parts=some ps) (hf:ZB zero ps=some cs)
  (hw:Ql FT HK r (Qr d (some (.agg cs)) E) h K):Ql FT HK (⟨d,.bld zero parts,none⟩::r) E h K :=
 Xe rfl rfl (by simp only [Qm,hp,Gm,hf,Gl]) hw
end
def Cel (h:Qa) (q:Nat) (a b:SV):Prop:=h[q]?=some (.cells [a,b] true 0)
theorem Cel.lt {h:Qa} {q:Nat} {a b:SV} (c:Cel h q a b):q < h.length:=(Gb.1 c).1
theorem Cel.ext {h h':Qa} {q:Nat} {a b:SV} (c:Cel h q a b) (he:Ext h h'):Cel h' q a b:=he.get _ _ c
theorem Cel.at {h:Qa} {q:Nat} {a b:SV} (c:Cel h q a b):Blk.At h q [a,b]:=⟨true,0,c⟩
structure Wr (h h1:Qa) (q:Nat) (a b:SV):Prop where
 eq:h1=h.set q (.cells [a,b] true 0)
 old:∃ c d,Cel h q c d
theorem Wr.cel {h h1:Qa} {q:Nat} {a b:SV} (w:Wr h h1 q a b):Cel h1 q a b:=by
 obtain ⟨c,d,h2⟩:=w.old
 rw [w.eq];exact GC h2.lt
theorem Wr.keep {h h1:Qa} {q j:Nat} {a b x y:SV} (w:Wr h h1 q a b) (c:Cel h j x y) (hj:j≠q):Cel h1 j x y:=by
 rw [w.eq];unfold Cel;rw [Gj (Ne.symm hj)];exact c
theorem Wr.ext {h0 h h1:Qa} {q:Nat} {a b:SV} (w:Wr h h1 q a b) (he:Ext h0 h) (hq:h0.length≤q):Ext h0 h1:=by
 rw [w.eq];exact he.set hq _
section
variable {FT:FuncId→Option AFun} {HK:FuncId→Option Xj} {E:Env} {h:Qa} {K:Env→Qa→Prop} {d:Option Nat} {r:List AOp} {x y:AO}
theorem Xb {a b:SV} (hw:∀ h1,Ext h h1→Cel h1 h.length a b→Ql FT HK r (Qr d (some (.sc (.ptr h.length 0))) E) h1 K) :
  Ql FT HK (⟨d,.new [a,b],none⟩::r) E h K :=
 Xe (v:=some (.sc (.ptr h.length 0))) (h':=h++[.cells [a,b] true 0]) rfl rfl rfl (hw _ ⟨_,rfl⟩ (by simp [Cel]))
theorem Qx {a b:SV} (hx:ev E x=some (.agg [a,b])) (hw:∀ h1,Ext h h1→Cel h1 h.length a b→Ql FT HK r (Qr d (some (.sc (.ptr h.length 0))) E) h1 K) :
  Ql FT HK (⟨d,.box x,none⟩::r) E h K :=
 Xe (v:=some (.sc (.ptr h.length 0))) (h':=h++[.cells [a,b] true 0]) rfl rfl (by simp only [Qm,hx,Gm,AV.cells,Gl]) (hw _ ⟨_,rfl⟩ (by simp [Cel]))
theorem Yd {t:Nat} {a b u v:SV} (hx:ev (Qr (some t) (some (.sc (.ptr h.length 0))) E) x=some (.agg [u,v])) (hw:∀ h1,Ext h h1→Cel h1 h.length u v→Ql FT HK r (Qr (some t) (some (.sc (.ptr h.length 0))) E) h1 K) :
  Ql FT HK (⟨some t,.new [a,b],none⟩::⟨none,.st 2 (.t t) x,none⟩::r) E h K:=by
 refine Xe (v:=some (.sc (.ptr h.length 0))) (h':=h++[.cells [a,b] true 0]) rfl rfl rfl ?_
 refine Xe (v:=none) (h':=h++[.cells [u,v] true 0]) rfl rfl ?_ (hw _ ⟨_,rfl⟩ (by simp [Cel]))
 have h1:evS (Qr (some t) (some (.sc (.ptr h.length 0))) E) (.t t)=some (.ptr h.length 0):=by simp [evS,ev,Qr,Env.get]
 simp [Qm,h1,hx,AV.cells,Xx,Xh]
theorem QI {q:Nat} {a b:SV} (hx:evS E x=some (.ptr q 0)) (hc:Cel h q a b) (hw:Ql FT HK r (Qr d (some (.agg [a,b])) E) h K):Ql FT HK (⟨d,.ld 2 true x,none⟩::r) E h K:=k_ldA hx hc.at rfl hw
theorem QQ {q:Nat} {a b:SV} (hx:evS E x=some (.ptr q (0+0))) (hc:Cel h q a b) (hw:Ql FT HK r (Qr d (some (.sc a)) E) h K):Ql FT HK (⟨d,.ld 1 false x,none⟩::r) E h K:=Xu hx hc.at rfl hw
theorem Qz {q:Nat} {a b:SV} (hx:evS E x=some (.ptr q (0+1))) (hc:Cel h q a b) (hw:Ql FT HK r (Qr d (some (.sc b)) E) h K):Ql FT HK (⟨d,.ld 1 false x,none⟩::r) E h K:=Xu hx hc.at rfl hw
theorem Xm {q:Nat} {a b u v:SV} {p:AO} (ha:evS E p=some (.ptr q 0)) (hx:ev E x=some (.agg [a,b])) (hc:Cel h q u v) (hw:∀ h1,Wr h h1 q a b→Ql FT HK r (Qr d none E) h1 K) :
  Ql FT HK (⟨d,.st 2 p x,none⟩::r) E h K :=
 Xe (v:=none) (h':=h.set q (.cells [a,b] true 0)) rfl rfl (by
  have hc':h[q]?=some (.cells [u,v] true 0):=hc
  simp [Qm,ha,hx,AV.cells,Xx,hc',Xh]) (hw _ ⟨rfl,_,_,hc⟩)
theorem Xq {f:FuncId} {caps:List (Nat × Nat)} {args:List AO} {vs:List AV} {R:AV→Qa→Prop} (hx:evS E x=some (.fn f caps)) (ha:evs E args=some vs) (hc:∃ v h',Cal FT HK f (vs++caps.map fun p=>AV.sc (.ptr p.1 p.2)) h v h'∧R v h')
  (hw:∀ v h',R v h'→Ql FT HK r (Qr d (some v) E) h' K):Ql FT HK (⟨d,.callv x args,none⟩::r) E h K:=by
 show wOp FT HK _ _ _ _
 unfold wOp
 refine ⟨fun _=>?_,fun hc=>absurd rfl hc⟩
 show wK FT HK E h (.callv x args) _
 simp only [wK,hx,ha]
 exact QaV hc hw
theorem Cel.read {q:Nat} {a b:SV} (c:Cel h q a b):QZ h q 0 2=some [a,b]:=c.at.read rfl
end
def Own2 (h0 h:Qa) (s:SV) (n:Nat) (cs:List SV):Prop :=
 (s=.nilS∧n=0∧cs=[])∨∃ id,s=.slc id 0 n none∧h0.length≤id∧h[id]?=some (.cells cs true 2)∧cs.length=n*2∧0 < n
theorem Own2.len {h0 h:Qa} {s:SV} {n:Nat} {cs:List SV} (ho:Own2 h0 h s n cs):Yi false s=some (n:Int):=by
 rcases ho with ⟨rfl,rfl,rfl⟩ | ⟨id,rfl,_⟩ <;> rfl
theorem ez2:(2:ESz).n=2:=rfl
section
variable {FT:FuncId→Option AFun} {HK:FuncId→Option Xj} {E:Env} {h h0:Qa} {K:Env→Qa→Prop} {d:Option Nat} {r:List AOp} {xo so:AO}
end
