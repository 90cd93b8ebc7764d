import Derived.Test.YtofknpknogfijaaGreatDoorAb2
/- When an annotated operation agrees with an operation of the program. -/
namespace Go.Ab
set_option linter.all false
def Qf7:SV->Value->Bool
 | .bool a,.bool b=>a==b
 | .int k n,.int j m=>decide (k=j)&&decide (n=m)
 | .str s,.string t=>decide (s=t)
 | .nilP,.pointer none=>true
 | .nilM,.map none=>true
 | .nilS,.slice none 0 0=>true
 | .nilF,.nilFunc=>true
 | .nilI,.nilIface=>true
 | _,_=>false
def ZE:List SV->List Value->Bool
 | [],[]=>true
 | x::xs,v::vs=>Qf7 x v&&ZE xs vs
 | _,_=>false
def okAV:AV->Value->Bool
 | .agg xs,.agg vs=>ZE xs vs.toList
 | .sc x,v=>Qf7 x v
 | _,_=>false
def okO:AO->Operand->Bool
 | .t n,.tmp m=>decide (n=m)
 | .k v,.const c=>okAV v c
 | .k (.sc (.fn f [])),.func g=>decide (f=g)
 | _,_=>false
def yq:List AO->List Operand->Bool
 | [],[]=>true
 | x::xs,v::vs=>okO x v&&yq xs vs
 | _,_=>false
theorem US{β:Bt}{x:SV}{v:Value}(h:Qf7 x v=true):SRel β x v:=by
 unfold Qf7 at h
 split at h <;> simp at h
 ·subst h;exact .bool _
 ·obtain⟨rfl,rfl⟩:=h;exact .int _ _
 ·subst h;exact .str _
 ·exact .nilP
 ·exact .nilM
 ·exact .nilS
 ·exact .nilF
 ·exact .nilI
theorem Yb{β:Bt}:∀ {xs:List SV} {vs:List Value},ZE xs vs=true->F2 (SRel β) xs vs
 | [],[],_ => .nil
 | x::xs,v::vs,h=>by
  simp[ZE]at h
  exact .cons (US h.1) (Yb h.2)
 | [],_::_,h=>by simp[ZE]at h
 | _::_,[],h=>by simp[ZE]at h
theorem Qf9{β:Bt}{x:AV}{v:Value}(h:okAV x v=true):ARel β x v:=by
 unfold okAV at h
 split at h
 ·rename_i xs vs
  have:=Yb (β:=β) h
  exact .agg (vs:=vs.toList) this
 ·exact .sc (US h)
 ·simp at h
theorem Yq{β:Bt}{E:Env}{a:Act}{x:AO}{o:Operand}{v:AV}(h:okO x o=true)(hE:ERel β E a.tmps)(hv:ev E x=some v):ARel β v (a.eval o):=by
 unfold okO at h
 split at h
 ·simp at h;subst h
  obtain⟨c,h1,h2⟩:=hE _ _ hv
  simp[Act.eval,Array.getD_eq_getD_getElem?,h1]
  exact h2
 ·simp[ev]at hv;subst hv;exact Qf9 h
 ·simp at h;subst h
  simp[ev]at hv;subst hv
  exact .sc (.fn (vs:=[]) .nil)
 ·simp at h
theorem QN{β:Bt}{E:Env}{a:Act}{x:AO}{o:Operand}{v:SV}(h:okO x o=true)(hE:ERel β E a.tmps)(hv:evS E x=some v):SRel β v (a.eval o):=by
 unfold evS at hv
 split at hv
 ·rename_i u hu
  simp at hv;subst hv
  have:=Yq h hE hu
  cases this with|sc h=>exact h
 ·simp at hv
theorem QaM{β:Bt}{E:Env}{a:Act}(hE:ERel β E a.tmps):∀ {xs:List AO} {os:List Operand} {vs:List AV},yq xs os=true->evs E xs=some vs->F2 (ARel β) vs (os.map a.eval)
 | [],[],vs,_,hv=>by simp[evs]at hv;subst hv;exact .nil
 | x::xs,o::os,vs,h,hv=>by
  simp[yq]at h
  simp only[evs,Gd,Ga]at hv
  obtain⟨v,h1,r,h2,rfl⟩:=hv
  exact .cons (Yq h.1 hE h1) (QaM hE h.2 h2)
 | [],_::_,_,h,_=>by simp[yq]at h
 | _::_,[],_,h,_=>by simp[yq]at h
theorem U4{β:Bt}{E:Env}{a:Act}(hE:ERel β E a.tmps):∀ {xs:List AO} {os:List Operand} {vs:List SV},yq xs os=true->Vr E xs=some vs->F2 (SRel β) vs (os.map a.eval)
 | [],[],vs,_,hv=>by simp[Vr]at hv;subst hv;exact .nil
 | x::xs,o::os,vs,h,hv=>by
  simp[yq]at h
  simp only[Vr,Gd,Ga]at hv
  obtain⟨v,h1,r,h2,rfl⟩:=hv
  exact .cons (QN h.1 hE h1) (U4 hE h.2 h2)
 | [],_::_,_,h,_=>by simp[yq]at h
 | _::_,[],_,h,_=>by simp[yq]at h
section types
variable (P:Program)
def Y8(t:TypeId)(n:Nat):Bool:=match P.info? t with
 | some i=>decide (i.size=n)
 | none=>false
def Qjd(t:TypeId)(n:Nat):Bool:=match P.info? t with
 | some i=>decide (i.bytes=n)
 | none=>false
def JT(t:TypeId)(cs:List SV):Bool:=match P.info? t with
 | some i => match i.zero with
   | some z=>ZE cs z.cells.toList
   | none=>false
 | none=>false
def Zd(t:TypeId)(agg:Bool):Bool:=match P.underlying t with
 | some (.struct _)=>agg
 | some (.array _ _)=>agg
 | some _=>!agg
 | none=>false
def Ue(t:TypeId)(f:TypeId->Bool):Bool:=match P.underlying t with
 | some (.slice e)=>f e
 | _=>false
def Qhv(t:TypeId)(n:Nat)(f:TypeId->Bool):Bool:=match P.underlying t with
 | some (.array m e)=>decide (n=m)&&f e
 | _=>false
def vsIs(t:TypeId):Bool:=!P.stoodInHeld t&&match P.underlying t with
 | some (.struct fs) => match fs.toList with
   | [f0,f1]=>decide (f0.name ≠ "_")&&decide (f1.name ≠ "_")&&decide (f0.offset=0)&&decide (f1.offset=1)&&(match P.underlying f0.type with|some (.int _)=>true|_=>false)&&(match P.underlying f1.type with|some .bool=>true|_=>false)
   | _=>false
 | _=>false
def ssIs(t:TypeId):Bool:=!P.stoodInHeld t&&match P.underlying t with
 | some (.struct fs) => match fs.toList with
   | [f0,f1]=>decide (f0.name ≠ "_")&&decide (f1.name ≠ "_")&&decide (f0.offset=0)&&decide (f1.offset=1)&&(match P.underlying f0.type with|some (.int _)=>true|_=>false)&&(match P.underlying f1.type with|some (.int _)=>true|_=>false)
   | _=>false
 | _=>false
def QgO(g:FuncId)(nm:String):Bool:=match P.funcs[g]? with
 | some fn=>fn.body.isNone&&fn.name==nm&&(Extern.findNext fn).isNone
 | none=>false
def Uz(t:TypeId):Bool:=match P.underlying t with
 | some .string=>true
 | _=>false
def QhO(t:TypeId):Bool:=match P.underlying t with
 | some (.int .u8)=>true
 | _=>false
def Qhg(t:TypeId):Bool:=match P.underlying t with
 | some .bool=>true
 | _=>false
def QbM(t:TypeId):Bool:=match P.underlying t with
 | some (.int _)=>true
 | _=>false
def QiR(t:TypeId)(kd:Nat):Bool:=match P.underlying t with
 | some (.pointer _)=>decide (kd=0)
 | some (.slice _)=>decide (kd=1)
 | some (.func _ _ _)=>decide (kd=2)
 | some (.interface _)=>decide (kd=3)
 | _=>false
def cvIs(s d:TypeId)(k:IntKind):Bool:=(P.underlying s).isSome&&match P.underlying d with
 | some (.int j)=>decide (k=j)
 | _=>false
def QiW(t:TypeId)(f:Nat)(g:Field->Bool):Bool:=match P.underlying t with
 | some (.struct fs) => match fs[f]? with
   | some fd=>g fd
   | none=>false
 | _=>false
def nilK(kd:Nat):Operand->Bool
 | .const (.pointer none)=>decide (kd=0)
 | .const (.slice none 0 0)=>decide (kd=1)
 | .const .nilFunc=>decide (kd=2)
 | .const .nilIface=>decide (kd=3)
 | _=>false
def U1(f:FuncId):Bool:=match P.funcs[f]? with
 | some fn=>fn.body.isSome&&!(fn.name == "runtime.NumGoroutine")
 | none=>false
def qG:Option AO->Option Operand->Bool
 | none,none=>true
 | some x,some o=>okO x o
 | _,_=>false
def VE(fs:Array Field):List (Nat×Nat×AO)->List (Nat×Operand)->Bool
 | [],[]=>true
 | (o,s,x)::r,(i,y)::q=>(match fs[i]? with|some fd=>decide (fd.offset=o)&&Y8 P fd.type s|none=>false)&&okO x y&&VE fs r q
 | _,_=>false
def Qbs(fs:Array Field):Bool:=fs.toList.all fun fd=>(P.info? fd.type).isSome
def VG(s:Nat):List (Nat×Nat×AO)->List (Nat×Operand)->Bool
 | [],[]=>true
 | (o,s',x)::r,(i,y)::q=>decide (o=i*s)&&decide (s'=s)&&okO x y&&VG s r q
 | _,_=>false
def Qfo(ty:Option Nat)(e:TypeId):Bool:=match ty with
 | none=>true
 | some t=>decide (e=t)
def z7(z:ESz):Bool:=!decide (z.n=0)&&decide (z.n<1000000)
def QeO:List (Nat×AO)->List (Nat×Operand)->Bool
 | [],[]=>true
 | (o,x)::r,(i,y)::q=>decide (o=i)&&okO x y&&QeO r q
 | _,_=>false
def Qjq(u t:TypeId):Bool:=match P.underlying u with
 | some (.pointer e)=>decide (e=t)
 | _=>false
def Qjr(t:TypeId):Bool:=match P.underlying t with
 | some (.pointer e)=>(P.info? e).isSome
 | _=>false
def QdQ(t:TypeId):Bool:=match P.underlying t with
 | some (.map _ _)=>true
 | _=>false
def Qgh(t:TypeId)(z:ESz):Bool:=match P.underlying t with
 | some (.map kt _) => decide (1000000 ≤ z.n) && decide (z.n < 2000000) && match P.underlying kt with
   | some (.int .i64)=>decide (z.kw=1)
   | _=>false
 | _=>false
def QcB(t:TypeId)(zero:List SV):Bool:=match P.underlying t with
 | some (.map _ et) => match P.info? et with
   | some i => match i.zero with
     | some (.agg vs)=>decide (zero.length≠1)&&ZE zero vs.toList
     | some v => match zero with
       | [x]=>Qf7 x v
       | _=>false
     | none=>false
   | none=>false
 | _=>false
def Xe:AK->Op->Bool
 | .mv x,.move y=>okO x y
 | .mv x,.assign y=>okO x y
 | .pick c a b,.pick c' a' b'=>okO c c'&&okO a a'&&okO b b'
 | .bin op x y,.binOp op' _ x' y' _=>decide (op=op')&&okO x x'&&okO y y'
 | .beq neg x y,.binOp op' t x' y' _=>decide (op'=if neg then .neq else .eql)&&okO x x'&&okO y y'&&Qhg P t
 | .isnil kd neg x,.binOp op' t x' y' _=>decide (op'=if neg then .neq else .eql)&&okO x x'&&nilK kd y'&&QiR P t kd
 | .un op x,.unOp op' _ x'=>decide (op=op')&&okO x x'
 | .conv k x,.convert s d x'=>okO x x'&&cvIs P s d k
 | .len str x, .call c => match c.callee, c.args.toList, c.argTypes.toList with
   | .builtin .len,[x'],[t]=>okO x x'&&(if str then Uz P t else Ue P t fun _=>true)
   | _,_,_=>false
 | .mm mx x ys, .call c => match c.callee, c.args.toList with
   | .builtin .max,x'::ys'=>mx&&okO x x'&&yq ys ys'
   | .builtin .min,x'::ys'=>!mx&&okO x x'&&yq ys ys'
   | _,_=>false
 | .idxA esz x i,.indexAddr t x' i'=>okO x x'&&okO i i'&&Ue P t fun e=>Y8 P e esz
 | .idxP n esz x i,.indexAddr t x' i'=>okO x x'&&okO i i'&&Qhv P t n fun e=>Y8 P e esz
 | .idxS x i,.index t x' i'=>okO x x'&&okO i i'&&Uz P t
 | .idxG n esz agg x i,.index t x' i'=>okO x x'&&okO i i'&&Qhv P t n fun e=>Y8 P e esz&&Zd P e agg
 | .fldA off x,.fieldAddr t x' f=>okO x x'&&QiW P t f fun fd=>decide (fd.offset=off)&&(match P.info? fd.type with|some i=>!decide (i.size=0)|none=>false)
 | .fld off size agg x,.field t x' f=>okO x x'&&QiW P t f fun fd=>decide (fd.offset=off)&&Y8 P fd.type size&&Zd P fd.type agg
 | .ld n agg x,.load t x'=>okO x x'&&Y8 P t n&&Zd P t agg
 | .st n a x,.store t a' x'=>okO a a'&&okO x x'&&Y8 P t n
 | .new zero,.alloc t=>JT P t zero
 | .box x,.box _ x'=>okO x x'
 | .bld zero parts, .build t parts' => JT P t zero && match P.underlying t with
   | some (.struct fs)=>Qbs P fs&&VE P fs parts parts'.toList
   | some (.array _ e) => match P.info? e with
     | some i=>VG i.size parts parts'.toList
     | none=>false
   | _=>false
 | .bsl esz zero len parts,.buildSlice t len' parts'=>decide (len=len')&&QeO parts parts'.toList&&z7 esz&&Ue P t fun e=>Y8 P e esz.n&&JT P e zero&&decide (zero.length=esz.n)&&Qfo esz.ty e
 | .mk esz bytes zero l c,.makeSlice t l' c'=>okO l l'&&okO c c'&&z7 esz&&Ue P t fun e=>Y8 P e esz.n&&Qjd P e bytes&&JT P e zero&&decide (zero.length=esz.n)&&Qfo esz.ty e
 | .sl esz x lo hi,.slice t x' lo' hi' mx=>okO x x'&&qG lo lo'&&qG hi hi'&&mx.isNone&&Ue P t fun e=>Y8 P e esz.n
 | .slS x lo hi,.slice t x' lo' hi' mx=>okO x x'&&qG lo lo'&&qG hi hi'&&mx.isNone&&Uz P t
 | .app esz bytes zero x y, .call c => match c.callee, c.args.toList, c.argTypes.toList with
   | .builtin .append,[x',y'],[t,u]=>okO x x'&&okO y y'&&(P.underlying u).isSome&&!QbM P u&&z7 esz&&Ue P t fun e=>Y8 P e esz.n&&Qjd P e bytes&&JT P e zero&&decide (zero.length=esz.n)&&Qfo esz.ty e
   | _,_,_=>false
 | .call f args, .call c => match c.callee with
   | .value (.func g)=>decide (f=g)&&yq args c.args.toList&&U1 P f
   | _=>false
 | .callv x args, .call c => match c.callee with
   | .value x'=>okO x x'&&yq args c.args.toList
   | _=>false
 | .ext x i,.extract x' i'=>okO x x'&&decide (i=i')
 | .mkf f caps,.makeFunc (.func g) first captured=>decide (f=g)&&first.isEmpty&&yq caps captured.toList
 | .nilc x,.nilCheck x'=>okO x x'
 | .newT t zero,.alloc t'=>decide (t=t')&&JT P t zero
 | .aeq neg n x y,.binOp op' t x' y' _=>decide (op'=if neg then .neq else .eql)&&okO x x'&&okO y y'&&!P.eqGuardType P.depth t&&Qhv P t n fun e=>QbM P e&&Y8 P e 1
 | .peq neg x y,.binOp op' t x' y' _=>decide (op'=if neg then .neq else .eql)&&okO x x'&&okO y y'&&QiR P t 0&&Qjr P t
 | .sl1 x lo hi,.slice t x' lo' hi' mx=>okO x x'&&qG lo lo'&&qG hi hi'&&mx.isNone&&Ue P t fun e=>Y8 P e 1
 | .usd x, .call c => match c.callee, c.args.toList with
   | .builtin .unsafeSliceData,[x']=>okO x x'
   | _,_=>false
 | .ustr t x n, .call c => match c.callee, c.args.toList, c.argTypes.toList with
   | .builtin .unsafeString,[x',n'],[u,_]=>okO x x'&&okO n n'&&Qjq P u t&&Y8 P t 1
   | _,_,_=>false
 | .cvb x,.convert s t x'=>okO x x'&&Uz P s&&Ue P t (QhO P)
 | .veq neg x y,.binOp op' t x' y' _=>decide (op'=if neg then .neq else .eql)&&okO x x'&&okO y y'&&!P.eqGuardType P.depth t&&vsIs P t
 | .seq2 neg x y,.binOp op' t x' y' _=>decide (op'=if neg then .neq else .eql)&&okO x x'&&okO y y'&&!P.eqGuardType P.depth t&&ssIs P t
 | .car sb x y z, .call c => match c.callee, c.args.toList with
   | .value (.func g),[x',y',z']=>okO x x'&&okO y y'&&okO z z'&&QgO P g (if sb then "math/bits.Sub64" else "math/bits.Add64")
   | _,_=>false
 | .cbs x,.convert s t x'=>okO x x'&&Uz P t&&Ue P s (QhO P)
 | .mpM z,.makeMap t r=>r.isNone&&Qgh P t z
 | .mpL z zero ok x k,.lookup t x' k' ok'=>decide (ok=ok')&&okO x x'&&okO k k'&&Qgh P t z&&QcB P t zero
 | .mpU z x k v,.mapUpdate t x' k' v'=>okO x x'&&okO k k'&&okO v v'&&Qgh P t z
 | .mpR x,.range t x'=>okO x x'&&QdQ P t
 | .mpT x,.entry x'=>okO x x'
 | .mpN x, .call c => match c.callee, c.args.toList, c.argTypes.toList with
   | .builtin .len,[x'],[t]=>okO x x'&&QdQ P t
   | _,_,_=>false
 | .mpX x,.next x' s=>okO x x'&&!s
 | .cpy esz x y, .call c => match c.callee, c.args.toList, c.argTypes.toList with
   | .builtin .copy,[x',y'],[t,_]=>okO x x'&&okO y y'&&Ue P t fun e=>Y8 P e esz
   | _,_,_=>false
 | .bad,_=>true
 | _,_=>false
end types
variable [Base]
def upd(β:Bt)(id:Nat)(L:Loc):Bt:=fun i=>if i=id then some L else β i
theorem Q3(β:Bt)(id:Nat)(L:Loc):upd β id L id=some L:=by simp[upd]
theorem XT(β:Bt){id i:Nat}(L:Loc)(h:i≠id):upd β id L i=β i:=by simp[upd,h]
theorem V3{β:Bt}{id:Nat}(L:Loc)(h:β id=none):β.le (upd β id L):=fun i M hi=>by
 by_cases e:i=id
 ·subst e;rw[h]at hi;simp at hi
 ·rw[XT _ _ e];exact hi
theorem YP(h:Qa)(b:Blk)(i:Nat):(h++[b])[i]?=if i=h.length then some b else h[i]?:=by
 by_cases hi:i<h.length
 ·rw[Gq hi,if_neg (by omega)]
 ·rw[Gk (by omega)]
  by_cases e:i=h.length
  ·subst e;simp
  ·rw[if_neg e,Gg (l:=h) (by omega)]
   rw[Gg];simp;omega
theorem BRel.mono{β β':Bt}{w w':World}{L cs rw esz}(hb:β.le β')(hw:w'.heap[L.b]?=w.heap[L.b]?)(h:BRel β w L cs rw esz):BRel β' w' L cs rw esz:=by
 rcases h with ⟨hn,h1,ccs,e,fz,h2,h3,h4,h5,h6,h7⟩|⟨hn,h1,h2,h3⟩
 ·refine .inl ⟨hn,h1,ccs,e,fz,hw.trans h2,h3,h4,fun i v hi=>?_,h6,h7⟩
  obtain⟨c,hc,hr⟩:=h5 i v hi
  exact⟨c,hc,hr.mono hb⟩
 ·refine .inr ⟨hn,h1,?_,h3⟩
  rcases h2 with ⟨hz,k⟩|⟨hz,m,M,n,last,seen,k1,k2,k3,k4,k5⟩
  ·exact .inl ⟨hz,k.mono hb hw⟩
  ·exact .inr ⟨hz,m,M,n,last,seen,k1,k2,hb _ _ k3,hw.trans k4,k5⟩
theorem JM{β:Bt}{h:Qa}{w:World}(R:Rep β h w)(hf:β h.length=none)(ccs:Array Value)(e:TypeId)(cs:List SV)(esz:ESz)
  (ht1:QhB esz e) (hp:esz.n<1000000) (ht2:esz.n=0->cs.length=ccs.size) (hlen:cs.length<=ccs.size) (hrel:∀(i:Nat) (v:SV),cs[i]?=some v->∃ c,ccs[i]?=some c/\SRel β v c) :
  Stp β h w (upd β h.length ⟨w.heap.size,0,ccs.size,esz⟩) (h++[.cells cs true esz]) (w.alloc (.cells ccs e)) ∧
  Rep (upd β h.length ⟨w.heap.size,0,ccs.size,esz⟩) (h++[.cells cs true esz]) (w.alloc (.cells ccs e)):=by
 have hle:=V3 (β:=β) (⟨w.heap.size,0,ccs.size,esz⟩:Loc) hf
 have hold:∀ i,i<h.length->upd β h.length ⟨w.heap.size,0,ccs.size,esz⟩ i=β i:=fun i hi=>XT _ _ (by omega)
 have hsz:∀ b,b<w.heap.size->(w.alloc (.cells ccs e)).heap[b]?=w.heap[b]?:=fun b hb=>Go.RowKit.Below.heap_alloc w _ b hb
 have lt:∀(i:Nat) (x:Blk),h[i]?=some x->i<h.length:=fun i x hx=>(Gb.1 hx).1
 refine⟨⟨hle,?_,?_,by simp,?_,?_,fun b hb _=>hsz b hb,by simp,rfl,rfl,rfl⟩,⟨fun id b L hg hL=>?_,?_,?_,⟨Gh R.keep.1 (by simp),fun b hb=>(hsz b (GJ hb R.keep.1)).trans (R.keep.2 b hb)⟩⟩⟩
 ·intro id L hl
  by_cases hi:id=h.length
  ·exact .inr (by simp;omega)
  ·exact .inl (by rwa [XT _ _ hi]at hl)
 ·intro id h1 h2
  have:id=h.length:=by simp at h2;omega
  subst this
  exact⟨_,Q3 _ _ _⟩
 ·rintro b ⟨id,L,cs',esz',hg,hL,rfl⟩
  rw[YP]at hg
  split at hg
  ·rename_i hi;subst hi;rw[Q3]at hL;simp at hL;subst hL;exact .inl (Ge _)
  ·rw[hold id (lt _ _ hg)]at hL
   exact .inr ⟨id,L,cs',esz',hg,hL,rfl⟩
 ·intro id L h1 h2
  by_cases hi:id=h.length
  ·subst hi;rw[Q3]at h1;simp at h1;subst h1;exact .inl (Ge _)
  ·rw[XT _ _ hi,h2]at h1;simp at h1
 ·rw[YP]at hg
  split at hg
  ·rename_i hi;subst hi;rw[Q3]at hL;simp at hL hg;subst hL hg;rfl
  ·rw[hold id (lt _ _ hg)]at hL
   exact R.sz id b L hg hL
 ·intro id L cs' rw' esz' hg hL
  rw[YP]at hg
  split at hg
  ·rename_i hi;subst hi;rw[Q3]at hL;simp at hL hg
   obtain⟨rfl,rfl,rfl⟩:=hg
   subst hL
   refine .inl ⟨hp,rfl,ccs,e,(0,0),Go.heap_alloc_new w _,rfl,by simpa using hlen,fun i v hi=>?_,fun _=>rfl,ht1,fun t ht=>⟨rfl,ht2⟩,fun _=>R.keep.1⟩
   obtain⟨c,h1,h2⟩:=hrel i v hi
   exact⟨c,by simpa using h1,h2.mono hle⟩
  ·rw[hold id (lt _ _ hg)]at hL
   have hb:=R.blk id L cs' rw' esz' hg hL
   exact hb.mono hle (hsz _ hb.lt)
 ·intro i j L M cs1 e1 cs2 rw2 e2 hi hj hne hL hM
  rw[YP]at hi hj
  split at hi
  ·rename_i hii;subst hii
   rw[Q3]at hL;simp at hL;subst hL
   rw[if_neg (Ne.symm hne)]at hj
   rw[hold j (lt _ _ hj)]at hM
   have:=(R.blk j M cs2 rw2 e2 hj hM).lt
   show w.heap.size≠M.b
   omega
  ·rw[hold i (lt _ _ hi)]at hL
   split at hj
   ·rename_i hjj;subst hjj
    rw[Q3]at hM;simp at hM;subst hM
    have:=(R.blk i L cs1 _ e1 hi hL).lt
    show L.b≠w.heap.size
    omega
   ·rw[hold j (lt _ _ hj)]at hM
    exact R.exc i j L M cs1 e1 cs2 rw2 e2 hi hj hne hL hM
theorem Yj(h:Qa)(id:Nat)(b:Blk)(i:Nat)(hid:id<h.length):(h.set id b)[i]?=if i=id then some b else h[i]?:=by
 rw[G7]
 by_cases e:id=i
 ·subst e;simp[hid]
 ·simp[e,Ne.symm e]
theorem YR(w:World)(g:Nat)(cs:Array Value)(k:Nat)(h:k≠g):(w.setRow g cs).heap[k]?=w.heap[k]?:=by
 simp only[World.setRow,Array.getElem?_modify]
 rw[if_neg (by omega)]
theorem Qcl{β:Bt}{h:Qa}{w:World}(R:Rep β h w){id:Nat}{L:Loc}{cs:List SV}{esz:ESz}(hg:h[id]?=some (.cells cs true esz))(hL:β id=some L)(hn:L.esz.n<1000000)
  (ccs':Array Value) (cs':List SV) (hsl:cs'.length=cs.length) (hsz:ccs'.size=L.sz) (hlen:L.base+cs'.length<=L.sz)
  (hrel:∀(i:Nat) (v:SV),cs'[i]?=some v->∃ c,ccs'[L.base+i]?=some c/\SRel β v c) :
  Stp β h w β (h.set id (.cells cs' true esz)) (w.setRow L.b ccs')/\Rep β (h.set id (.cells cs' true esz)) (w.setRow L.b ccs'):=by
 have hid:id<h.length:=(Gb.1 hg).1
 have hB:=R.blk id L cs true esz hg hL
 refine⟨⟨fun _ _ h=>h,fun _ _ h => .inl h,fun i h1 h2=>by simp at h2;omega,by simp,?_,fun id L h1 h2=>by rw[h1]at h2;simp at h2,?_,by simp[World.setRow],rfl,rfl,rfl⟩,⟨fun i b M hi hM=>?_,?_,?_,⟨Gh R.keep.1 (by simp[World.setRow]),fun b hb=>(YR _ _ _ _ (Nat.ne_of_lt (GJ hb (hB.low rfl)))).trans (R.keep.2 b hb)⟩⟩⟩
 ·rintro b ⟨i,M,cs1,e1,hi,hM,rfl⟩
  rw[Yj _ _ _ _ hid]at hi
  split at hi
  ·rename_i e;subst e;simp at hi;obtain⟨rfl,rfl⟩:=hi
   exact .inr ⟨i,M,cs,esz,hg,hM,rfl⟩
  ·exact .inr ⟨i,M,cs1,e1,hi,hM,rfl⟩
 ·intro b hb hn
  exact YR _ _ _ _ fun e=>hn ⟨id,L,cs,esz,hg,hL,e.symm⟩
 ·rw[Yj _ _ _ _ hid]at hi
  split at hi
  ·rename_i e;subst e;simp at hi;subst hi
   exact(R.sz i _ M hg hM:M.esz=esz)
  ·exact R.sz i b M hi hM
 ·intro i M cs1 rw1 e1 hi hM
  rw[Yj _ _ _ _ hid]at hi
  split at hi
  ·rename_i e;subst e;simp at hi;obtain⟨rfl,rfl,rfl⟩:=hi
   rw[hL]at hM;simp at hM;subst hM
   obtain⟨h1,ccs,e,fz,h2,h3,h4,h5,h6,h7,h8⟩:=hB.cell hn
   have:=h6 rfl
   subst this
   exact .inl ⟨by rw[← h1];exact hn,h1,ccs',e,(0,0),setRow_heap w _ _ _ _ _ h2,hsz,hlen,hrel,fun _=>rfl,h7,fun t ht=>⟨(h8.1 t ht).1,fun h0=>hsl.trans ((h8.1 t ht).2 h0)⟩,h8.2⟩
  ·rename_i e
   have hB':=R.blk i M cs1 rw1 e1 hi hM
   have hne:L.b≠M.b:=R.exc id i L M cs esz cs1 rw1 e1 hg hi (Ne.symm e) hL hM
   exact hB'.mono (fun _ _ h=>h) (YR _ _ _ _ (Ne.symm hne))
 ·intro i j M N cs1 e1 cs2 rw2 e2 hi hj hne hM hN
  rw[Yj _ _ _ _ hid]at hi hj
  split at hi
  ·rename_i e;subst e
   rw[if_neg (Ne.symm hne)]at hj
   exact R.exc i j M N cs esz cs2 rw2 e2 hg hj hne hM hN
  ·split at hj
   ·rename_i e;subst e
    exact R.exc i j M N cs1 e1 cs true esz hi hg hne hM hN
   ·exact R.exc i j M N cs1 e1 cs2 rw2 e2 hi hj hne hM hN
theorem Qe0{β:Bt}{h:Qa}{w:World}(R:Rep β h w){id:Nat}{cs0:List SV}{rw0:Bool}{esz:ESz}(hg0:h[id]?=some (.cells cs0 rw0 esz)):Stp β h w β (h.set id (.dead esz)) w/\Rep β (h.set id (.dead esz)) w:=by
 have hid:id<h.length:=(Gb.1 hg0).1
 have key:∀(i:Nat) (cs:List SV) (rw:Bool) (e1:ESz),(h.set id (Blk.dead esz))[i]?=some (.cells cs rw e1)->h[i]?=some (.cells cs rw e1):=by
  intro i cs rw e1 hi
  rw[Yj _ _ _ _ hid]at hi
  split at hi
  ·simp at hi
  ·exact hi
 refine⟨⟨fun _ _ h=>h,fun _ _ h => .inl h,fun i h1 h2=>by simp at h2;omega,by simp,?_,fun id L h1 h2=>by rw[h1]at h2;simp at h2,fun _ _ _=>rfl,Ge _,rfl,rfl,rfl⟩,⟨fun i b M hi hM=>?_,?_,?_,R.keep⟩⟩
 ·rintro b ⟨i,M,cs1,e1,hi,hM,rfl⟩
  exact .inr ⟨i,M,cs1,e1,key _ _ _ _ hi,hM,rfl⟩
 ·rw[Yj _ _ _ _ hid]at hi
  split at hi
  ·rename_i e;subst e;simp at hi;subst hi
   exact(R.sz i _ M hg0 hM:M.esz=esz)
  ·exact R.sz i b M hi hM
 ·intro i M cs1 rw1 e1 hi hM
  exact R.blk i M cs1 rw1 e1 (key _ _ _ _ hi) hM
 ·intro i j M N cs1 e1 cs2 rw2 e2 hi hj hne hM hN
  exact R.exc i j M N cs1 e1 cs2 rw2 e2 (key _ _ _ _ hi) (key _ _ _ _ hj) hne hM hN
theorem Qde{β:Bt}{h:Qa}{w:World}(R:Rep β h w)(hf:β h.length=none){id:Nat}{L:Loc}{cs:List SV}{esz:ESz}(hg:h[id]?=some (.cells cs true esz))(hL:β id=some L)
  (ccs':Array Value) (base':Nat) (hp:esz.n<1000000) (hnt:esz.n≠0) (hnb:esz.ty=none∨base'=0) (cs':List SV) (hsz:ccs'.size=L.sz) (hlen:base'+cs'.length<=L.sz)
  (hrel:∀(i:Nat) (v:SV),cs'[i]?=some v->∃ c,ccs'[base'+i]?=some c/\SRel β v c) :
  Stp β h w (upd β h.length ⟨L.b,base',L.sz,esz⟩) (h.set id (.dead esz)++[.cells cs' true esz]) (w.setRow L.b ccs') ∧
  Rep (upd β h.length ⟨L.b,base',L.sz,esz⟩) (h.set id (.dead esz)++[.cells cs' true esz]) (w.setRow L.b ccs'):=by
 have hid:id<h.length:=(Gb.1 hg).1
 have hB:=R.blk id L cs true esz hg hL
 have hle:=V3 (β:=β) (⟨L.b,base',L.sz,esz⟩:Loc) hf
 have hold:∀ i,i<h.length->upd β h.length ⟨L.b,base',L.sz,esz⟩ i=β i:=fun i hi=>XT _ _ (by omega)
 have lt:∀(i:Nat) (x:Blk),h[i]?=some x->i<h.length:=fun i x hx=>(Gb.1 hx).1
 have key:∀(i:Nat) (cs1:List SV) (rw1:Bool) (e1:ESz),(h.set id (Blk.dead esz)++[Blk.cells cs' true esz])[i]?=some (.cells cs1 rw1 e1) ->
   (i=h.length/\cs1=cs'/\rw1=true/\e1=esz)∨(i≠id/\i≠h.length/\h[i]?=some (.cells cs1 rw1 e1)):=by
  intro i cs1 rw1 e1 hi
  rw[YP]at hi
  simp only[Hb]at hi
  split at hi
  ·simp at hi;obtain⟨rfl,rfl,rfl⟩:=hi
   exact .inl ⟨by assumption,rfl,rfl,rfl⟩
  ·rw[Yj _ _ _ _ hid]at hi
   split at hi
   ·simp at hi
   ·exact .inr ⟨by assumption,by assumption,hi⟩
 refine⟨⟨hle,?_,?_,by simp,?_,?_,?_,by simp[World.setRow],rfl,rfl,rfl⟩,⟨fun i b M hi hM=>?_,?_,?_,⟨Gh R.keep.1 (by simp[World.setRow]),fun b hb=>(YR _ _ _ _ (Nat.ne_of_lt (GJ hb (hB.low rfl)))).trans (R.keep.2 b hb)⟩⟩⟩
 ·intro i M hM
  by_cases hi:i=h.length
  ·exact .inr (by simp;omega)
  ·exact .inl (by rwa [XT _ _ hi]at hM)
 ·intro i h1 h2
  have:i=h.length:=by simp at h2;omega
  subst this
  exact⟨_,Q3 _ _ _⟩
 ·rintro b ⟨i,M,cs1,e1,hi,hM,rfl⟩
  rcases key _ _ _ _ hi with ⟨rfl,-,-,-⟩|⟨h1,h2,h3⟩
  ·rw[Q3]at hM;simp at hM;subst hM
   exact .inr ⟨id,L,cs,esz,hg,hL,rfl⟩
  ·rw[hold i (lt _ _ h3)]at hM
   exact .inr ⟨i,M,cs1,e1,h3,hM,rfl⟩
 ·intro i M h1 h2
  by_cases hi:i=h.length
  ·subst hi;rw[Q3]at h1;simp at h1;subst h1;exact .inr ⟨id,L,cs,esz,hg,hL,rfl⟩
  ·rw[XT _ _ hi,h2]at h1;simp at h1
 ·intro b hb hn
  exact YR _ _ _ _ fun e=>hn ⟨id,L,cs,esz,hg,hL,e.symm⟩
 ·rw[YP]at hi
  simp only[Hb]at hi
  split at hi
  ·rename_i e;subst e
   rw[Q3]at hM;simp at hM hi;subst hM hi;rfl
  ·rename_i e
   rw[XT _ _ e]at hM
   rw[Yj _ _ _ _ hid]at hi
   split at hi
   ·rename_i e;subst e;simp at hi;subst hi
    exact(R.sz i _ M hg hM:M.esz=esz)
   ·exact R.sz i b M hi hM
 ·intro i M cs1 rw1 e1 hi hM
  rcases key _ _ _ _ hi with ⟨rfl,rfl,rfl,rfl⟩|⟨h1,h2,h3⟩
  ·rw[Q3]at hM;simp at hM;subst hM
   have hlow:=hB.low rfl
   obtain⟨-,ccs,e,fz,h2,h3,h4,h5,h6,h7,-⟩:=hB.cell (by rw[show L.esz=e1 from R.sz id _ L hg hL];exact hp)
   have:=h6 rfl
   subst this
   refine .inl ⟨hp,rfl,ccs',e,(0,0),setRow_heap w _ _ _ _ _ h2,hsz,hlen,fun i v hi=>?_,fun _=>rfl,h7,fun t ht=>⟨hnb.resolve_left (fun e=>by rw[e]at ht;cases ht),fun h0=>absurd h0 hnt⟩,fun _=>hlow⟩
   obtain⟨c,q1,q2⟩:=hrel i v hi
   exact⟨c,q1,q2.mono hle⟩
  ·rw[hold i (lt _ _ h3)]at hM
   have hB':=R.blk i M cs1 rw1 e1 h3 hM
   have hne:L.b≠M.b:=R.exc id i L M cs esz cs1 rw1 e1 hg h3 (Ne.symm h1) hL hM
   exact hB'.mono hle (YR _ _ _ _ (Ne.symm hne))
 ·intro i j M N cs1 e1 cs2 rw2 e2 hi hj hne hM hN
  rcases key _ _ _ _ hi with ⟨rfl,-,-,-⟩|⟨h1,h2,h3⟩
  ·rcases key _ _ _ _ hj with ⟨rfl,-,-,-⟩|⟨k1,k2,k3⟩
   ·exact absurd rfl hne
   ·rw[Q3]at hM;simp at hM;subst hM
    rw[hold j (lt _ _ k3)]at hN
    exact R.exc id j L N cs esz cs2 rw2 e2 hg k3 (Ne.symm k1) hL hN
  ·rw[hold i (lt _ _ h3)]at hM
   rcases key _ _ _ _ hj with ⟨rfl,-,-,-⟩|⟨k1,k2,k3⟩
   ·rw[Q3]at hN;simp at hN;subst hN
    exact(R.exc i id M L cs1 e1 cs true esz h3 hg h1 hM hL)
   ·rw[hold j (lt _ _ k3)]at hN
    exact R.exc i j M N cs1 e1 cs2 rw2 e2 h3 k3 hne hM hN
theorem qe{cs vs:List SV}{off n:Nat}(h:cut cs off n=some vs):off+n<=cs.length/\vs.length=n/\∀(i:Nat) (v:SV),vs[i]?=some v->i<n/\cs[off+i]?=some v:=by
 unfold cut at h
 split at h
 ·simp at h;subst h
  refine⟨by assumption,by simp;omega,fun i v hi=>?_⟩
  rw[GC]at hi
  split at hi
  ·simp at hi;exact⟨by assumption,hi⟩
  ·simp at hi
 ·simp at h
theorem Qcx{h:Qa}{id off n:Nat}{vs:List SV}(hr:Q9 h id off n=some vs):∃ cs rw esz,h[id]?=some (.cells cs rw esz)/\cut cs off n=some vs:=by
 unfold Q9 at hr
 split at hr
 ·exact⟨_,_,_,by assumption,hr⟩
 ·simp at hr
theorem Ju{β:Bt}{h:Qa}{w:World}(R:Rep β h w){id off n:Nat}{vs:List SV}{L:Loc}(hL:β id=some L)(hn:L.esz.n<1000000)(hr:Q9 h id off n=some vs) :
  ∃ ws:List Value,F2 (SRel β) vs ws/\ws.length=n/\∀(j:Nat) (v:Value),ws[j]?=some v->w.cell? ⟨L.b,L.base+off+j,none⟩=some v:=by
 obtain⟨cs,rw,esz,hg,hc⟩:=Qcx hr
 obtain⟨h1,h2,h3⟩:=qe hc
 obtain⟨_,ccs,e,fz,k1,k2,k3,k4,_⟩:=(R.blk id L cs rw esz hg hL).cell hn
 have hlen:(((ccs.toList.drop (L.base+off)).take n)).length=n:=by simp;omega
 refine⟨(ccs.toList.drop (L.base+off)).take n,?_,hlen,?_⟩
 ·refine F2.of_get (by rw[h2,hlen]) fun i a b ha hb=>?_
  obtain⟨hi,ha'⟩:=h3 i a ha
  obtain⟨c,q1,q2⟩:=k4 _ _ ha'
  rw[GC,if_pos hi,GG]at hb
  simp only[G9]at hb
  rw[show L.base+off+i=L.base+(off+i) by omega,q1]at hb
  simp at hb;subst hb;exact q2
 ·intro j v hj
  rw[GC]at hj
  split at hj
  ·rw[GG,G9]at hj
   rw[cell_of_row w L.b _ ccs e fz k1];exact hj
  ·simp at hj
theorem Addr.add_off(b o j:Nat):(⟨b,o,none⟩:Addr).add j=⟨b,o+j,none⟩:=by
 unfold Addr.add;split <;> simp_all
