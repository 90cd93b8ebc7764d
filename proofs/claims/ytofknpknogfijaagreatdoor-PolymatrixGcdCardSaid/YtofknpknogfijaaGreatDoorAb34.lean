import Derived.Test.YtofknpknogfijaaGreatDoorAb32
import Derived.Shelf.Strings.FieldsAny
/- Hooks that answer less;what a closed run over hooks answers. -/
namespace Go.Ab
set_option linter.all false
variable [Base]
theorem HkOK.less{P:Program}{f:FuncId}{g g':Xq}(h:HkOK P f g)(hl:∀ args hp r,g' args hp=some r->g args hp=some r):HkOK P f g' :=
 ⟨h.fn,fun args hp v h' hs=>h.len _ _ _ _ (hl _ _ _ hs),fun args hp v h' hs=>h.run _ _ _ _ (hl _ _ _ hs)⟩
theorem Vc{P:Program}{FT:zzA}{HK:zzH}(ok:FTok P FT)(hk:qE P HK){m:Nat}{f:FuncId}{x:SV}{h':Qa}(hx:∀ β β' c,SRel β' x c->SRel β x c)
  (hr:X6 FT HK m f [] []=some (.sc x,h')):HkOK P f (Zj (.sc x)):=by
 have CO:=Uv ok hk m
 refine⟨CO.fn _ _ _ _ hr,fun args h v h1 hs=>?_,fun args h v h1 hs β w vs hvs R hf=>?_⟩
 ·unfold Zj at hs
  split at hs
  ·simp at hs;rw[hs.2];exact Ge _
  ·simp at hs
 ·unfold Zj at hs
  split at hs
  ·rename_i he
   have:args=[]:=by simpa using he
   subst this
   simp at hs
   obtain⟨rfl,rfl⟩:=hs
   cases hvs
   refine(CO.run f [] [] _ h' hr (fun _=>none) w [] .nil ⟨fun _ _ _ h=>by simp at h,fun _ _ _ _ _ h=>by simp at h,fun _ _ _ _ _ _ _ _ _ h=>by simp at h,R.keep⟩ (fun _ _ _=>rfl)).mono ?_
   rintro e w' ⟨β',c,rfl,h2,h3,-⟩
   have hw:∀ b,b<w.heap.size->w'.heap[b]?=w.heap[b]?:=fun b hb=>h3.frame b hb (by rintro⟨id,L,cs,esz,hg,-⟩;simp at hg)
   cases h2 with
   | sc h2 =>
    exact⟨β,c,rfl,.sc (hx _ _ _ h2),⟨fun _ _ h=>h,fun _ _ h => .inl h,fun id h1 h2=>by omega,Ge _,fun b hb => .inr hb,fun id L h1 h2=>by rw[h1]at h2;simp at h2,fun b hb _=>hw b hb,h3.size,h3.os,h3.tape,h3.output⟩,yU R hw⟩
  ·simp at hs
def Ji:Xq:=fun args h=>match args with
 | [.sc (.int .i64 n)]=>if -10<n/\n<10 then some (.sc (tb (if n<0 then [45,UInt8.ofNat (48+n.natAbs)] else [UInt8.ofNat (48+n.toNat)])),h) else none
 | _=>none
theorem U0(args:List AV)(h:Qa)(r:AV×Qa)(hs:Ji args h=some r):ZP args h=some r:=by
 unfold Ji at hs
 split at hs
 ·rename_i n
  split at hs
  ·rename_i hc
   simp only[ZP]
   have e:Lib.itoa n=if n<0 then [45,UInt8.ofNat (48+n.natAbs)] else [UInt8.ofNat (48+n.toNat)]:=by
    unfold Lib.itoa
    by_cases h0:n<0
    ·rw[if_pos h0,if_pos h0,Lib.decDigits,dif_pos (by omega)]
    ·rw[if_neg h0,if_neg h0,Lib.decDigits,dif_pos (by omega)]
   rw[if_pos (by omega),e]
   exact hs
  ·cases hs
 ·cases hs
end Go.Ab
namespace Go.Ab
set_option linter.all false
variable [Base]
structure ArgR(β:Bt)(w:World)(L:Loc)(b:Blk):Prop where
 esz:L.esz=b.esz
 ty:b.esz.ty=none/\b.esz.n<1000000
 cells:∀ cs rw e,b = .cells cs rw e->rw=false/\∃ ccs e' fz,w.heap[L.b]?=some (.cells ccs e' fz)/\ccs.size=L.sz/\L.base+cs.length<=L.sz ∧
  ∀(i:Nat) (v:SV),cs[i]?=some v->∃ c,ccs[L.base+i]?=some c/\SRel β v c
theorem QeF{w:World}{h:Qa}{Ls:List Loc}(hl:Ls.length=h.length)(hn:Base.B<=w.heap.size/\∀ b,b<Base.B->w.heap[b]?=Base.W.heap[b]?)(hb:∀(id:Nat) (L:Loc) (b:Blk),Ls[id]?=some L->h[id]?=some b->ArgR (fun id=>Ls[id]?) w L b):Rep (fun id=>Ls[id]?) h w:=by
 refine⟨fun id b L hg hL=>(hb id L b hL hg).esz,fun id L cs rw esz hg hL=>?_,fun i j L M cs esz cs' rw' esz' hi hj hij hL hM=>?_,hn⟩
 ·have hB:=hb id L _ hL hg
  obtain⟨rfl,ccs,e',fz,h1,h2,h3,h4⟩:=hB.cells cs rw esz rfl
  exact .inl ⟨hB.ty.2,hB.esz,ccs,e',fz,h1,h2,h3,h4,fun h=>by simp at h,(by intro t ht;have h5:esz.ty=none:=hB.ty.1;rw[h5]at ht;cases ht),(by intro t ht;have h5:esz.ty=none:=hB.ty.1;rw[ht]at h5;cases h5),fun h=>by simp at h⟩
 ·obtain⟨h1,-⟩:=(hb i L _ hL hi).cells cs true esz rfl
  simp at h1
theorem top_belowR{P:Program}{FT:zzA}{HK:zzH}(ok:FTok P FT)(hk:qE P HK){m:Nat}{f:FuncId}{args:List AV}{vs:List Value}{h h':Qa}{w:World}{Ls:List Loc}(hl:Ls.length=h.length)(hn:Base.B<=w.heap.size/\∀ b,b<Base.B->w.heap[b]?=Base.W.heap[b]?)
  (hb:∀(id:Nat) (L:Loc) (b:Blk),Ls[id]?=some L->h[id]?=some b->ArgR (fun id=>Ls[id]?) w L b) (hr:F2 (ARel fun id=>Ls[id]?) args vs) (hc:X6 FT HK m f args h=some (.sc (.bool true),h')) :
  Calls P f vs.toArray w fun e w'=>e = .returned (.bool true)/\RowKit.Below w.heap.size w w':=by
 refine((Uv ok hk m).run f args h _ h' hc _ w vs hr (QeF hl hn hb) ?_).mono ?_
 ·intro id h1 h2
  exact Gg (by omega)
 ·rintro e w' ⟨β',c,rfl,h1,h2,h3⟩
  cases h1 with
  | sc h1 =>
   cases h1
   refine⟨rfl,⟨h2.os,h2.tape,h2.output,h2.size,fun k hk=>h2.frame k hk ?_⟩⟩
   rintro⟨id,L,cs,esz,hg,hL,-⟩
   obtain⟨h4,-⟩:=(hb id L _ hL hg).cells cs true esz rfl
   simp at h4
