import Derived.Test.YtofknpknogfijaaGreatDoorAb29
import Derived.Lib.AtoiAll
import Derived.Lib.AtoiAllCases
import Derived.Lib.ItoaNum
import Derived.Lib.Split
import Derived.Lib.SplitLaws
import Derived.Lib.LaidTab
import Derived.Lib.SmallJoins
import Derived.Lib.Join
import Derived.Lib.SpaceU
import Derived.Sort.Grow
import Derived.Stop.LaidErr
import Derived.LaidLaws
import Derived.FnData
/- Contracts of the library that read package variables (which hold what they held at first) or lay new rows: strings.Cut,Split,Fields,Join,strconv.Atoi,Itoa. -/
namespace Go.Ab
set_option linter.all false
open Go.Sort
variable [Base]
def tb(l:List UInt8):SV := .str ⟨l.toArray⟩
theorem QeE{β:Bt}{h:Qa}{w w':World}(R:Rep β h w)(hb:RowKit.Below w.heap.size w w'):Stp β h w β h w'/\Rep β h w' :=
 ⟨⟨fun _ _ h=>h,fun _ _ h => .inl h,fun id h1 h2=>by omega,Ge _,fun b hb => .inr hb,fun id L h1 h2=>by rw[h1]at h2;simp at h2,fun b h1 _=>hb.block b h1,hb.size,hb.os,hb.tape,hb.output⟩,yU R hb.block⟩
theorem Qce(w:World)(n:Nat):RowKit.Below w.heap.size w (w.drewN n):=⟨rfl,rfl,rfl,Ge _,fun _ _=>rfl⟩
theorem Qdb(w:World)(os:Array Obj):RowKit.Below w.heap.size w (grow w os) :=
 ⟨rfl,rfl,rfl,by simp[grow],fun k hk=>by simp[grow,Array.getElem?_append,hk]⟩
theorem Qin{β:Bt}{h:Qa}{w w':World}(R:Rep β h w)(hf:β h.length=none)(hb:RowKit.Below w.heap.size w w'){A:Nat}(hA:w.heap.size<=A){ccs:Array Value}{e:TypeId}{fz:Nat×Nat}
  (hr:w'.heap[A]?=some (.cells ccs e fz)) {cs:List SV} (hl:cs.length<=ccs.size) (hrel:∀(i:Nat) (v:SV),cs[i]?=some v->∃ c,ccs[i]?=some c/\SRel β v c) :
  Stp β h w (upd β h.length ⟨A,0,ccs.size,1⟩) (h++[.cells cs false 1]) w'/\Rep (upd β h.length ⟨A,0,ccs.size,1⟩) (h++[.cells cs false 1]) w':=by
 have hle:=V3 (β:=β) (⟨A,0,ccs.size,1⟩:Loc) hf
 have hold:∀ i,i<h.length->upd β h.length ⟨A,0,ccs.size,1⟩ i=β i:=fun i hi=>XT _ _ (by omega)
 have lt:∀(i:Nat) (x:Blk),h[i]?=some x->i<h.length:=fun i x hx=>(Gb.1 hx).1
 have key:∀(i:Nat) (x:Blk),(h++[Blk.cells cs false 1])[i]?=some x->(i=h.length/\x = .cells cs false 1)∨(i≠h.length/\h[i]?=some x):=by
  intro i x hi
  rw[YP]at hi
  split at hi
  ·simp at hi;exact .inl ⟨by assumption,hi.symm⟩
  ·exact .inr ⟨by assumption,hi⟩
 refine⟨⟨hle,?_,?_,by simp,?_,?_,fun b h1 _=>hb.block b h1,hb.size,hb.os,hb.tape,hb.output⟩,⟨?_,?_,?_,Gh R.keep.1 hb.size,fun b h1=>(hb.block b (GJ h1 R.keep.1)).trans (R.keep.2 b h1)⟩⟩
 ·intro i M hM
  by_cases hi:i=h.length
  ·exact .inr (by simp;omega)
  ·exact .inl (by rwa [XT _ _ hi]at hM)
 ·intro i h1 h2
  have:i=h.length:=by simp at h2;omega
  subst this
  exact⟨_,Q3 _ _ _⟩
 ·rintro b ⟨i,M,cs1,e1,hi,hM,rfl⟩
  rcases key _ _ hi with ⟨rfl,h1⟩|⟨h1,h2⟩
  ·cases h1
  ·rw[hold i (lt _ _ h2)]at hM
   exact .inr ⟨i,M,cs1,e1,h2,hM,rfl⟩
 ·intro i M h1 h2
  by_cases hi:i=h.length
  ·subst hi;rw[Q3]at h1;simp at h1;subst h1;exact .inl hA
  ·rw[XT _ _ hi,h2]at h1;simp at h1
 ·intro i b M hi hM
  rcases key _ _ hi with ⟨rfl,rfl⟩|⟨h1,h2⟩
  ·rw[Q3]at hM;simp at hM;subst hM;rfl
  ·rw[hold i (lt _ _ h2)]at hM
   exact R.sz i b M h2 hM
 ·intro i M cs1 rw1 e1 hi hM
  rcases key _ _ hi with ⟨rfl,h1⟩|⟨h1,h2⟩
  ·rw[Q3]at hM;simp at hM;subst hM
   cases h1
   refine .inl ⟨by decide,rfl,ccs,e,fz,hr,rfl,by simpa using hl,fun i v hi=>?_,fun h=>by simp at h,(by intro t ht;cases ht),(by intro t ht;cases ht),fun h=>by simp at h⟩
   obtain⟨c,h1,h2⟩:=hrel i v hi
   exact⟨c,by simpa using h1,h2.mono hle⟩
  ·rw[hold i (lt _ _ h2)]at hM
   have hB:=R.blk i M cs1 rw1 e1 h2 hM
   exact hB.mono hle (hb.block _ hB.lt)
 ·intro i j M N cs1 e1 cs2 rw2 e2 hi hj hne hM hN
  rcases key _ _ hi with ⟨rfl,h1⟩|⟨h1,h2⟩
  ·cases h1
  ·rw[hold i (lt _ _ h2)]at hM
   rcases key _ _ hj with ⟨rfl,k1⟩|⟨k1,k2⟩
   ·rw[Q3]at hN;simp at hN;subst hN
    have:=(R.blk i M cs1 true e1 h2 hM).lt
    show M.b≠A
    omega
   ·rw[hold j (lt _ _ k2)]at hN
    exact R.exc i j M N cs1 e1 cs2 rw2 e2 h2 k2 hne hM hN
def ZP:Xq:=fun args h=>match args with
 | [.sc (.int .i64 n)]=>if -9223372036854775808<=n/\n<=9223372036854775807 then some (.sc (tb (Lib.itoa n)),h) else none
 | _=>none
theorem QbK{P:Program}{f g:Nat}{nm:String}(hfn:U1 P f=true)(hg:g<Base.B)(hnm:P.globalNamed nm=some g)(htab:Lib.TabIs P Base.W nm .u64 Lib.pow10Tab)
  (hc:∀(n:Int),-9223372036854775808<=n->n<=9223372036854775807->∀ w:World,Lib.TabIs P w nm .u64 Lib.pow10Tab ->
   Calls P f #[.int .i64 n] w fun e w'=>e = .returned (.string ⟨(Lib.itoa n).toArray⟩)/\∃ k os,w'=grow (w.drewN k) os) :
  HkOK P f ZP where
 fn:=hfn
 len:=fun args h v h' hs=>by
  unfold ZP at hs
  split at hs
  ·split at hs
   ·simp only[Option.some.injEq,Prod.mk.injEq]at hs;rw[← hs.2];exact Ge _
   ·simp at hs
  ·simp at hs
 run:=fun args h v h' hs β w vs hvs R hf=>by
  unfold ZP at hs
  split at hs
  ·rename_i n
   split at hs
   ·rename_i hp
    simp only[Option.some.injEq,Prod.mk.injEq]at hs
    obtain⟨rfl,rfl⟩:=hs
    cases hvs with
    | cons k1 hvs =>
     cases hvs
     cases k1 with
     | sc k1 =>
      cases k1
      refine(hc n hp.1 hp.2 w ((R.var hnm hg).trans htab)).mono ?_
      rintro e w' ⟨rfl,k,os,rfl⟩
      obtain⟨s1,s2⟩:=QeE R (RowKit.Below.trans (Qce w k) (Qdb (w.drewN k) os))
      exact⟨β,_,rfl,.sc (.str _),s1,s2⟩
   ·simp at hs
  ·simp at hs
end Go.Ab
namespace Go.Ab
set_option linter.all false
def u8s(l:List UInt8):List SV:=l.map fun b => .int .u8 (b.toNat:Int)
def OwnZ(z:ESz)(h0 h:Qa)(s:SV)(vs:List SV):Prop :=
 (s = .nilS/\vs=[])∨∃ id cap cs,s = .slc id 0 vs.length cap/\0<vs.length/\h0.length<=id/\h[id]?=some (.cells cs true z)/\cs.take vs.length=vs/\Qcj vs.length cs cap
theorem OwnZ.len{z:ESz}{h0 h:Qa}{s:SV}{vs:List SV}(ho:OwnZ z h0 h s vs):Yv false s=some (vs.length:Int):=by
 rcases ho with ⟨rfl,rfl⟩|⟨id,cap,cs,rfl,_⟩ <;> rfl
structure BldS(T:Nat)(z:ESz)(h0 h:Qa)(B:Nat)(s:SV)(bs:List UInt8):Prop where
 blk:∃ q,h[B]?=some (.cells [.ptr B 0,q] true ⟨0,some T⟩)
 low:h0.length<=B
 own:OwnZ z h0 h s (u8s bs)
 not:Ys s B
 ext:Ext h0 h
section
variable {FT:zzA} {HK:zzH} {E:Env} {h:Qa} {K:Env->Qa->Prop} {d:Option Nat} {r:List AOp} {x y:AO}
end
theorem IsSl.at{h:Qa}{s:SV}{vs:List SV}(hs:IsSl h s 1 vs.length vs){i:Nat}{x:SV}(hi:vs[i]?=some x) :
  ∃ id off cap,s = .slc id off vs.length cap/\Q9 h id (off+i*1) 1=some [x]:=by
 have hl:=(Gb.1 hi).1
 rcases hs with ⟨rfl,h1,h2⟩|⟨id,off,cap,b,h1,h2,h3,h4,h5⟩
 ·omega
 ·obtain⟨cs,rw',rfl,hc⟩:=h5 (by omega)
  refine⟨id,off,cap,h1,?_⟩
  unfold Q9
  rw[h2]
  simp only
  unfold cut at hc ⊢
  simp only[ESz.one_n]at hc
  split at hc
  ·rename_i hle
   simp only[Option.some.injEq]at hc
   rw[if_pos (by omega)]
   have:(cs.drop (off+i*1)).take 1=(((cs.drop off).take (vs.length*1)).drop i).take 1:=by
    rw[List.drop_take,List.drop_drop,List.take_take]
    rw[GM (by omega),Hd]
   rw[this,hc,Hn hl,(Gb.1 hi).2]
   rfl
  ·simp at hc
end Go.Ab
namespace Go.Ab
section
variable {FT:zzA} {HK:zzH} {E:Env} {h:Qa} {K:Env->Qa->Prop} {d:Option Nat} {r:List AOp} {x y:AO}
end
set_option linter.all false
open Go.ChangeShapes
theorem VK{P:Program}{W:World}{n:String}{k:IntKind}{zs:List Int}{g:Nat}(hg:P.globalNamed n=some g)(hc:Lib.TabIs P W n k zs):g<W.heap.size:=by
 unfold Lib.TabIs World.var? at hc
 rw[hg]at hc
 simp only[Gi]at hc
 rcases Gt g W.heap.size with h'|h'
 ·exact h'
 ·simp[Array.getElem?_eq_none h']at hc
