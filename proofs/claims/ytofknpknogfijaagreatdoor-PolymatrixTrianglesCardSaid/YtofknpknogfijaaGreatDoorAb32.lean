import Derived.Test.YtofknpknogfijaaGreatDoorAb29
import Derived.Lib.AtoiAll
import Derived.Lib.AtoiAllCases
import Derived.Lib.ItoaNum
import Derived.Lib.Split
import Derived.Lib.SplitLaws
import Derived.Lib.LaidTab
import Derived.Lib.SmallJoins
import Derived.Lib.Join
import Derived.Lib.SpaceU
import Derived.Laws.AppendOwn
import Derived.Below
import Derived.Sort.Grow
import Derived.Stop.LaidErr
import Derived.LaidLaws
import Derived.FnData
/- Contracts of the library that read package variables (which hold what they held at first) or lay new rows: strings.Cut,Split,Fields,Join,strconv.Atoi,Itoa. -/
namespace Go.Ab
open Go.Sort
variable [Base]
set_option linter.unusedSectionVars false
set_option linter.unusedVariables false
def tb (l:List UInt8):SV:=.str ⟨l.toArray⟩
theorem tb_self (s:ByteArray):tb s.data.toList=.str s:=rfl
theorem QcN {β:Bt} {h:Qa} {w w':World} (R:Rep β h w) (hb:RowKit.Below w.heap.size w w'):Stp β h w β h w'∧Rep β h w' :=
  ⟨⟨fun _ _ h=>h,fun _ _ h=>.inl h,fun id h1 h2=>by omega,Nat.le_refl _,fun b hb=>.inr hb,fun id L h1 h2=>by rw [h1] at h2;simp at h2,fun b h1 _=>hb.block b h1,hb.size,hb.os,hb.tape,hb.output⟩,yo R hb.block⟩
theorem Qax (w:World) (n:Nat):RowKit.Below w.heap.size w (w.drewN n):=⟨rfl,rfl,rfl,Nat.le_refl _,fun _ _=>rfl⟩
theorem Qbc (w:World) (os:Array Obj):RowKit.Below w.heap.size w (grow w os) :=
  ⟨rfl,rfl,rfl,by simp [grow],fun k hk=>by simp [grow,Array.getElem?_append,hk]⟩
def cutHook:Xc:=fun args h=>match args with
  | [.sc (.str s),.sc (.str sep)]=>if s.size < 4294967281 then
      some (.tup [.sc (tb (Lib.cut s.data.toList sep.data.toList).1),.sc (tb (Lib.cut s.data.toList sep.data.toList).2.1),.sc (.bool (Lib.cut s.data.toList sep.data.toList).2.2)],h) else none
  | _=>none
def splitHook:Xc:=fun args h=>match args with
  | [.sc (.str s),.sc (.str sep)]=>if s.size < 4294967281∧1≤sep.size then
      some (.sc (.slc h.length 0 (Lib.split s.data.toList sep.data.toList).length (some (Lib.split s.data.toList sep.data.toList).length)),h++[.cells ((Lib.split s.data.toList sep.data.toList).map tb) true 1]) else none
  | _=>none
def Qji:Xc:=fun args h=>match args with
  | [.sc (.str s)]=>if s.size < 4294967281 then
      some (.sc (.slc h.length 0 (Lib.fieldsD s.data.toList).length (some (Lib.fieldsD s.data.toList).length)),h++[.cells ((Lib.fieldsD s.data.toList).map tb) false 1]) else none
  | _=>none
def Qdw:List SV→Option (List (List UInt8))
  | []=>some []
  | .str s::r=>(Qdw r).map (s.data.toList::·)
  | _=>none
def joinHook:Xc:=fun args h=>match args with
  | [.sc .nilS,.sc (.str sep)]=>some (.sc (tb []),h)
  | [.sc (.slc id off n _),.sc (.str sep)]=>if n=0 then some (.sc (tb []),h) else
      match (QX h id off n).bind Qdw with
      | some ls=>if (Lib.join ls sep.data.toList).length≤140737488355328∧ls.length≤140737488355328∧ls.length=n then some (.sc (tb (Lib.join ls sep.data.toList)),h) else none
      | none=>none
  | _=>none
def atoiHook:Xc:=fun args h=>match args with
  | [.sc (.str s)]=>if s.size≤281474976710656 then
      match Lib.atoiAll s.data.toList with
      | .ok v=>some (.tup [.sc (.int .i64 v),.sc .nilI],h)
      | .range=>some (.tup [.sc (.int .i64 (Lib.atoiSat s.data.toList)),.sc .ifc],h)
      | _=>some (.tup [.sc (.int .i64 0),.sc .ifc],h)
    else none
  | _=>none
def ZC:Xc:=fun args h=>match args with
  | [.sc (.int .i64 n)]=>if -9223372036854775808≤n∧n≤9223372036854775807 then some (.sc (tb (Lib.itoa n)),h) else none
  | _=>none
theorem Qab {P:Program} {f g:Nat} {nm:String} (hfn:Vf P f=true) (hg:g < Base.B) (hnm:P.globalNamed nm=some g) (htab:Lib.TabIs P Base.W nm .u64 Lib.pow10Tab)
    (hc:∀ (n:Int),-9223372036854775808≤n→n≤9223372036854775807→∀ w:World,Lib.TabIs P w nm .u64 Lib.pow10Tab →
      Calls P f #[.int .i64 n] w fun e w'=>e=.returned (.string ⟨(Lib.itoa n).toArray⟩)∧∃ k os,w'=grow (w.drewN k) os) :
    HkOK P f ZC where
  fn:=hfn
  len:=fun args h v h' hs=>by
    unfold ZC at hs
    split at hs
    · split at hs
      · simp only [Option.some.injEq,Prod.mk.injEq] at hs;rw [← hs.2];exact Nat.le_refl _
      · simp at hs
    · simp at hs
  run:=fun args h v h' hs β w vs hvs R hf=>by
    unfold ZC at hs
    split at hs
    · rename_i n
      split at hs
      · rename_i hp
        simp only [Option.some.injEq,Prod.mk.injEq] at hs
        obtain ⟨rfl,rfl⟩:=hs
        cases hvs with
        | cons k1 hvs =>
          cases hvs
          cases k1 with
          | sc k1 =>
            cases k1
            refine (hc n hp.1 hp.2 w ((R.var hnm hg).trans htab)).mono ?_
            rintro e w' ⟨rfl,k,os,rfl⟩
            obtain ⟨s1,s2⟩:=QcN R (RowKit.Below.trans (Qax w k) (Qbc (w.drewN k) os))
            exact ⟨β,_,rfl,.sc (.str _),s1,s2⟩
      · simp at hs
    · simp at hs
end Go.Ab


/- Text: strings as lists of bytes;slices of whatever type of one's own;the Builder in memory. -/
namespace Go.Ab
set_option linter.unusedVariables false
theorem tb_data (l:List UInt8):((⟨l.toArray⟩:ByteArray)).data.toList=l:=rfl
theorem tb_size (l:List UInt8):((⟨l.toArray⟩:ByteArray)).size=l.length:=rfl
def u8s (l:List UInt8):List SV:=l.map fun b=>.int .u8 (b.toNat:Int)
def OwnZ (z:ESz) (h0 h:Qa) (s:SV) (vs:List SV):Prop :=
  (s=.nilS∧vs=[])∨∃ id cap cs,s=.slc id 0 vs.length cap∧0 < vs.length∧h0.length≤id∧h[id]?=some (.cells cs true z)∧cs.take vs.length=vs∧Qdh vs.length cs cap
theorem OwnZ.len {z:ESz} {h0 h:Qa} {s:SV} {vs:List SV} (ho:OwnZ z h0 h s vs):Yq false s=some (vs.length:Int):=by
  rcases ho with ⟨rfl,rfl⟩ | ⟨id,cap,cs,rfl,_⟩ <;> rfl
structure BldS (T:Nat) (z:ESz) (h0 h:Qa) (B:Nat) (s:SV) (bs:List UInt8):Prop where
  blk:∃ q,h[B]?=some (.cells [.ptr B 0,q] true ⟨0,some T⟩)
  low:h0.length≤B
  own:OwnZ z h0 h s (u8s bs)
  not:XT s B
  ext:Ext h0 h
def Bld (T:Nat) (z:ESz) (h0 h:Qa) (B:Nat) (bs:List UInt8):Prop :=
  ∃ p s,h[B]?=some (.cells [p,s] true ⟨0,some T⟩)∧(p=.nilP∨p=.ptr B 0)∧h0.length≤B∧OwnZ z h0 h s (u8s bs)∧XT s B∧Ext h0 h
section
variable {FT:FuncId→Option AFun} {HK:FuncId→Option Xc} {E:Env} {h:Qa} {K:Env→Qa→Prop} {d:Option Nat} {r:List AOp} {x y:AO}
end
theorem IsSl.at {h:Qa} {s:SV} {vs:List SV} (hs:IsSl h s 1 vs.length vs) {i:Nat} {x:SV} (hi:vs[i]?=some x) :
    ∃ id off cap,s=.slc id off vs.length cap∧QX h id (off+i*1) 1=some [x]:=by
  have hl:=(List.getElem?_eq_some_iff.1 hi).1
  rcases hs with ⟨rfl,h1,h2⟩ | ⟨id,off,cap,b,h1,h2,h3,h4,h5⟩
  · omega
  · obtain ⟨cs,rw',rfl,hc⟩:=h5 (by omega)
    refine ⟨id,off,cap,h1,?_⟩
    unfold QX
    rw [h2]
    simp only
    unfold cut at hc ⊢
    simp only [ESz.one_n] at hc
    split at hc
    · rename_i hle
      simp only [Option.some.injEq] at hc
      rw [if_pos (by omega)]
      have:(cs.drop (off+i*1)).take 1=(((cs.drop off).take (vs.length*1)).drop i).take 1:=by
        rw [List.drop_take,List.drop_drop,List.take_take]
        rw [Nat.min_eq_left (by omega),Nat.mul_one]
      rw [this,hc,List.drop_eq_getElem_cons hl,(List.getElem?_eq_some_iff.1 hi).2]
      rfl
    · simp at hc
end Go.Ab
namespace Go.Ab
section
variable {FT:FuncId→Option AFun} {HK:FuncId→Option Xc} {E:Env} {h:Qa} {K:Env→Qa→Prop} {d:Option Nat} {r:List AOp} {x y:AO}
end
end Go.Ab


/- What a world holds,every world holds that agrees with it;what a row lists,in cells. -/
namespace Go.Ab
open Go.ChangeShapes
set_option linter.unusedVariables false
def Agree (W w:World):Prop:=∀ b,b < W.heap.size→w.heap[b]?=W.heap[b]?
theorem Uv {P:Program} {W:World} {n:String} {k:IntKind} {zs:List Int} {g:Nat} (hg:P.globalNamed n=some g) (hc:Lib.TabIs P W n k zs):g < W.heap.size:=by
  unfold Lib.TabIs World.var? at hc
  rw [hg] at hc
  simp only [Option.bind_some] at hc
  rcases Nat.lt_or_ge g W.heap.size with h' | h'
  · exact h'
  · simp [Array.getElem?_eq_none h'] at hc
end Go.Ab

