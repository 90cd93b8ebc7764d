import Derived.Test.YtofknpknogfijaaGreatDoorAb37
import Derived.Test.YtofknpknogfijaaGreatDoorAb34
import Derived.ChangeArms
import Derived.ChangeSame
import Derived.DataReads
/- Arguments that are slices of slices of pairs (an integer and a bool): rows and what is known of them. -/
namespace Go.Ab
set_option linter.all false
def z8(cs:List SV)(z:ESz):Blk:=if cs=[] then .dead z else .cells cs false z
theorem zA(cs:List SV)(z:ESz):(z8 cs z).esz=z:=by unfold z8;split <;> rfl
theorem QlK{z:ESz}{cs:List SV}{len:Nat}(hl:cs.length=len*z.n)(hn:1<=z.n){h:Qa}{id:Nat}(hg:h[id]?=some (z8 cs z)):IsSl h (.slc id 0 len none) z len cs:=by
 refine .inr ⟨id,0,none,_,rfl,hg,zA cs z,fun h0=>?_,fun h0=>?_⟩
 ·subst h0
  exact Gu (by omega)
 ·have:cs≠[]:=fun e=>by
   subst e
   have h1:1*1<=len*z.n:=Nat.mul_le_mul h0 hn
   simp at hl;omega
  refine⟨cs,false,by unfold z8;rw[if_neg this],?_⟩
  unfold cut
  rw[if_pos (by omega),Hi,← hl,GH]
theorem Qhu{w:World}{z:ESz}(hz:z.ty=none/\z.n<1000000)(hn:1<=z.n){x:Addr}{len cap:Nat}(hle:len<=cap)(hcell:∀ i,i<cap*z.n->∃ c,w.cell? (x.add i)=some c) :
  ∃ L:Loc,(∀(β:Bt) (id:Nat),β id=some L->SRel β (.slc id 0 len none) (.slice (some x) len cap)) ∧
   ∀(β:Bt) (cs:List SV),cs.length<=cap*z.n->(∀(i:Nat) (v:SV),cs[i]?=some v->∃ c,w.cell? (x.add i)=some c/\SRel β v c)->ArgR β w L (z8 cs z):=by
 by_cases h0:cap=0
 ·subst h0
  refine⟨⟨0,0,0,z⟩,fun β id hb => .slc hb (fun k hk=>by simp at hk) hle (fun h=>by omega) (fun h=>by omega) hz.2,fun β cs hl _=>?_⟩
  have:cs=[]:=Gu (by omega)
  subst this
  exact⟨rfl,hz,fun cs rw e h=>by simp[z8]at h⟩
 ·have hpos:1*1<=cap*z.n:=Nat.mul_le_mul (by omega) hn
  obtain⟨c0,k0⟩:=hcell 0 (by omega)
  have hx:=Qhz k0
  obtain⟨cl,kl⟩:=hcell (cap*z.n-1) (by omega)
  rw[hx,Addr.add_off]at kl
  unfold World.cell? at kl
  split at kl
  ·rename_i ccs e fz hh
   simp at kl hh
   have hsz:=(Gv.1 kl).1
   refine⟨⟨x.block,x.off,ccs.size,z⟩,fun β id hb => .slc hb (fun k hk=>by simp at hk) hle (fun _=>by simpa using hx) (fun _=>⟨hn,by simp at hsz ⊢;omega⟩) hz.2,fun β cs hl hc=>⟨(zA cs z).symm,by rw[zA];exact hz,fun cs' rw' e' h=>?_⟩⟩
   unfold z8 at h
   split at h
   ·cases h
   ·cases h
    refine⟨rfl,ccs,e,fz,hh,rfl,by simp at hsz ⊢;omega,fun i v hi=>?_⟩
    obtain⟨c,k1,k2⟩:=hc i v hi
    rw[hx,Addr.add_off,cell_of_row w x.block _ ccs e fz hh]at k1
    exact⟨c,k1,k2⟩
  ·simp at kl
theorem Qel(a:Addr)(m k:Nat):(a.add m).add k=a.add (m+k):=by
 unfold Addr.add
 by_cases h1:m=0
 ·subst h1;simp
 ·by_cases h2:k=0
  ·subst h2;simp
  ·rw[if_neg h1,if_neg h2,if_neg (by omega)]
   simp[GU]
section
variable {H:Type} {enc:TypeId×Value->H} {P:Program} {w:World} {base fuel:Nat} {held:Bool}
end
variable [Base]
