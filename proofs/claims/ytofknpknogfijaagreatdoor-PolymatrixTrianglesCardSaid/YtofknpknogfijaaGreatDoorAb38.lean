import Derived.Test.YtofknpknogfijaaGreatDoorAb35
import Derived.Test.YtofknpknogfijaaGreatDoorAb32
/- Slices of bytes of one's own: read,written,made,grown;shifts. -/
namespace Go.Ab
set_option linter.unusedVariables false
def u8n (L:List Nat):List SV:=L.map fun (x:Nat)=>.int .u8 (x:Int)
theorem Qbo (L:List Nat):(u8n L).length=L.length:=by simp [u8n]
theorem OwnZ.all {z:ESz} {h0 h:Qa} {s:SV} {vs:List SV} (ho:OwnZ z h0 h s vs) (hn:0 < vs.length):∃ id cap,s=.slc id 0 vs.length cap∧QX h id 0 vs.length=some vs:=by
  rcases ho with ⟨rfl,rfl⟩ | ⟨id,cap,cs,rfl,h0',h1,h2,h3,h4⟩
  · simp at hn
  · refine ⟨id,cap,rfl,?_⟩
    have hl:vs.length≤cs.length:=by have:=congrArg List.length h3;simp at this;omega
    simp only [QX,h2]
    unfold cut
    rw [if_pos (by omega),List.drop_zero,h3]
section
variable {FT:FuncId→Option AFun} {HK:FuncId→Option Xc} {E:Env} {h h0:Qa} {K:Env→Qa→Prop} {d:Option Nat} {r:List AOp} {x y:AO}
theorem yQ {kd:IntKind} {m:Int} (hx:evS E x=some (.int kd m)) (hr:0≤m∧m < 256) (hw:Qi FT HK r (Qq d (some (.sc (.int .u8 m))) E) h K):Qi FT HK (⟨d,.conv .u8 x,none⟩::r) E h K:=by
  refine Q8 (v:=some (.sc (X4 .u8 m))) (h':=h) rfl rfl (by simp only [Ql,hx]) ?_
  have:IntKind.u8.wrap m=m:=by
    obtain ⟨k,rfl⟩:∃ k:Nat,m=k:=⟨m.toNat,by omega⟩
    have hk:k < 256:=by omega
    simp only [IntKind.wrap]
    show (if IntKind.u8.signed=true then _ else _)=_
    simp [IntKind.signed,IntKind.bits]
    omega
  rw [X4,this];exact hw
theorem k_shl {kd k2:IntKind} {a b c:Int} (hx:evS E x=some (.int kd a)) (hy:evS E y=some (.int k2 b)) (h0:0≤b) (hc:kd.wrap (a*2 ^ (min b.toNat kd.bits))=c) (hw:Qi FT HK r (Qq d (some (.sc (.int kd c))) E) h K) :
    Qi FT HK (⟨d,.bin .shl x y,none⟩::r) E h K:=by
  refine Q8 (v:=some (.sc (.int kd c))) (h':=h) rfl rfl ?_ hw
  simp only [Ql,hx,hy,Option.bind_some,Z1,X8,if_true,shI]
  rw [if_neg (by omega)]
  simp only [X4,hc,Option.map_some]
end
end Go.Ab


/- Slices of bytes,wherever they lie;rows of integers of any kind that came in. -/
namespace Go.Ab
set_option linter.unusedVariables false
def IsBy (h:Qa) (s:SV) (L:List Nat):Prop:=(s=.nilS∧L=[])∨∃ id off cap,s=.slc id off L.length cap∧(0 < L.length→QX h id off L.length=some (u8n L))
theorem IsBy.len {h:Qa} {s:SV} {L:List Nat} (hs:IsBy h s L):Yq false s=some (L.length:Int):=by
  rcases hs with ⟨rfl,rfl⟩ | ⟨id,off,cap,rfl,_⟩ <;> rfl
theorem QcQ {h:Qa} {id off n i k:Nat} {vs:List SV} (hr:QX h id off n=some vs) (hi:i+k≤n):QX h id (off+i) k=some ((vs.drop i).take k):=by
  unfold QX at *
  split at hr
  · unfold cut at *
    split at hr
    · simp only [Option.some.injEq] at hr
      subst hr
      rw [if_pos (by omega),List.drop_take,List.drop_drop,List.take_take,Nat.min_eq_left (by omega)]
    · simp at hr
  · simp at hr
theorem IsBy.at {h:Qa} {s:SV} {L:List Nat} (hs:IsBy h s L) {i x:Nat} (hi:L[i]?=some x):∃ id off cap,s=.slc id off L.length cap∧QX h id (off+i*1) 1=some [.int .u8 (x:Int)]:=by
  have hl:=(List.getElem?_eq_some_iff.1 hi).1
  rcases hs with ⟨rfl,rfl⟩ | ⟨id,off,cap,rfl,e2⟩
  · simp at hi
  · refine ⟨id,off,cap,rfl,?_⟩
    have h1:=QcQ (i:=i) (k:=1) (e2 (by omega)) (by omega)
    rw [Nat.mul_one,h1]
    have h2:(u8n L)[i]?=some (.int .u8 (x:Int)):=by simp [u8n,hi]
    obtain ⟨h9,h10⟩:=List.getElem?_eq_some_iff.1 h2
    rw [List.drop_eq_getElem_cons h9,h10];rfl
theorem OwnZ.by {z:ESz} {h0 h:Qa} {s:SV} {L:List Nat} (ho:OwnZ z h0 h s (u8n L)):IsBy h s L:=by
  by_cases hp:0 < (u8n L).length
  · obtain ⟨id,cap,e1,e2⟩:=ho.all hp
    rw [Qbo] at e1 e2
    exact .inr ⟨id,0,cap,e1,fun _=>e2⟩
  · have hL:L=[]:=List.eq_nil_of_length_eq_zero (by rw [Qbo] at hp;omega)
    subst hL
    rcases ho with ⟨h1,-⟩ | ⟨id,cap,cs,e1,e2,_⟩
    · exact .inl ⟨h1,rfl⟩
    · exact absurd e2 hp
theorem RowI.wf {kd:IntKind} {w:World} {a:Option Addr} {len cap:Nat} {zs:List Int} (hr:RowI kd w a len cap zs) (n:Int) (hn:n∈zs):(Lit.int kd n).wf=true:=by
  rcases hr with ⟨_,_,_,rfl⟩ | ⟨x,_,_,_,_,_,h⟩
  · simp at hn
  · exact h n hn
section
variable [Base]
set_option linter.unusedSectionVars false
end
end Go.Ab
namespace Go.Ab
section
variable {FT:FuncId→Option AFun} {HK:FuncId→Option Xc} {E:Env} {h:Qa} {K:Env→Qa→Prop} {d:Option Nat} {r:List AOp} {x y:AO}
theorem k_shr {kd k2:IntKind} {a b c:Int} (hx:evS E x=some (.int kd a)) (hy:evS E y=some (.int k2 b)) (h0:0≤b) (hc:a.fdiv (2 ^ (min b.toNat kd.bits))=c) (hw:Qi FT HK r (Qq d (some (.sc (.int kd c))) E) h K) :
    Qi FT HK (⟨d,.bin .shr x y,none⟩::r) E h K:=by
  refine Q8 (v:=some (.sc (.int kd c))) (h':=h) rfl rfl ?_ hw
  simp only [Ql,hx,hy,Option.bind_some,Z1,X8,if_true,shI]
  rw [if_neg (by omega)]
  simp only [hc,Option.map_some]
end
end Go.Ab


/- Step by step through a region whose order is open and whose loads read what stays. -/
namespace Go.Ab
set_option linter.unusedVariables false
section
variable {FT:FuncId→Option AFun} {HK:FuncId→Option Xc} {E:Env} {h h':Qa} {K:Env→Qa→Prop} {r:List (AOp × Nat × Bool)} {Q:Ex→Env→Qa→Prop} {S A fr:List Nat} {i:Nat}
theorem Qin {ops:List (AOp × Nat × Bool)} {ks:List Nat} (S:List Nat) (hw:QV FT HK S [] fr ops E h (fun E' h'=>Q .nm (E'.keep ks) h')):wA FT HK (.regs ops fr ks) E h Q:=⟨S,[],hw⟩
theorem s_one {o:AOp} {ord:Bool} (hl:∀ id,ldX E ord o.k=some id→id∈S) (hw:Qi FT HK [o] E h (fun E' h'=>(ord=true∨h'.take h.length=h)∧(i∈fr∨(∀ id∈S,h'[id]?=h[id]?)∧∀ id∈A,id < h.length→h'[id]?=h[id]?)∧(1000+i∈fr→∀ id,h.length≤id→id < h'.length→id∈A)∧QV FT HK S A fr r E' h' K)):QV FT HK S A fr ((o,i,ord)::r) E h K:=⟨hl,hw⟩
theorem Qiz {E':Env} {ord:Bool} (hw:QV FT HK S A fr r E' h K):Qi FT HK [] E' h (fun E' h'=>(ord=true∨h'.take h.length=h)∧(i∈fr∨(∀ id∈S,h'[id]?=h[id]?)∧∀ id∈A,id < h.length→h'[id]?=h[id]?)∧(1000+i∈fr→∀ id,h.length≤id→id < h'.length→id∈A)∧QV FT HK S A fr r E' h' K):=⟨.inr (List.take_length),.inr ⟨fun _ _=>rfl,fun _ _ _=>rfl⟩,fun _ id h1 h2=>by omega,hw⟩
theorem s_ord {E':Env} (hs:∀ id∈S,h'[id]?=h[id]?) (hw:QV FT HK S A fr r E' h' K) (hA:∀ id∈A,id < h.length→h'[id]?=h[id]?:=by nofun) (hq:fr.contains (1000+i)=false:=by rfl):Qi FT HK [] E' h' (fun E' h'=>(true=true∨h'.take h.length=h)∧(i∈fr∨(∀ id∈S,h'[id]?=h[id]?)∧∀ id∈A,id < h.length→h'[id]?=h[id]?)∧(1000+i∈fr→∀ id,h.length≤id→id < h'.length→id∈A)∧QV FT HK S A fr r E' h' K):=⟨.inl rfl,.inr ⟨hs,hA⟩,fun hm=>(by rw [List.contains_iff_mem.2 hm] at hq;cases hq),hw⟩
theorem QiH {E':Env} (hi:fr.contains i=true) (hw:QV FT HK S A fr r E' h' K) (hq:fr.contains (1000+i)=false:=by rfl):Qi FT HK [] E' h' (fun E' h'=>(true=true∨h'.take h.length=h)∧(i∈fr∨(∀ id∈S,h'[id]?=h[id]?)∧∀ id∈A,id < h.length→h'[id]?=h[id]?)∧(1000+i∈fr→∀ id,h.length≤id→id < h'.length→id∈A)∧QV FT HK S A fr r E' h' K):=⟨.inl rfl,.inl (List.contains_iff_mem.1 hi),fun hm=>(by rw [List.contains_iff_mem.2 hm] at hq;cases hq),hw⟩
theorem s_nil (hw:Qi FT HK [] E h K):QV FT HK S A fr [] E h K:=hw
end
end Go.Ab

