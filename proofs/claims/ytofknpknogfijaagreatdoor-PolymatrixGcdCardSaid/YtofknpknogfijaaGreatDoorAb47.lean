import Derived.Test.YtofknpknogfijaaGreatDoorAb34
/- Hooks out of contracts: functions from numbers to numbers. -/
namespace Go.Ab
set_option linter.all false
def frc{α:Type}(x:Nat)(f:Nat->α):α:=match x with
 | 0=>f 0
 | n+1=>f (n+1)
theorem Yw{α:Type}(x:Nat)(f:Nat->α):frc x f=f x:=by cases x <;> rfl
def SV.plain:SV->Bool
 | .int _ _ | .bool _=>true
 | _=>false
def AV.plain:AV->Bool
 | .sc x=>x.plain
 | .agg xs=>xs.all SV.plain
 | .tup _=>false
theorem SRel.plain{β β':Bt}{x:SV}{c:Value}(hp:x.plain=true)(h:SRel β x c):SRel β' x c:=by
 cases h <;> first|exact .bool _|exact .int _ _|cases hp
theorem F2.plain{β β':Bt}:∀ {xs:List SV} {cs:List Value},xs.all SV.plain=true->F2 (SRel β) xs cs->F2 (SRel β') xs cs
 | _,_,_,.nil => .nil
 | x::xs,_,hp,.cons h r=>by
  rw[List.all_cons,Bool.and_eq_true]at hp
  exact .cons (h.plain hp.1) (F2.plain hp.2 r)
theorem ARel.plain{β β':Bt}{x:AV}{c:Value}(hp:x.plain=true)(h:ARel β x c):ARel β' x c:=by
 cases h with
 | sc h=>exact .sc (h.plain hp)
 | agg h=>exact .agg (F2.plain hp h)
 | tup h=>cases hp
theorem F2.plains{β β':Bt}:∀ {xs:List AV} {cs:List Value},xs.all AV.plain=true->F2 (ARel β) xs cs->F2 (ARel β') xs cs
 | _,_,_,.nil => .nil
 | x::xs,_,hp,.cons h r=>by
  rw[List.all_cons,Bool.and_eq_true]at hp
  exact .cons (h.plain hp.1) (F2.plains hp.2 r)
variable [Base]
theorem Yu{P:Program}{FT:zzA}{HK:zzH}(ok:FTok P FT)(hk:qE P HK){f:FuncId}{g:Xq}(hfn:U1 P f=true)
  (hg:∀ args h v h1,g args h=some (v,h1)->h1=h/\args.all AV.plain=true/\∃ x h',v = .sc x/\x.plain=true/\Cal FT HK f args [] (.sc x) h'):HkOK P f g:=by
 refine⟨hfn,fun args h v h1 hs=>by rw[(hg _ _ _ _ hs).1];exact Ge _,fun args h v h1 hs β w vs hvs R hf=>?_⟩
 obtain⟨rfl,hp,x,h',rfl,hx,N,hN⟩:=hg _ _ _ _ hs
 have CO:=Uv ok hk N
 refine(CO.run f args [] _ h' (hN N (Ge _)) (fun _=>none) w vs (F2.plains hp hvs) ⟨fun _ _ _ h=>by simp at h,fun _ _ _ _ _ h=>by simp at h,fun _ _ _ _ _ _ _ _ _ h=>by simp at h,R.keep⟩ (fun _ _ _=>rfl)).mono ?_
 rintro e w' ⟨β',c,rfl,h2,h3,-⟩
 have hw:∀ b,b<w.heap.size->w'.heap[b]?=w.heap[b]?:=fun b hb=>h3.frame b hb (by rintro⟨id,L,cs,esz,hg,-⟩;simp at hg)
 exact⟨β,c,rfl,h2.plain hx,⟨fun _ _ h=>h,fun _ _ h => .inl h,fun id h1 h2=>by omega,Ge _,fun b hb => .inr hb,fun id L h1 h2=>by rw[h1]at h2;simp at h2,fun b hb _=>hw b hb,h3.size,h3.os,h3.tape,h3.output⟩,yU R hw⟩
