/- The wakening says true. -/
import Derived.Test.YtofknpknogfijaaGreatDoorQ4
namespace Go.Proofs.YtofknpknogfijaaGreatDoor
open Go.Ab
set_option linter.all false
set_option maxRecDepth 100000
def HRs:FuncId->Option VY:=fun f=>if f=78 then some (ccR 77) else (HKs f).map QdR
def Blind(g:Xq):Prop:=∀ args v h1 h,g args []=some (v,h1)->g args h=some (v,h)
theorem Blind.sim{g:Xq}(b:Blind g){args:List AV}{r r':RH}{v:AV}(o:r.Ok)(h:QdR g args r=some (v,r')):r'.Ok/\g args r.h=some (v,r'.h):=by
 unfold QdR at h
 rw[Ga]at h
 obtain⟨⟨v2,h2⟩,e1,e2⟩:=h
 cases e2
 exact⟨o,b _ _ _ _ e1⟩
theorem ZH{n:Nat}{x:Nat->AV}{c:Prop}[Decidable c]{v:AV}{h1 h:Qa}(e:(if c then frc n (fun r=>some (x r,([]:Qa))) else none)=some (v,h1)):(if c then frc n (fun r=>some (x r,h)) else none)=some (v,h):=by
 split at e
 ·rename_i hc
  rw[Yw]at e
  cases e
  rw[if_pos hc,Yw]
 ·cases e
theorem QlN:Blind Jx:=fun args v h1 h e=>by
 unfold Jx at e ⊢
 split at e
 ·exact ZH e
 ·cases e
theorem QlM:Blind Jv:=fun args v h1 h e=>by
 unfold Jv at e ⊢
 split at e
 ·exact ZH e
 ·cases e
theorem QlP:Blind JN:=fun args v h1 h e=>by
 unfold JN at e ⊢
 split at e
 ·exact ZH e
 ·cases e
theorem QlL:Blind Jm:=fun args v h1 h e=>by
 unfold Jm at e ⊢
 split at e
 ·exact ZH e
 ·cases e
theorem bl_of:Blind qT:=fun args v h1 h e=>by
 unfold qT at e ⊢
 split at e
 ·exact ZH e
 ·cases e
theorem QlO:Blind Jy:=fun args v h1 h e=>by
 unfold Jy at e ⊢
 split at e
 ·exact ZH e
 ·cases e
theorem bl_pr:Blind qR:=fun args v h1 h e=>by
 unfold qR at e ⊢
 split at e
 ·split at e
  ·rename_i hc;cases e;rw[if_pos hc]
  ·cases e
 ·cases e
theorem Qje:Blind Ji:=fun args v h1 h e=>by
 unfold Ji at e ⊢
 split at e
 ·split at e
  ·rename_i hc;cases e;rw[if_pos hc]
  ·cases e
 ·cases e
theorem simS:Qka HRs HKs:=fun f=>by
 by_cases h78:f=78
 ·subst h78
  exact⟨yb 77,rfl,fun args r v r' o h=>Qlo o h⟩
 ·have e:HRs f=(HKs f).map QdR:=by unfold HRs;rw[if_neg h78]
  rw[e]
  cases hk:HKs f with
  | none=>rfl
  | some g =>
   refine⟨g,rfl,fun args r v r' o h=>Blind.sim ?_ o h⟩
   unfold HKs at hk
   split at hk
   ·cases hk;exact Qje
   split at hk
   ·cases hk;exact QlP
   split at hk
   ·cases hk;exact QlL
   split at hk
   ·cases hk;exact bl_of
   split at hk
   ·cases hk;exact QlO
   split at hk
   ·cases hk;exact QlN
   split at hk
   ·cases hk;exact QlM
   split at hk
   ·cases hk;exact bl_pr
   ·unfold HK0 at hk;rw[if_neg h78]at hk;cases hk
def isTR:Option (AV×RH)->Bool
 | some (.sc (.bool b),_)=>b
 | _=>false
theorem Qdc:isTR (Qcd phS FT HRs 1000 9 [] (0,[]))=true:=by kernel_rfl
theorem Qff:∃ h',X6 FT HKs 1000 9 [] []=some (.sc (.bool true),h'):=by
 have h:=Qdc
 unfold isTR at h
 split at h
 ·rename_i b r hr
  subst h
  obtain⟨k1,k2⟩:=Qcc simS QkP 1000 _ _ _ _ _ (show RH.Ok (0,[]) from rfl) hr
  exact⟨_,k2⟩
 ·cases h
theorem Qht[Base](h:qE Tryz.prog HKs):HkOK Tryz.prog 9 (Zj (.sc (.bool true))):=by
 obtain⟨h',hr⟩:=Qff
 exact Vc yD h (fun β β' c h=>by cases h;exact .bool _) hr
