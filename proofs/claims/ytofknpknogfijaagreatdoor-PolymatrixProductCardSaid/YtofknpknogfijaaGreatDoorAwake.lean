/- The wakening says true. -/
import Derived.Test.YtofknpknogfijaaGreatDoorPR2
namespace Go.Proofs.YtofknpknogfijaaGreatDoor
open Go.Ab
set_option linter.all false
set_option maxRecDepth 100000
def HRs:FuncId->Option Qas:=fun f=>if f=78 then some (ccR 77) else (HKs f).map Qep
def Blind(g:Xq):Prop:=∀ args v h1 h,g args []=some (v,h1)->g args h=some (v,h)
theorem Blind.sim{g:Xq}(b:Blind g){args:List AV}{r r':RH}{v:AV}(o:r.Ok)(h:Qep g args r=some (v,r')):r'.Ok/\g args r.h=some (v,r'.h):=by
 unfold Qep at h
 rw[Gc]at h
 obtain⟨⟨v2,h2⟩,e1,e2⟩:=h
 cases e2
 exact⟨o,b _ _ _ _ e1⟩
theorem ZK{n:Nat}{x:Nat->AV}{c:Prop}[Decidable c]{v:AV}{h1 h:Qa}(e:(if c then frc n (fun r=>some (x r,([]:Qa))) else none)=some (v,h1)):(if c then frc n (fun r=>some (x r,h)) else none)=some (v,h):=by
 split at e
 ·rename_i hc
  rw[Yu]at e
  cases e
  rw[if_pos hc,Yu]
 ·cases e
theorem QoX:Blind JC:=fun args v h1 h e=>by
 unfold JC at e ⊢
 split at e
 ·exact ZK e
 ·cases e
theorem QoW:Blind Jz:=fun args v h1 h e=>by
 unfold Jz at e ⊢
 split at e
 ·exact ZK e
 ·cases e
theorem QoZ:Blind JO:=fun args v h1 h e=>by
 unfold JO at e ⊢
 split at e
 ·exact ZK e
 ·cases e
theorem QoV:Blind Js:=fun args v h1 h e=>by
 unfold Js at e ⊢
 split at e
 ·exact ZK e
 ·cases e
theorem bl_of:Blind qR:=fun args v h1 h e=>by
 unfold qR at e ⊢
 split at e
 ·exact ZK e
 ·cases e
theorem QoY:Blind JI:=fun args v h1 h e=>by
 unfold JI at e ⊢
 split at e
 ·exact ZK e
 ·cases e
theorem bl_pr:Blind qQ:=fun args v h1 h e=>by
 unfold qQ at e ⊢
 split at e
 ·split at e
  ·rename_i hc;cases e;rw[if_pos hc]
  ·cases e
 ·cases e
theorem Qlh:Blind Jl:=fun args v h1 h e=>by
 unfold Jl at e ⊢
 split at e
 ·split at e
  ·rename_i hc;cases e;rw[if_pos hc]
  ·cases e
 ·cases e
theorem simS:QmG HRs HKs:=fun f=>by
 by_cases h78:f=78
 ·subst h78
  exact⟨ZR 77,rfl,fun args r v r' o h=>Qok o h⟩
 ·have e:HRs f=(HKs f).map Qep:=by unfold HRs;rw[if_neg h78]
  rw[e]
  cases hk:HKs f with
  | none=>rfl
  | some g =>
   refine⟨g,rfl,fun args r v r' o h=>Blind.sim ?_ o h⟩
   unfold HKs at hk
   split at hk
   ·cases hk;exact Qlh
   split at hk
   ·cases hk;exact QoZ
   split at hk
   ·cases hk;exact QoV
   split at hk
   ·cases hk;exact bl_of
   split at hk
   ·cases hk;exact QoY
   split at hk
   ·cases hk;exact QoX
   split at hk
   ·cases hk;exact QoW
   split at hk
   ·cases hk;exact bl_pr
   ·unfold HK0 at hk;rw[if_neg h78]at hk;cases hk
def isTR:Option (AV×RH)->Bool
 | some (.sc (.bool b),_)=>b
 | _=>false
theorem Qds:isTR (QcF phS FT HRs 1000 9 [] (0,[]))=true:=by kernel_rfl
theorem QfY:∃ h',X7 FT HKs 1000 9 [] []=some (.sc (.bool true),h'):=by
 have h:=Qds
 unfold isTR at h
 split at h
 ·rename_i b r hr
  subst h
  obtain⟨k1,k2⟩:=QcE simS QnB 1000 _ _ _ _ _ (show RH.Ok (0,[]) from rfl) hr
  exact⟨_,k2⟩
 ·cases h
theorem QiS[Base](h:qz Tryz.prog HKs):HkOK Tryz.prog 9 (Zh (.sc (.bool true))):=by
 obtain⟨h',hr⟩:=QfY
 exact Vx yO h (fun β β' c h=>by cases h;exact .bool _) hr
