/- The hooks over which the wakening is reckoned: the field's products and powers,and the test of primes,as contracts know them. -/
import Derived.Test.YtofknpknogfijaaGreatDoorPR2
import Derived.Test.YtofknpknogfijaaGreatDoorAb49
import Derived.Test.YtofknpknogfijaaGreatDoorAb49
import Derived.Shelf.LaysM
import Derived.Shelf.Spec.TrailingZeros
import Derived.Shelf.Strconv.Itoa3
import Derived.Test.YtofknpknogfijaaGreatDoorProg
import Derived.Test.YtofknpknogfijaaGreatDoorW2
import Derived.Test.YtofknpknogfijaaGreatDoorAb32
namespace Go.Proofs.YtofknpknogfijaaGreatDoor
open Go.Ab
set_option linter.unusedVariables false
def okW (a:Int):Prop:=0≤a∧a < 18446744073709551616
instance (a:Int):Decidable (okW a):=by unfold okW;exact inferInstance
def Jj:Xc:=fun args h=>match args with
  | [.agg [.int .u64 p,.int .u64 g],.sc (.int .u64 a),.sc (.int .u64 b)]=>if 0 < p∧okW p∧okW g∧okW a∧okW b then frc (a.toNat*b.toNat%p.toNat) fun r=>some (.sc (.int .u64 (r:Nat)),h) else none
  | _=>none
def Ji:Xc:=fun args h=>match args with
  | [.agg [.int .u64 p,.int .u64 g],.sc (.int .u64 a),.sc (.int .u64 b)]=>if 0 < p∧okW p∧okW g∧okW a∧okW b then frc (YK p.toNat 64 1 a.toNat b.toNat) fun r=>some (.sc (.int .u64 (r:Nat)),h) else none
  | _=>none
def qe:Xc:=fun args h=>match args with
  | [.sc (.int .u64 n)]=>if 2 < n∧okW n then some (.sc (.bool (prM n.toNat)),h) else none
  | _=>none
def Js:Xc:=fun args h=>match args with
  | [.agg [.int .u64 p,.int .u64 g],.sc (.int .u64 a),.sc (.int .u64 b)]=>if p < 9223372036854775808∧0≤a∧a < p∧0≤b∧b < p∧okW g then frc (adM p.toNat a.toNat b.toNat) fun r=>some (.sc (.int .u64 (r:Nat)),h) else none
  | _=>none
def Ja:Xc:=fun args h=>match args with
  | [.agg [.int .u64 p,.int .u64 g],.sc (.int .u64 a),.sc (.int .u64 b)]=>if p < 9223372036854775808∧0≤a∧a < p∧0≤b∧b≤p∧okW g then frc (sbM p.toNat a.toNat b.toNat) fun r=>some (.sc (.int .u64 (r:Nat)),h) else none
  | _=>none
def qf:Xc:=fun args h=>match args with
  | [.agg [.int .u64 p,.int .u64 g],.sc (.int .i64 x)]=>if p < 9223372036854775808∧okW p∧okW g∧(x.natAbs:Int) < p then frc (ofM p.toNat x) fun r=>some (.sc (.int .u64 (r:Nat)),h) else none
  | _=>none
def Jl:Xc:=fun args h=>match args with
  | [.agg [.int .u64 p,.int .u64 g],.sc (.int .u64 a)]=>if 2≤p∧okW p∧okW g∧okW a then frc (XR p.toNat a.toNat) fun r=>some (.sc (.int .u64 (r:Nat)),h) else none
  | _=>none
def HKs:FuncId→Option Xc:=fun f=>if f=43 then some Z5 else if f=129 then some Js else if f=122 then some Ja else if f=99 then some qf else if f=121 then some Jl else if f=98 then some Jj else if f=119 then some Ji else if f=118 then some qe else HK0 f
theorem UM {a:Int} (h:okW a):(SV.int .u64 a)=SV.int .u64 ((a.toNat:Nat):Int):=by unfold okW at h;rw [show ((a.toNat:Nat):Int)=a by omega]
theorem QiZ [Base] [HB] (hk:J1 Tryz.prog HKt):HkOK Tryz.prog 98 Jj:=by
  refine Yk qY hk (by kernel_rfl) fun args h v h1 hs=>?_
  unfold Jj at hs
  split at hs
  · rename_i p g a b
    split at hs
    · rename_i hc
      obtain ⟨c1,c2,c3,c4,c5⟩:=hc
      rw [Yl] at hs
      simp only [Option.some.injEq,Prod.mk.injEq] at hs
      obtain ⟨rfl,rfl⟩:=hs
      have q2:=UM c2
      have q3:=UM c3
      have q4:=UM c4
      have q5:=UM c5
      unfold okW at c2 c3 c4 c5
      obtain ⟨r,h',k1,k2,rfl⟩:=Y5 [] p.toNat g.toNat a.toNat b.toNat ⟨by omega,by omega⟩ (by omega) (by omega)
      rw [q2,q3,q4,q5]
      exact ⟨rfl,rfl,_,h',rfl,rfl,k1⟩
    · cases hs
  · cases hs
theorem QjY [Base] [HB] (hk:J1 Tryz.prog HKt):HkOK Tryz.prog 129 Js:=by
  refine Yk qY hk (by kernel_rfl) fun args h v h1 hs=>?_
  unfold Js at hs
  split at hs
  · rename_i p g a b
    split at hs
    · rename_i hc
      obtain ⟨c1,c2,c3,c4,c5,c6⟩:=hc
      rw [Yl] at hs
      simp only [Option.some.injEq,Prod.mk.injEq] at hs
      obtain ⟨rfl,rfl⟩:=hs
      unfold okW at *
      have qp:SV.int .u64 p=SV.int .u64 ((p.toNat:Nat):Int):=by rw [show ((p.toNat:Nat):Int)=p by omega]
      have qg:SV.int .u64 g=SV.int .u64 ((g.toNat:Nat):Int):=by rw [show ((g.toNat:Nat):Int)=g by omega]
      have qa:SV.int .u64 a=SV.int .u64 ((a.toNat:Nat):Int):=by rw [show ((a.toNat:Nat):Int)=a by omega]
      have qb:SV.int .u64 b=SV.int .u64 ((b.toNat:Nat):Int):=by rw [show ((b.toNat:Nat):Int)=b by omega]
      rw [qp,qg,qa,qb]
      obtain ⟨r,h',k1,k2,rfl⟩:=Vs [] p.toNat g.toNat a.toNat b.toNat (by omega) (by omega) (by omega)
      exact ⟨rfl,rfl,_,h',rfl,rfl,k1⟩
    · cases hs
  · cases hs
theorem Qit [Base] [HB] (hk:J1 Tryz.prog HKt):HkOK Tryz.prog 122 Ja:=by
  refine Yk qY hk (by kernel_rfl) fun args h v h1 hs=>?_
  unfold Ja at hs
  split at hs
  · rename_i p g a b
    split at hs
    · rename_i hc
      obtain ⟨c1,c2,c3,c4,c5,c6⟩:=hc
      rw [Yl] at hs
      simp only [Option.some.injEq,Prod.mk.injEq] at hs
      obtain ⟨rfl,rfl⟩:=hs
      unfold okW at *
      have qp:SV.int .u64 p=SV.int .u64 ((p.toNat:Nat):Int):=by rw [show ((p.toNat:Nat):Int)=p by omega]
      have qg:SV.int .u64 g=SV.int .u64 ((g.toNat:Nat):Int):=by rw [show ((g.toNat:Nat):Int)=g by omega]
      have qa:SV.int .u64 a=SV.int .u64 ((a.toNat:Nat):Int):=by rw [show ((a.toNat:Nat):Int)=a by omega]
      have qb:SV.int .u64 b=SV.int .u64 ((b.toNat:Nat):Int):=by rw [show ((b.toNat:Nat):Int)=b by omega]
      rw [qp,qg,qa,qb]
      obtain ⟨r,h',k1,k2,rfl⟩:=zi [] p.toNat g.toNat a.toNat b.toNat (by omega) (by omega) (by omega)
      exact ⟨rfl,rfl,_,h',rfl,rfl,k1⟩
    · cases hs
  · cases hs
theorem of_ok [Base] [HB] (hk:J1 Tryz.prog HKt):HkOK Tryz.prog 99 qf:=by
  refine Yk qY hk (by kernel_rfl) fun args h v h1 hs=>?_
  unfold qf at hs
  split at hs
  · rename_i p g x
    split at hs
    · rename_i hc
      obtain ⟨c1,c2,c3,c4⟩:=hc
      rw [Yl] at hs
      simp only [Option.some.injEq,Prod.mk.injEq] at hs
      obtain ⟨rfl,rfl⟩:=hs
      unfold okW at *
      have qp:SV.int .u64 p=SV.int .u64 ((p.toNat:Nat):Int):=by rw [show ((p.toNat:Nat):Int)=p by omega]
      have qg:SV.int .u64 g=SV.int .u64 ((g.toNat:Nat):Int):=by rw [show ((g.toNat:Nat):Int)=g by omega]
      rw [qp,qg]
      obtain ⟨r,h',k1,k2,rfl⟩:=Qa7 [] p.toNat g.toNat x (by omega) (by omega)
      exact ⟨rfl,rfl,_,h',rfl,rfl,k1⟩
    · cases hs
  · cases hs
theorem Qjh [Base] [HB] (hk:J1 Tryz.prog HKt):HkOK Tryz.prog 121 Jl:=by
  refine Yk qY hk (by kernel_rfl) fun args h v h1 hs=>?_
  unfold Jl at hs
  split at hs
  · rename_i p g a
    split at hs
    · rename_i hc
      obtain ⟨c1,c2,c3,c4⟩:=hc
      rw [Yl] at hs
      simp only [Option.some.injEq,Prod.mk.injEq] at hs
      obtain ⟨rfl,rfl⟩:=hs
      unfold okW at *
      have qp:SV.int .u64 p=SV.int .u64 ((p.toNat:Nat):Int):=by rw [show ((p.toNat:Nat):Int)=p by omega]
      have qg:SV.int .u64 g=SV.int .u64 ((g.toNat:Nat):Int):=by rw [show ((g.toNat:Nat):Int)=g by omega]
      have qa:SV.int .u64 a=SV.int .u64 ((a.toNat:Nat):Int):=by rw [show ((a.toNat:Nat):Int)=a by omega]
      rw [qp,qg,qa]
      obtain ⟨r,h',k1,k2,rfl⟩:=zj [] p.toNat g.toNat a.toNat ⟨by omega,by omega⟩ (by omega)
      exact ⟨rfl,rfl,_,h',rfl,rfl,k1⟩
    · cases hs
  · cases hs
theorem QiQ [Base] [HB] (hk:J1 Tryz.prog HKt):HkOK Tryz.prog 119 Ji:=by
  refine Yk qY hk (by kernel_rfl) fun args h v h1 hs=>?_
  unfold Ji at hs
  split at hs
  · rename_i p g a b
    split at hs
    · rename_i hc
      obtain ⟨c1,c2,c3,c4,c5⟩:=hc
      rw [Yl] at hs
      simp only [Option.some.injEq,Prod.mk.injEq] at hs
      obtain ⟨rfl,rfl⟩:=hs
      have q2:=UM c2
      have q3:=UM c3
      have q4:=UM c4
      have q5:=UM c5
      unfold okW at c2 c3 c4 c5
      obtain ⟨r,h',k1,k2,rfl⟩:=yh [] p.toNat g.toNat a.toNat b.toNat ⟨by omega,by omega⟩ (by omega) (by omega)
      rw [q2,q3,q4,q5]
      exact ⟨rfl,rfl,_,h',rfl,rfl,k1⟩
    · cases hs
  · cases hs
theorem pr_ok [Base] [HB] (hk:J1 Tryz.prog HKt):HkOK Tryz.prog 118 qe:=by
  refine Yk qY hk (by kernel_rfl) fun args h v h1 hs=>?_
  unfold qe at hs
  split at hs
  · rename_i n
    split at hs
    · rename_i hc
      obtain ⟨c1,c2⟩:=hc
      simp only [Option.some.injEq,Prod.mk.injEq] at hs
      obtain ⟨rfl,rfl⟩:=hs
      have q2:=UM c2
      unfold okW at c2
      obtain ⟨r,h',k1,k2,rfl⟩:=Qcb [] n.toNat ⟨by omega,by omega⟩
      rw [q2]
      exact ⟨rfl,rfl,_,h',rfl,rfl,k1⟩
    · cases hs
  · cases hs
def phS:FuncId→Bool:=fun f=>f == 98 || f == 119 || f == 118 || f == 129 || f == 122 || f == 99 || f == 121
theorem QiS:Qfy phS HKs:=by
  intro f hf
  unfold phS at hf
  simp only [Bool.or_eq_true,beq_iff_eq] at hf
  have key:∀ (b:Bool) (n:Nat) (x:Nat→AV) (h:Qa) (r:AV × Qa) (c:Prop) [Decidable c],(if c then frc n (fun r=>some (x r,h)) else none)=some r→r.2=h:=by
    intro b n x h r c _ e
    split at e
    · rw [Yl] at e;cases e;rfl
    · cases e
  rcases hf with (((((rfl | rfl) | rfl) | rfl) | rfl) | rfl) | rfl
  · refine ⟨Jj,rfl,fun args h r e=>?_⟩
    unfold Jj at e
    split at e
    · exact key true _ _ _ _ _ e
    · cases e
  · refine ⟨Ji,rfl,fun args h r e=>?_⟩
    unfold Ji at e
    split at e
    · exact key true _ _ _ _ _ e
    · cases e
  · refine ⟨qe,rfl,fun args h r e=>?_⟩
    unfold qe at e
    split at e
    · split at e
      · cases e;rfl
      · cases e
    · cases e
  · refine ⟨Js,rfl,fun args h r e=>?_⟩
    unfold Js at e
    split at e
    · exact key true _ _ _ _ _ e
    · cases e
  · refine ⟨Ja,rfl,fun args h r e=>?_⟩
    unfold Ja at e
    split at e
    · exact key true _ _ _ _ _ e
    · cases e
  · refine ⟨qf,rfl,fun args h r e=>?_⟩
    unfold qf at e
    split at e
    · exact key true _ _ _ _ _ e
    · cases e
  · refine ⟨Jl,rfl,fun args h r e=>?_⟩
    unfold Jl at e
    split at e
    · exact key true _ _ _ _ _ e
    · cases e
end Go.Proofs.YtofknpknogfijaaGreatDoor


namespace Go.Proofs.YtofknpknogfijaaGreatDoor
open Go.Ab
set_option linter.unusedVariables false
set_option maxRecDepth 100000
def HRs:FuncId→Option UK:=fun f=>if f=78 then some (ccR 77) else (HKs f).map QbZ
def Blind (g:Xc):Prop:=∀ args v h1 h,g args []=some (v,h1)→g args h=some (v,h)
theorem Blind.sim {g:Xc} (b:Blind g) {args:List AV} {r r':RH} {v:AV} (o:r.Ok) (h:QbZ g args r=some (v,r')):r'.Ok∧g args r.h=some (v,r'.h):=by
  unfold QbZ at h
  rw [Option.map_eq_some_iff] at h
  obtain ⟨⟨v2,h2⟩,e1,e2⟩:=h
  cases e2
  exact ⟨o,b _ _ _ _ e1⟩
theorem Zu {n:Nat} {x:Nat→AV} {c:Prop} [Decidable c] {v:AV} {h1 h:Qa} (e:(if c then frc n (fun r=>some (x r,([]:Qa))) else none)=some (v,h1)):(if c then frc n (fun r=>some (x r,h)) else none)=some (v,h):=by
  split at e
  · rename_i hc
    rw [Yl] at e
    cases e
    rw [if_pos hc,Yl]
  · cases e
theorem QjR:Blind Jj:=fun args v h1 h e=>by
  unfold Jj at e ⊢
  split at e
  · exact Zu e
  · cases e
theorem QjQ:Blind Ji:=fun args v h1 h e=>by
  unfold Ji at e ⊢
  split at e
  · exact Zu e
  · cases e
theorem QjT:Blind Js:=fun args v h1 h e=>by
  unfold Js at e ⊢
  split at e
  · exact Zu e
  · cases e
theorem QjP:Blind Ja:=fun args v h1 h e=>by
  unfold Ja at e ⊢
  split at e
  · exact Zu e
  · cases e
theorem bl_of:Blind qf:=fun args v h1 h e=>by
  unfold qf at e ⊢
  split at e
  · exact Zu e
  · cases e
theorem QjS:Blind Jl:=fun args v h1 h e=>by
  unfold Jl at e ⊢
  split at e
  · exact Zu e
  · cases e
theorem bl_pr:Blind qe:=fun args v h1 h e=>by
  unfold qe at e ⊢
  split at e
  · split at e
    · rename_i hc;cases e;rw [if_pos hc]
    · cases e
  · cases e
theorem Qg6:Blind Z5:=fun args v h1 h e=>by
  unfold Z5 at e ⊢
  split at e
  · split at e
    · rename_i hc;cases e;rw [if_pos hc]
    · cases e
  · cases e
theorem simS:QhZ HRs HKs:=fun f=>by
  by_cases h78:f=78
  · subst h78
    exact ⟨qu 77,rfl,fun args r v r' o h=>Qjp o h⟩
  · have e:HRs f=(HKs f).map QbZ:=by unfold HRs;rw [if_neg h78]
    rw [e]
    cases hk:HKs f with
    | none=>rfl
    | some g =>
      refine ⟨g,rfl,fun args r v r' o h=>Blind.sim ?_ o h⟩
      unfold HKs at hk
      split at hk
      · cases hk;exact Qg6
      split at hk
      · cases hk;exact QjT
      split at hk
      · cases hk;exact QjP
      split at hk
      · cases hk;exact bl_of
      split at hk
      · cases hk;exact QjS
      split at hk
      · cases hk;exact QjR
      split at hk
      · cases hk;exact QjQ
      split at hk
      · cases hk;exact bl_pr
      · unfold HK0 at hk;rw [if_neg h78] at hk;cases hk
def isTR:Option (AV × RH)→Bool
  | some (.sc (.bool b),_)=>b
  | _=>false
theorem Qbd:isTR (Qav phS FT HRs 1000 9 [] (0,[]))=true:=by kernel_rfl
theorem Qde:∃ h',XY FT HKs 1000 9 [] []=some (.sc (.bool true),h'):=by
  have h:=Qbd
  unfold isTR at h
  split at h
  · rename_i b r hr
    subst h
    obtain ⟨k1,k2⟩:=Qau simS QiS 1000 _ _ _ _ _ (show RH.Ok (0,[]) from rfl) hr
    exact ⟨_,k2⟩
  · cases h
theorem Qfj [Base] (h:J1 Tryz.prog HKs):HkOK Tryz.prog 9 (Zc (.sc (.bool true))):=by
  obtain ⟨h',hr⟩:=Qde
  exact zZ qY h (fun β β' c h=>by cases h;exact .bool _) hr
end Go.Proofs.YtofknpknogfijaaGreatDoor



namespace Go.Proofs.YtofknpknogfijaaGreatDoor
open Go.Shelf
def U8:Go.Shelf.Ren:=⟨fun | 171=>43 | 243=>79 | 246=>110 | 283=>132 | 284=>133 | 285=>134 | 286=>135 | 129=>139 | 317=>142 | 318=>143 | 319=>144 | 320=>145 | 337=>155 | 338=>138 | n=>n,fun | 3=>3 | 9=>9 | 2=>2 | 4=>4 | 171=>182 | 0=>0 | 53=>99 | 37=>75 | 5=>5 | 173=>184 | 212=>193 | 51=>190 | 20=>20 | 213=>194 | 46=>159 | 232=>209 | 233=>202 | n=>n,fun | 17=>2 | 18=>4 | 19=>3 | n=>n⟩
theorem Qec:Go.Proofs.LaysM.n171 Tryz.prog U8:={
  mixed:=by kernel_rfl
  f129:=Tryz.func139.trans (congrArg some (by kernel_rfl))
  f171:=Tryz.func43.trans (congrArg some (by kernel_rfl))
  f243:=Tryz.func79.trans (congrArg some (by kernel_rfl))
  f246:=Tryz.func110.trans (congrArg some (by kernel_rfl))
  f283:=Tryz.func132.trans (congrArg some (by kernel_rfl))
  f284:=Tryz.func133.trans (congrArg some (by kernel_rfl))
  f285:=Tryz.func134.trans (congrArg some (by kernel_rfl))
  f286:=Tryz.func135.trans (congrArg some (by kernel_rfl))
  f317:=Tryz.func142.trans (congrArg some (by kernel_rfl))
  f318:=Tryz.func143.trans (congrArg some (by kernel_rfl))
  f319:=Tryz.func144.trans (congrArg some (by kernel_rfl))
  f320:=Tryz.func145.trans (congrArg some (by kernel_rfl))
  f337:=Tryz.func155.trans (congrArg some (by kernel_rfl))
  f338:=Tryz.func138.trans (congrArg some (by kernel_rfl))
  t0:=Tryz.underlying0
  a0:=Tryz.isAgg0
  z0:=Tryz.sizeOf0
  v0:=Tryz.zeroValue0
  t2:=Tryz.underlying2
  a2:=Tryz.isAgg2
  z2:=Tryz.sizeOf2
  v2:=Tryz.zeroValue2
  t3:=Tryz.underlying3
  a3:=Tryz.isAgg3
  z3:=Tryz.sizeOf3
  v3:=Tryz.zeroValue3
  t4:=Tryz.underlying4
  a4:=Tryz.isAgg4
  z4:=Tryz.sizeOf4
  v4:=Tryz.zeroValue4
  t5:=Tryz.underlying5
  a5:=Tryz.isAgg5
  z5:=Tryz.sizeOf5
  v5:=Tryz.zeroValue5
  t9:=Tryz.underlying9
  a9:=Tryz.isAgg9
  z9:=Tryz.sizeOf9
  v9:=Tryz.zeroValue9
  t20:=Tryz.underlying20
  a20:=Tryz.isAgg20
  z20:=Tryz.sizeOf20
  v20:=Tryz.zeroValue20
  t37:=Tryz.underlying75
  a37:=Tryz.isAgg75
  z37:=Tryz.sizeOf75
  v37:=Tryz.zeroValue75
  t46:=Tryz.underlying159
  a46:=Tryz.isAgg159
  z46:=Tryz.sizeOf159
  v46:=Tryz.zeroValue159
  t51:=Tryz.underlying190
  a51:=Tryz.isAgg190
  z51:=Tryz.sizeOf190
  v51:=Tryz.zeroValue190
  t53:=Tryz.underlying99
  a53:=Tryz.isAgg99
  z53:=Tryz.sizeOf99
  v53:=Tryz.zeroValue99
  t171:=Tryz.underlying182
  a171:=Tryz.isAgg182
  z171:=Tryz.sizeOf182
  v171:=Tryz.zeroValue182
  t173:=Tryz.underlying184
  a173:=Tryz.isAgg184
  z173:=Tryz.sizeOf184
  v173:=Tryz.zeroValue184
  t212:=Tryz.underlying193
  a212:=Tryz.isAgg193
  z212:=Tryz.sizeOf193
  v212:=Tryz.zeroValue193
  t213:=Tryz.underlying194
  a213:=Tryz.isAgg194
  z213:=Tryz.sizeOf194
  t232:=Tryz.underlying209
  a232:=Tryz.isAgg209
  z232:=Tryz.sizeOf209
  v232:=Tryz.zeroValue209
  t233:=Tryz.underlying202
  a233:=Tryz.isAgg202
  z233:=Tryz.sizeOf202
  v233:=Tryz.zeroValue202
  g17:=by kernel_rfl
  g18:=by kernel_rfl
  g19:=by kernel_rfl
  i0:=by kernel_rfl
  i2:=by kernel_rfl
  i3:=by kernel_rfl
  i4:=by kernel_rfl
  i5:=by kernel_rfl
  i9:=by kernel_rfl
  i20:=by kernel_rfl
  i37:=by kernel_rfl
  i46:=by kernel_rfl
  i51:=by kernel_rfl
  i53:=by kernel_rfl
  i171:=by kernel_rfl
  i173:=by kernel_rfl
  i212:=by kernel_rfl
  i232:=by kernel_rfl
  i233:=by kernel_rfl
  m17:=by kernel_rfl
  m18:=by kernel_rfl
  m19:=by kernel_rfl }
open Go.RowKit Go.Sort Go.Lib in
theorem strconv_Itoa (n:Int) (h0 : -9223372036854775808≤n) (h1:n≤9223372036854775807) (w:World) (htab:Lib.TabIs Tryz.prog w "internal/strconv.uint64pow10" .u64 Lib.pow10Tab) :
    Calls Tryz.prog 43 #[.int .i64 n] w fun e w'=>e=.returned (.string ⟨(Lib.itoa n).toArray⟩)∧∃ k os,w'=grow (w.drewN k) os:=Any.strconv_Itoa Qec n h0 h1 w htab
def U9:Go.Shelf.Ren:=⟨fun | 29=>138 | n=>n,fun | 0=>0 | 3=>3 | 4=>4 | 5=>5 | 22=>99 | 25=>159 | 54=>202 | n=>n,fun | 1=>3 | n=>n⟩
theorem Qed:Go.Proofs.Lays7.n29 Tryz.prog U9:={
  mixed:=by kernel_rfl
  f29:=Tryz.func138.trans (congrArg some (by kernel_rfl))
  t0:=Tryz.underlying0
  a0:=Tryz.isAgg0
  z0:=Tryz.sizeOf0
  v0:=Tryz.zeroValue0
  i0:=by kernel_rfl
  t3:=Tryz.underlying3
  a3:=Tryz.isAgg3
  z3:=Tryz.sizeOf3
  v3:=Tryz.zeroValue3
  i3:=by kernel_rfl
  t4:=Tryz.underlying4
  a4:=Tryz.isAgg4
  z4:=Tryz.sizeOf4
  v4:=Tryz.zeroValue4
  i4:=by kernel_rfl
  t5:=Tryz.underlying5
  a5:=Tryz.isAgg5
  z5:=Tryz.sizeOf5
  v5:=Tryz.zeroValue5
  i5:=by kernel_rfl
  t22:=Tryz.underlying99
  a22:=Tryz.isAgg99
  z22:=Tryz.sizeOf99
  v22:=Tryz.zeroValue99
  i22:=by kernel_rfl
  t25:=Tryz.underlying159
  a25:=Tryz.isAgg159
  z25:=Tryz.sizeOf159
  v25:=Tryz.zeroValue159
  i25:=by kernel_rfl
  t54:=Tryz.underlying202
  a54:=Tryz.isAgg202
  z54:=Tryz.sizeOf202
  g1:=by kernel_rfl }
theorem bits_TrailingZeros64 (x:Nat) (hx:x < 18446744073709551616) (w:World) (hT:x≠0→TabAt 3 Lib.deBruijn64tab w) :
    Calls Tryz.prog 138 #[.int .u64 x] w fun e w'=>e=.returned (.int .i64 (Lib.ctz 64 x))∧w'=w:=Any7.bits_TrailingZeros64 Qed x hx w hT
end Go.Proofs.YtofknpknogfijaaGreatDoor


/- The hooks are sound,in every world that holds what the row lists. -/
namespace Go.Proofs.YtofknpknogfijaaGreatDoor
open Go.Ab
set_option linter.unusedVariables false
def Qct:List Int:=List.map (fun n:Nat=>(n:Int)) Lib.deBruijn64tab
structure Facts (W:World):Prop where
  pow:Lib.TabIs Tryz.prog W "internal/strconv.uint64pow10" .u64 Lib.pow10Tab
  deb:Lib.TabIs Tryz.prog W "math/bits.deBruijn64tab" .u8 Qct
abbrev BW (W:World):Base:=⟨W.heap.size,W⟩
theorem Qir {w:World} (h:Lib.TabIs Tryz.prog w "math/bits.deBruijn64tab" .u8 Qct):TabAt 3 Lib.deBruijn64tab w:=fun j hj=>by
  have:=h.cell (g:=3) (by kernel_rfl) j (by unfold Qct;rw [List.length_map];exact hj)
  rw [this]
  congr 2
  unfold Qct
  rw [List.getD_eq_getElem?_getD,List.getD_eq_getElem?_getD,List.getElem?_map]
  cases Lib.deBruijn64tab[j]? <;> rfl
theorem Qcq [Base] (hg:3 < Base.B) (htab:Lib.TabIs Tryz.prog Base.W "math/bits.deBruijn64tab" .u8 Qct):HkOK Tryz.prog 138 J7 where
  fn:=by kernel_rfl
  len:=fun args h v h' hs=>by
    unfold J7 at hs
    split at hs
    · split at hs
      · rw [Yl] at hs;simp only [Option.some.injEq,Prod.mk.injEq] at hs;rw [← hs.2];exact Nat.le_refl _
      · simp at hs
    · simp at hs
  run:=fun args h v h' hs β w vs hvs R hf=>by
    unfold J7 at hs
    split at hs
    · rename_i a
      split at hs
      · rename_i hp
        rw [Yl] at hs
        simp only [Option.some.injEq,Prod.mk.injEq] at hs
        obtain ⟨rfl,rfl⟩:=hs
        cases hvs with
        | cons k1 hvs =>
          cases hvs
          cases k1 with
          | sc k1 =>
            cases k1
            have e:a=((a.toNat:Nat):Int):=by omega
            have hw:=Qir ((R.var (by kernel_rfl) hg).trans htab)
            have hc:=bits_TrailingZeros64 a.toNat (by omega) w fun _=>hw
            rw [← e] at hc
            refine hc.mono ?_
            rintro e w' ⟨rfl,rfl⟩
            exact ⟨β,_,rfl,.sc (.int _ _),Stp.refl _ _ _,R⟩
      · simp at hs
    · simp at hs
section
variable (W:World) (hF:Facts W)
include hF
theorem U0:@HkOK (BW W) Tryz.prog 43 ZC:=by
  letI:Base:=BW W
  exact Qab (g:=2) (nm := "internal/strconv.uint64pow10") (by kernel_rfl) (Uv (by kernel_rfl) hF.pow) (by kernel_rfl) hF.pow fun n h1 h2 w h3=>strconv_Itoa n h1 h2 w h3
theorem Qhr:@HkOK (BW W) Tryz.prog 138 J7:=by
  letI:Base:=BW W
  exact Qcq (Uv (by kernel_rfl) hF.deb) hF.deb
theorem qy:@J1 (BW W) Tryz.prog (@HKt ⟨false⟩):=by
  letI:Base:=BW W
  intro f g h
  unfold HKt at h
  split at h
  · rename_i hf;simp only [Option.some.injEq] at h;subst hf h;exact U0 W hF
  split at h
  · rename_i hf;simp only [Option.some.injEq] at h;subst hf h;exact Qhr W hF
  split at h
  · cases h
  · exact Qbj f g h
theorem QkB:@J1 (BW W) Tryz.prog HKs:=by
  letI:Base:=BW W
  letI:HB:=⟨false⟩
  intro f g h
  unfold HKs at h
  split at h
  · rename_i hf;simp only [Option.some.injEq] at h;subst hf h;exact (U0 W hF).less zV
  split at h
  · rename_i hf;simp only [Option.some.injEq] at h;subst hf h;exact QjY (qy W hF)
  split at h
  · rename_i hf;simp only [Option.some.injEq] at h;subst hf h;exact Qit (qy W hF)
  split at h
  · rename_i hf;simp only [Option.some.injEq] at h;subst hf h;exact of_ok (qy W hF)
  split at h
  · rename_i hf;simp only [Option.some.injEq] at h;subst hf h;exact Qjh (qy W hF)
  split at h
  · rename_i hf;simp only [Option.some.injEq] at h;subst hf h;exact QiZ (qy W hF)
  split at h
  · rename_i hf;simp only [Option.some.injEq] at h;subst hf h;exact QiQ (qy W hF)
  split at h
  · rename_i hf;simp only [Option.some.injEq] at h;subst hf h;exact pr_ok (qy W hF)
  · exact Qbj f g h
theorem QkA:@J1 (BW W) Tryz.prog (@HKt ⟨true⟩):=by
  letI:Base:=BW W
  intro f g h
  unfold HKt at h
  split at h
  · rename_i hf;simp only [Option.some.injEq] at h;subst hf h;exact U0 W hF
  split at h
  · rename_i hf;simp only [Option.some.injEq] at h;subst hf h;exact Qhr W hF
  split at h
  · rename_i hf
    replace h:some (Zc (.sc (.bool true)))=some g:=h
    simp only [Option.some.injEq] at h
    subst hf h
    exact Qfj (QkB W hF)
  · exact Qbj f g h
end
end Go.Proofs.YtofknpknogfijaaGreatDoor


