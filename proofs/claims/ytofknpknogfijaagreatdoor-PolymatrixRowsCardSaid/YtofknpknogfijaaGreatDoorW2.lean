/- copyCheck;the hooks over which the wakening is reckoned. -/
import Derived.Test.YtofknpknogfijaaGreatDoorCode
import Derived.Test.YtofknpknogfijaaGreatDoorAb34
import Derived.WalkKit
import Derived.Laws.Externs
import Derived.Test.YtofknpknogfijaaGreatDoorAb32
import Derived.Test.YtofknpknogfijaaGreatDoorAb47
import Derived.Test.YtofknpknogfijaaGreatDoorAb46
import Derived.Lib.TrailingZeros
import Derived.Test.YtofknpknogfijaaGreatDoorAb41
import Derived.Test.YtofknpknogfijaaGreatDoorAb29
namespace Go.Proofs.YtofknpknogfijaaGreatDoor
open Go.Ab Go.RowKit
set_option linter.all false
theorem Qj7:(Tryz.prog.info? 77).map (·.size)=some 2:=by kernel_rfl
theorem liesB:liesAt Tryz.prog Tryz.prog.depth 77 (2 / Tryz.prog.cellsOf 77) 0 77 1=true:=by kernel_rfl
set_option maxRecDepth 100000 in
theorem QjD (b:Nat) (w:World) (h0:w.cell? ⟨b,0,none⟩=some (.pointer (some ⟨b,0,none⟩))) :
  Calls Tryz.prog 78 #[.pointer (some ⟨b,0,none⟩)] w fun e w'=>e=.returned (.tuple #[])∧w'=w:=by
 obtain ⟨j,hj,hjs⟩:=Gc.1 Qj7
 go_enter Tryz.func78,Tryz.ntmps78
 go_wp2
 rw [Lib.run_neq_ptr_same w _ Tryz.underlying74 hj]
 go_wp2
 go_end0
 exact ⟨rfl,rfl⟩
set_option maxHeartbeats 1000000 in
set_option maxRecDepth 100000 in
theorem Qmh (b:Nat) (w:World) (h0:w.cell? ⟨b,0,none⟩=some (.pointer none)) (hsh:w.shape? b=some (77,2)) (hfz:w.frozen? ⟨b,0,none⟩=false) :
  Calls Tryz.prog 78 #[.pointer (some ⟨b,0,none⟩)] w fun e w'=>e=.returned (.tuple #[])∧w'=w.setCell ⟨b,0,none⟩ (.pointer (some ⟨b,0,none⟩)):=by
 obtain ⟨j,hj,hjs⟩:=Gc.1 Qj7
 go_enter Tryz.func78,Tryz.ntmps78
 go_wp2
 rw [Lib.run_to_unsafe w ⟨b,0,none⟩ Tryz.underlying74 Tryz.underlying165 hj (by rw [hjs];decide) hsh (Nat.zero_lt_succ 1)]
 simp only [Result.andThen]
 rw [Oper.upon_value]
 go_wp2
 rw [run_callFunc_extern Tryz.func109 (by kernel_rfl) (by kernel_rfl) (by kernel_rfl) (e:=Extern.AbiNoEscape.same) (by kernel_rfl)]
 rw [Lib.run_noEscape]
 simp only [Result.andThen]
 rw [Oper.upon_value]
 go_wp2
 rw [Lib.run_from_unsafe w ⟨b,0,none⟩ Tryz.underlying165 Tryz.underlying74 hj hsh liesB]
 simp only [Result.andThen]
 rw [Oper.upon_value]
 go_wp2
 go_end0
 exact ⟨rfl,rfl⟩
def HK0:FuncId→Option Xj:=fun f=>if f=78 then some (qI 77) else none
theorem QcM [Base]:qd Tryz.prog HK0:=fun f g h=>by
 unfold HK0 at h
 split at h
 ·rename_i hf
  simp only [Option.some.injEq] at h
  subst hf h
  exact Qe3 (by kernel_rfl) QjD Qmh
 ·simp at h
end Go.Proofs.YtofknpknogfijaaGreatDoor
namespace Go.Proofs.YtofknpknogfijaaGreatDoor
open Go.Ab
set_option linter.all false
class HB where
 b:Bool
def qu:Xj:=fun args h=>match args with
 | [.sc (.int .u64 a)]=>if 0≤a∧a < 18446744073709551616 then frc (Lib.ctz 64 a.toNat) fun r=>some (.sc (.int .i64 (r:Nat)),h) else none
 | _=>none
def HKt [HB]:FuncId→Option Xj:=fun f=>if f=43 then some ZA else if f=138 then some qu else if f=9 then (if HB.b then some (Y5 (.sc (.bool true))) else none) else if f=86 then some (JQ 116 135) else if f=85 then some (Y1 116 135) else HK0 f
theorem Qix [HB] {h:Qa} (n:Nat) (hn:n < 18446744073709551616):∃ v h',Cal FT HKt 138 [.sc (.int .u64 (n:Nat))] h v h'∧h'=h∧v=.sc (.int .i64 (Lib.ctz 64 n:Nat)) :=
 ⟨_,_,Cal.hook (g:=qu) rfl (by simp only [qu];rw [if_pos ⟨by omega,by omega⟩,Yn];rfl),rfl,rfl⟩
theorem Qb1 (h:Qa):∃ v h',@Cal FT (@HKt ⟨true⟩) 9 [] h v h'∧v=.sc (.bool true)∧h'=h:=⟨_,_,@Cal.hook FT (@HKt ⟨true⟩) 9 (Y5 (.sc (.bool true))) _ _ _ _ rfl rfl,rfl,rfl⟩
set_option maxHeartbeats 16000000
set_option maxRecDepth 20000
attribute [local irreducible] Ql wA Xr Xp QA QW
variable [HB]
abbrev bz:ESz:=⟨1,some 5⟩
abbrev BL (h0 h:Qa) (B:Nat) (bs:List UInt8):Prop:=Bld 77 bz h0 h B bs
abbrev BLS (h0 h:Qa) (B:Nat) (s:SV) (bs:List UInt8):Prop:=BldS 77 bz h0 h B s bs
structure Kq (h:Qa) (B:Nat) (s:SV) (q:Nat) (c:Blk):Prop where
 at':h[q]?=some c
 ne:q≠B
 no:X1 s q
def BLq (h0 h:Qa) (B:Nat) (bs:List UInt8) (q:Nat) (c:Blk):Prop :=
 ∃ p s,h[B]?=some (.cells [p,s] true ⟨0,some 77⟩)∧(p=.nilP∨p=.ptr B 0)∧h0.length≤B∧OwnZ bz h0 h s (u8s bs)∧X1 s B∧Ext h0 h∧Kq h B s q c
theorem BLq.at {h0 h:Qa} {B:Nat} {bs:List UInt8} {q:Nat} {c:Blk} (hb:BLq h0 h B bs q c):h[q]?=some c:=by
 obtain ⟨p,s,h1,h2,h3,h4,h5,h6,h7⟩:=hb
 exact h7.at'
section
variable {FT:FuncId→Option AFun} {HK:FuncId→Option Xj} {E:Env} {h:Qa} {K:Env→Qa→Prop} {d:Option Nat} {r:List AOp} {x y:AO}
end
end Go.Proofs.YtofknpknogfijaaGreatDoor
namespace Go.Proofs.YtofknpknogfijaaGreatDoor
open Go.Ab
set_option linter.all false
set_option maxHeartbeats 16000000
set_option maxRecDepth 20000
attribute [local irreducible] Ql wA Xr Xp QA Qp QW QY
variable [HB]
def wd (v:Int):List SV:=[.int .u64 (v / 18446744073709551616%18446744073709551616),.int .u64 (v%18446744073709551616)]
theorem Qfg (v:Int):0≤v / 18446744073709551616%18446744073709551616∧v / 18446744073709551616%18446744073709551616 < 18446744073709551616:=by omega
theorem Qk9 (v w:Int):(v / 18446744073709551616%18446744073709551616+w / 18446744073709551616%18446744073709551616+(v%18446744073709551616+w%18446744073709551616+0) / 18446744073709551616)%18446744073709551616=(v+w) / 18446744073709551616%18446744073709551616:=by
 have h:(v+w) / 18446744073709551616=v / 18446744073709551616+w / 18446744073709551616+(v%18446744073709551616+w%18446744073709551616+0) / 18446744073709551616:=by omega
 rw [h]
 generalize v / 18446744073709551616=A
 generalize w / 18446744073709551616=B
 generalize (v%18446744073709551616+w%18446744073709551616+0) / 18446744073709551616=C
 omega
theorem Qk8 (v:Int):(0+18446744073709551616-v / 18446744073709551616%18446744073709551616-(if (0:Int) < v%18446744073709551616+0 then 1 else 0))%18446744073709551616=(-v) / 18446744073709551616%18446744073709551616:=by
 have h:(-v) / 18446744073709551616 = -(v / 18446744073709551616)-(if (0:Int) < v%18446744073709551616+0 then 1 else 0):=by split <;> omega
 rw [h]
 generalize (if (0:Int) < v%18446744073709551616+0 then (1:Int) else 0)=c
 generalize v / 18446744073709551616=A
 omega
theorem QdV (h0:Qa) (v:Int) (hv : -9223372036854775808≤v∧v≤9223372036854775807):∃ r h',Cal FT HKt 101 [.sc (.int .i64 v)] h0 r h'∧r=.sc (.int .u64 (v.natAbs:Int))∧h'=h0:=by
 refine Cal.of (F:=a101) rfl rfl rfl ?_
 by_cases h:v < 0
 ·repeat' (first | refine Qg ?_ | refine Qb ?_ | refine QD ?_ | refine Qt ?_ | refine Qf ?_ | ((refine Qh ?_);refine Qj rfl ?_) | ((refine Qe ?_);first | refine Qq rfl ?_ | refine QE rfl rfl ?_) | ((refine Qc ?_);first | (refine Qgv rfl ?_) | (refine Ql3 rfl ?_) | refine Qo rfl ?_ | refine Qy rfl rfl (by omega) ?_))
  exact ⟨.inr rfl,by rw [show -(v%18446744073709551616)%18446744073709551616=(v.natAbs:Int) by omega];rfl,rfl⟩
 ·repeat' (first | refine Qg ?_ | refine Qb ?_ | refine Qn ?_ | refine Qt ?_ | refine Qf ?_ | ((refine Qh ?_);refine Qk rfl ?_) | ((refine Qe ?_);first | refine Qq rfl ?_ | refine QE rfl rfl ?_) | ((refine Qc ?_);first | (refine Qgv rfl ?_) | refine Qo rfl ?_ | refine QM rfl rfl (by omega) ?_))
  exact ⟨.inr rfl,by rw [show v%18446744073709551616=(v.natAbs:Int) by omega];rfl,rfl⟩
theorem UD {a b:Int} (ha:0≤a∧a < 4294967296) (hb:0≤b∧b < 4294967296):0≤a*b∧a*b≤18446744065119617025:=by
 refine ⟨Hq ha.1 hb.1,?_⟩
 have h1:a*b≤4294967295*b:=GW (by omega) hb.1
 omega
theorem QeM (a b:Int):a*b=a / 4294967296*(b / 4294967296)*18446744073709551616+(a / 4294967296*(b%4294967296)+a%4294967296*(b / 4294967296))*4294967296+a%4294967296*(b%4294967296):=by
 have ea:a=a / 4294967296*4294967296+a%4294967296:=by omega
 have eb:b=b / 4294967296*4294967296+b%4294967296:=by omega
 generalize a / 4294967296=a1 at *
 generalize a%4294967296=a0 at *
 generalize b / 4294967296=b1 at *
 generalize b%4294967296=b0 at *
 subst ea eb
 rw [Int.add_mul,Int.mul_add,Int.mul_add]
 have e1:a1*4294967296*(b1*4294967296)=a1*b1*18446744073709551616:=by
  rw [Hi,Int.mul_left_comm 4294967296 b1,← Hi];omega
 have e2:a1*4294967296*b0=a1*b0*4294967296:=by rw [Int.mul_right_comm]
 have e3:a0*(b1*4294967296)=a0*b1*4294967296:=by rw [Hi]
 rw [e1,e2,e3];omega
theorem QdU (h0:Qa) (a b:Int) (ha:0≤a∧a < 18446744073709551616) (hb:0≤b∧b < 18446744073709551616) :
  ∃ r h',Cal FT HKt 103 [.sc (.int .u64 a),.sc (.int .u64 b)] h0 r h'∧r=.tup [.sc (.int .u64 (a*b / 18446744073709551616)),.sc (.int .u64 (a*b%18446744073709551616))]∧h'=h0:=by
 refine Cal.of (F:=QhZ) rfl rfl rfl ?_
 have a0:0≤a%(2 ^ 32:Nat)∧a%(2 ^ 32:Nat) < 4294967296:=by omega
 have a1:0≤a / (2 ^ 32:Nat)∧a / (2 ^ 32:Nat) < 4294967296:=by omega
 have b0:0≤b%(2 ^ 32:Nat)∧b%(2 ^ 32:Nat) < 4294967296:=by omega
 have b1:0≤b / (2 ^ 32:Nat)∧b / (2 ^ 32:Nat) < 4294967296:=by omega
 have p00:=UD a0 b0
 have p10:=UD a1 b0
 have p01:=UD a0 b1
 have p11:=UD a1 b1
 have hm:=QeM a b
 rw [show (4294967296:Int)=(2 ^ 32:Nat) by rfl] at hm
 have hab:0≤a*b:=Hq ha.1 hb.1
 have hab2:a*b < 340282366920938463463374607431768211456:=by omega
 repeat' (first | refine Qg ?_ | refine Qb ?_ | refine Qt ?_ | refine Qf ?_ | ((refine Qe ?_);first | refine QE rfl rfl ?_ | refine Qu rfl rfl rfl ?_ | refine QG rfl rfl rfl rfl ?_ | refine QU rfl rfl rfl rfl rfl ?_ | refine QT rfl rfl rfl rfl rfl rfl ?_ | refine Xn rfl rfl rfl rfl rfl rfl rfl ?_) | ((refine Qc ?_);first | (refine Qat (q:=32) rfl rfl (by omega) (by omega) rfl ?_) | (refine XN (q:=32) rfl rfl rfl (by omega) ?_) | (refine ZZ rfl rfl (by omega) ?_) | (refine YK rfl rfl (by omega) ?_) | refine Qar rfl rfl ?_ | refine Qo rfl ?_))
 refine ⟨.inr rfl,?_,rfl⟩
 generalize a / (2 ^ 32:Nat)*(b / (2 ^ 32:Nat))=q11 at *
 generalize a / (2 ^ 32:Nat)*(b%(2 ^ 32:Nat))=q10 at *
 generalize a%(2 ^ 32:Nat)*(b / (2 ^ 32:Nat))=q01 at *
 generalize a%(2 ^ 32:Nat)*(b%(2 ^ 32:Nat))=q00 at *
 rw [show a*b / 18446744073709551616=q11+(q10+q00 / (2 ^ 32:Nat)) / (2 ^ 32:Nat)+((q10+q00 / (2 ^ 32:Nat))%(2 ^ 32:Nat)+q01) / (2 ^ 32:Nat) by
  generalize a*b=m at *
  omega]
theorem QdT (h0:Qa) (v:Int):∃ r h',Cal FT HKt 104 [.agg (wd v)] h0 r h'∧Ext h0 h'∧r=.agg (wd (-v)):=by
 refine Cal.of (F:=a104) rfl rfl rfl ?_
 have hh:=Qfg v
 have hl:0≤v%18446744073709551616∧v%18446744073709551616 < 18446744073709551616:=by omega
 have hc:(0:Int)≤(if (0:Int) < v%18446744073709551616+0 then 1 else 0)∧(if (0:Int) < v%18446744073709551616+0 then 1 else 0)≤(1:Int):=by split <;> omega
 unfold wd
 repeat' (first | refine Qg ?_ | refine Qb ?_ | refine Qt ?_ | refine Qf ?_ | ((refine Qe ?_);first | refine Qq rfl ?_ | refine QE rfl rfl ?_ | refine Qu rfl rfl rfl ?_ | refine QG rfl rfl rfl rfl ?_) | ((refine Qc ?_);first | (have z:=e1;refine Xb ?_;intro h2 e2 c2;have d2:=c1.ext e2) | (refine Qx rfl ?_;intro h1 e1 c1) | refine QQ rfl d2 ?_ | refine Qz rfl d2 ?_ | (refine Ql7 rfl rfl rfl (by omega) ?_) | (refine XE rfl rfl ?_) | (refine Xm rfl rfl c2 ?_;intro h3 w3) | refine Qo rfl ?_ | refine Xt rfl rfl ?_))
 refine ⟨.inr rfl,Xg rfl w3.cel.read ⟨w3.ext (e1.trans e2) e1.len,?_⟩⟩
 rw [Qk8,show (0+18446744073709551616-v%18446744073709551616-0)%18446744073709551616=(-v)%18446744073709551616 by omega]
theorem Qhd (h0:Qa) (v w:Int):∃ r h',Cal FT HKt 58 [.agg (wd v),.agg (wd w)] h0 r h'∧Ext h0 h'∧r=.agg (wd (v+w)):=by
 refine Cal.of (F:=a58) rfl rfl rfl ?_
 have hh:=Qfg v
 have hh2:=Qfg w
 unfold wd
 repeat' (first | refine Qg ?_ | refine Qb ?_ | refine Qt ?_ | refine Qf ?_ | ((refine Qe ?_);first | refine Qq rfl ?_ | refine Qu rfl rfl rfl ?_ | refine QU rfl rfl rfl rfl rfl ?_) | ((refine Qc ?_);first | (have z:=e2;refine Xb ?_;intro h3 e3 c3;have d1:=(c1.ext e2).ext e3;have d2:=c2.ext e3) | (have z:=e1;refine Qx rfl ?_;intro h2 e2 c2) | (refine Qx rfl ?_;intro h1 e1 c1) | refine QQ rfl d2 ?_ | refine Qz rfl d2 ?_ | refine QQ rfl d1 ?_ | refine Qz rfl d1 ?_ | (refine Ql8 rfl rfl rfl (by omega) ?_) | (refine XE rfl rfl ?_) | (refine Xm rfl rfl c3 ?_;intro h4 w4) | refine Qo rfl ?_ | refine Xt rfl rfl ?_))
 refine ⟨.inr rfl,Xg rfl w4.cel.read ⟨w4.ext (e1.trans (e2.trans e3)) (Gn e1.len e2.len),?_⟩⟩
 rw [Qk9,show (v%18446744073709551616+w%18446744073709551616+0)%18446744073709551616=(v+w)%18446744073709551616 by omega]
def tab8:ByteArray:=⟨#[0,1,2,2,3,3,3,3,4,4,4,4,4,4,4,4,5,5,5,5,5,5,5,5,5,5,5,5,5,5,5,5,6,6,6,6,6,6,6,6,6,6,6,6,6,6,6,6,6,6,6,6,6,6,6,6,6,6,6,6,6,6,6,6,7,7,7,7,7,7,7,7,7,7,7,7,7,7,7,7,7,7,7,7,7,7,7,7,7,7,7,7,7,7,7,7,7,7,7,7,7,7,7,7,7,7,7,7,7,7,7,7,7,7,7,7,7,7,7,7,7,7,7,7,7,7,7,7,8,8,8,8,8,8,8,8,8,8,8,8,8,8,8,8,8,8,8,8,8,8,8,8,8,8,8,8,8,8,8,8,8,8,8,8,8,8,8,8,8,8,8,8,8,8,8,8,8,8,8,8,8,8,8,8,8,8,8,8,8,8,8,8,8,8,8,8,8,8,8,8,8,8,8,8,8,8,8,8,8,8,8,8,8,8,8,8,8,8,8,8,8,8,8,8,8,8,8,8,8,8,8,8,8,8,8,8,8,8,8,8,8,8,8,8,8,8,8,8,8,8,8,8,8,8,8,8]⟩
theorem len8:∀ x:Nat,x < 256→∃ b:UInt8,tab8[x]?=some b∧x < 2 ^ b.toNat∧(x=0∨2 ^ b.toNat≤2*x)∧b.toNat≤8:=by
 have key:∀ x:Fin 256,(match tab8[x.val]? with
  | some b=>decide (x.val < 2 ^ b.toNat) && (decide (x.val=0) || decide (2 ^ b.toNat≤2*x.val)) && decide (b.toNat≤8)
  | none=>false)=true:=by decide +kernel
 intro x hx
 have h:=key ⟨x,hx⟩
 simp only at h
 split at h
 ·rename_i b hb
  simp only [Bool.and_eq_true,Bool.or_eq_true,decide_eq_true_eq] at h
  exact ⟨b,hb,h.1.1,h.1.2,h.2⟩
 ·cases h
theorem JT {FT:FuncId→Option AFun} {HK:FuncId→Option Xj} {E:Env} {h:Qa} {K:Env→Qa→Prop} {d:Option Nat} {r:List AOp} {x i:AO} {s:ByteArray} {kd:IntKind} {j:Nat} {b:UInt8} (hx:evS E x=some (.str s)) (hi:evS E i=some (.int kd (j:Nat))) (hb:s[j]?=some b) (hw:Ql FT HK r (Qr d (some (.sc (.int .u8 (b.toNat:Nat)))) E) h K) :
  Ql FT HK (⟨d,.idxS x i,none⟩::r) E h K :=
 Xe rfl rfl (by simp [Qm,hx,hi,hb]) hw
def zF (x:Nat) (L:Nat):Prop:=x < 2 ^ L∧2 ^ L≤2*x∧L≤64
theorem Qbv {x q b:Nat} (h1:x / 2 ^ q < 2 ^ b) (h2:2 ^ b≤2*(x / 2 ^ q)) (hb:q+b≤64):zF x (q+b):=by
 have hp:0 < 2 ^ q:=Nat.pow_pos (by omega)
 refine ⟨?_,?_,hb⟩
 ·rw [Nat.pow_add,Hw];exact (Nat.div_lt_iff_lt_mul hp).1 h1
 ·rw [Nat.pow_add]
  have h3:2 ^ q*(x / 2 ^ q)≤x:=Nat.mul_div_le x (2 ^ q)
  have h4:=Nat.mul_le_mul_left (2 ^ q) h2
  have h5:2 ^ q*(2*(x / 2 ^ q))=2*(2 ^ q*(x / 2 ^ q)):=by rw [Nat.mul_left_comm]
  omega
theorem QdP (h0:Qa) (x:Nat) (hx:0 < x∧x < 18446744073709551616):∃ r h',Cal FT HKt 139 [.sc (.int .u64 (x:Nat))] h0 r h'∧h'=h0∧∃ L:Nat,r=.sc (.int .i64 (L:Nat))∧zF x L:=by
 refine Cal.of (F:=a139) rfl rfl rfl ?_
 have fin:∀ (q y:Nat),y=x / 2 ^ q→0 < y→y < 256→q≤56→∃ b:UInt8,tab8[y]?=some b∧b.toNat≤8∧zF x (q+b.toNat):=by
  intro q y hy h1 h2 h3
  obtain ⟨b,b1,b2,b3,b4⟩:=len8 y h2
  subst hy
  exact ⟨b,b1,b4,Qbv b2 (by omega) (by omega)⟩
 have f:=fun q (h1:0 < x / 2 ^ q) (h2:x / 2 ^ q < 256) (h3:q≤56)=>fin q _ rfl h1 h2 h3
 by_cases c1:4294967296≤x
 ·by_cases c2:281474976710656≤x
  ·by_cases c3:72057594037927936≤x
   ·obtain ⟨b,hb,hb8,hL⟩:=f 56 (by omega) (by omega) (by omega)
    have e1:((x:Nat):Int) / (2 ^ 32:Nat) / (2 ^ 16:Nat) / (2 ^ 8:Nat)=((x / 2 ^ 56:Nat):Int):=by omega
    have e2:x / 2 ^ 56 < 256:=by omega
    generalize x / 2 ^ 56=y at *
    repeat' (first | refine Qg ?_ | refine Qb ?_ | refine Qt ?_ | refine Qf ?_ | ((refine Qh ?_);refine Qj rfl ?_) | ((refine Qe ?_);first | refine Qq rfl ?_ | refine QE rfl rfl ?_ | refine Qu rfl rfl rfl ?_) | ((refine Qc ?_);first | (refine XN (q:=32) rfl rfl rfl (by omega) ?_) | (refine XN (q:=16) rfl rfl rfl (by omega) ?_) | (refine XN (q:=8) rfl rfl rfl (by omega) ?_;rw [e1]) | (refine zy rfl (by omega) ?_) | refine JT rfl rfl hb ?_ | refine Qo rfl ?_ | refine QK rfl rfl (by omega) ?_ | refine Yx rfl (by omega) ?_ | refine Ym rfl rfl (by omega) ?_))
    exact ⟨.inr rfl,rfl,_,by rw [show (32:Int)+16+8+(b.toNat:Nat)=((56+b.toNat:Nat):Int) by omega];rfl,hL⟩
   ·obtain ⟨b,hb,hb8,hL⟩:=f 48 (by omega) (by omega) (by omega)
    have e1:((x:Nat):Int) / (2 ^ 32:Nat) / (2 ^ 16:Nat)=((x / 2 ^ 48:Nat):Int):=by omega
    have e2:x / 2 ^ 48 < 256:=by omega
    generalize x / 2 ^ 48=y at *
    repeat' (first | refine Qg ?_ | refine Qb ?_ | refine Qn ?_ | refine Qt ?_ | refine Qf ?_ | ((refine Qh ?_);first | refine Qj rfl ?_ | refine Qk rfl ?_) | ((refine Qe ?_);first | refine Qq rfl ?_ | refine QE rfl rfl ?_ | refine Qu rfl rfl rfl ?_) | ((refine Qc ?_);first | (refine XN (q:=32) rfl rfl rfl (by omega) ?_) | (refine XN (q:=16) rfl rfl rfl (by omega) ?_;rw [e1]) | (refine zy rfl (by omega) ?_) | refine JT rfl rfl hb ?_ | refine Qo rfl ?_ | refine QK rfl rfl (by omega) ?_ | refine Yx rfl (by omega) ?_ | refine Ym rfl rfl (by omega) ?_ | refine X3 rfl rfl (by omega) ?_))
    exact ⟨.inr rfl,rfl,_,by rw [show (32:Int)+16+(b.toNat:Nat)=((48+b.toNat:Nat):Int) by omega];rfl,hL⟩
  ·by_cases c3:1099511627776≤x
   ·obtain ⟨b,hb,hb8,hL⟩:=f 40 (by omega) (by omega) (by omega)
    have e1:((x:Nat):Int) / (2 ^ 32:Nat) / (2 ^ 8:Nat)=((x / 2 ^ 40:Nat):Int):=by omega
    have e2:x / 2 ^ 40 < 256:=by omega
    generalize x / 2 ^ 40=y at *
    repeat' (first | refine Qg ?_ | refine Qb ?_ | refine Qn ?_ | refine Qt ?_ | refine Qf ?_ | ((refine Qh ?_);first | refine Qj rfl ?_ | refine Qk rfl ?_) | ((refine Qe ?_);first | refine Qq rfl ?_ | refine QE rfl rfl ?_ | refine Qu rfl rfl rfl ?_) | ((refine Qc ?_);first | (refine XN (q:=32) rfl rfl rfl (by omega) ?_) | (refine XN (q:=8) rfl rfl rfl (by omega) ?_;rw [e1]) | (refine zy rfl (by omega) ?_) | refine JT rfl rfl hb ?_ | refine Qo rfl ?_ | refine QK rfl rfl (by omega) ?_ | refine Yx rfl (by omega) ?_ | refine Ym rfl rfl (by omega) ?_ | refine X3 rfl rfl (by omega) ?_))
    exact ⟨.inr rfl,rfl,_,by rw [show (32:Int)+8+(b.toNat:Nat)=((40+b.toNat:Nat):Int) by omega];rfl,hL⟩
   ·obtain ⟨b,hb,hb8,hL⟩:=f 32 (by omega) (by omega) (by omega)
    have e1:((x:Nat):Int) / (2 ^ 32:Nat)=((x / 2 ^ 32:Nat):Int):=by omega
    have e2:x / 2 ^ 32 < 256:=by omega
    generalize x / 2 ^ 32=y at *
    repeat' (first | refine Qg ?_ | refine Qb ?_ | refine Qn ?_ | refine Qt ?_ | refine Qf ?_ | ((refine Qh ?_);first | refine Qj rfl ?_ | refine Qk rfl ?_) | ((refine Qe ?_);first | refine Qq rfl ?_ | refine QE rfl rfl ?_ | refine Qu rfl rfl rfl ?_) | ((refine Qc ?_);first | (refine XN (q:=32) rfl rfl rfl (by omega) ?_;rw [e1]) | (refine zy rfl (by omega) ?_) | refine JT rfl rfl hb ?_ | refine Qo rfl ?_ | refine QK rfl rfl (by omega) ?_ | refine Yx rfl (by omega) ?_ | refine Ym rfl rfl (by omega) ?_ | refine X3 rfl rfl (by omega) ?_))
    exact ⟨.inr rfl,rfl,_,by rw [show (32:Int)+(b.toNat:Nat)=((32+b.toNat:Nat):Int) by omega];rfl,hL⟩
 ·by_cases c2:65536≤x
  ·by_cases c3:16777216≤x
   ·obtain ⟨b,hb,hb8,hL⟩:=f 24 (by omega) (by omega) (by omega)
    have e1:((x:Nat):Int) / (2 ^ 16:Nat) / (2 ^ 8:Nat)=((x / 2 ^ 24:Nat):Int):=by omega
    have e2:x / 2 ^ 24 < 256:=by omega
    generalize x / 2 ^ 24=y at *
    repeat' (first | refine Qg ?_ | refine Qb ?_ | refine Qn ?_ | refine Qt ?_ | refine Qf ?_ | ((refine Qh ?_);first | refine Qj rfl ?_ | refine Qk rfl ?_) | ((refine Qe ?_);first | refine Qq rfl ?_ | refine QE rfl rfl ?_ | refine Qu rfl rfl rfl ?_) | ((refine Qc ?_);first | (refine XN (q:=16) rfl rfl rfl (by omega) ?_) | (refine XN (q:=8) rfl rfl rfl (by omega) ?_;rw [e1]) | (refine zy rfl (by omega) ?_) | refine JT rfl rfl hb ?_ | refine Qo rfl ?_ | refine QK rfl rfl (by omega) ?_ | refine Yx rfl (by omega) ?_ | refine Ym rfl rfl (by omega) ?_ | refine X3 rfl rfl (by omega) ?_))
    exact ⟨.inr rfl,rfl,_,by rw [show (0:Int)+16+8+(b.toNat:Nat)=((24+b.toNat:Nat):Int) by omega];rfl,hL⟩
   ·obtain ⟨b,hb,hb8,hL⟩:=f 16 (by omega) (by omega) (by omega)
    have e1:((x:Nat):Int) / (2 ^ 16:Nat)=((x / 2 ^ 16:Nat):Int):=by omega
    have e2:x / 2 ^ 16 < 256:=by omega
    generalize x / 2 ^ 16=y at *
    repeat' (first | refine Qg ?_ | refine Qb ?_ | refine Qn ?_ | refine Qt ?_ | refine Qf ?_ | ((refine Qh ?_);first | refine Qj rfl ?_ | refine Qk rfl ?_) | ((refine Qe ?_);first | refine Qq rfl ?_ | refine QE rfl rfl ?_ | refine Qu rfl rfl rfl ?_) | ((refine Qc ?_);first | (refine XN (q:=16) rfl rfl rfl (by omega) ?_;rw [e1]) | (refine zy rfl (by omega) ?_) | refine JT rfl rfl hb ?_ | refine Qo rfl ?_ | refine QK rfl rfl (by omega) ?_ | refine Yx rfl (by omega) ?_ | refine Ym rfl rfl (by omega) ?_ | refine X3 rfl rfl (by omega) ?_))
    exact ⟨.inr rfl,rfl,_,by rw [show (0:Int)+16+(b.toNat:Nat)=((16+b.toNat:Nat):Int) by omega];rfl,hL⟩
  ·by_cases c3:256≤x
   ·obtain ⟨b,hb,hb8,hL⟩:=f 8 (by omega) (by omega) (by omega)
    have e1:((x:Nat):Int) / (2 ^ 8:Nat)=((x / 2 ^ 8:Nat):Int):=by omega
    have e2:x / 2 ^ 8 < 256:=by omega
    generalize x / 2 ^ 8=y at *
    repeat' (first | refine Qg ?_ | refine Qb ?_ | refine Qn ?_ | refine Qt ?_ | refine Qf ?_ | ((refine Qh ?_);first | refine Qj rfl ?_ | refine Qk rfl ?_) | ((refine Qe ?_);first | refine Qq rfl ?_ | refine QE rfl rfl ?_ | refine Qu rfl rfl rfl ?_) | ((refine Qc ?_);first | (refine XN (q:=8) rfl rfl rfl (by omega) ?_;rw [e1]) | (refine zy rfl (by omega) ?_) | refine JT rfl rfl hb ?_ | refine Qo rfl ?_ | refine QK rfl rfl (by omega) ?_ | refine Yx rfl (by omega) ?_ | refine Ym rfl rfl (by omega) ?_ | refine X3 rfl rfl (by omega) ?_))
    exact ⟨.inr rfl,rfl,_,by rw [show (0:Int)+8+(b.toNat:Nat)=((8+b.toNat:Nat):Int) by omega];rfl,hL⟩
   ·obtain ⟨b,hb,hb8,hL⟩:=f 0 (by omega) (by omega) (by omega)
    rw [show x / 2 ^ 0=x by omega] at hb
    repeat' (first | refine Qg ?_ | refine Qb ?_ | refine Qn ?_ | refine Qt ?_ | refine Qf ?_ | ((refine Qh ?_);refine Qk rfl ?_) | ((refine Qe ?_);first | refine Qq rfl ?_ | refine QE rfl rfl ?_ | refine Qu rfl rfl rfl ?_) | ((refine Qc ?_);first | (refine zy rfl (by omega) ?_) | refine JT rfl rfl hb ?_ | refine Qo rfl ?_ | refine QK rfl rfl (by omega) ?_ | refine Yx rfl (by omega) ?_ | refine X3 rfl rfl (by omega) ?_))
    exact ⟨.inr rfl,rfl,_,by rw [show (0:Int)+(b.toNat:Nat)=((0+b.toNat:Nat):Int) by omega];rfl,hL⟩
