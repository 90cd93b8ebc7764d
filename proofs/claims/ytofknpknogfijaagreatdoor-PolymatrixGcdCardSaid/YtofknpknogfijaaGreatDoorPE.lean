/- copyCheck;the h -/
import Derived.Test.YtofknpknogfijaaGreatDoorCode
import Derived.Test.YtofknpknogfijaaGreatDoorAb47
import Derived.Test.YtofknpknogfijaaGreatDoorAb46
import Derived.Lib.TrailingZeros
namespace Go.Proofs.YtofknpknogfijaaGreatDoor
open Go.Ab Go.RowKit
set_option linter.all false
theorem Qjm:(Tryz.prog.info? 77).map (·.size)=some 2:=by kernel_rfl
theorem liesB:liesAt Tryz.prog Tryz.prog.depth 77 (2/Tryz.prog.cellsOf 77) 0 77 1=true:=by kernel_rfl
set_option maxRecDepth 100000 in
theorem Qi1(b:Nat)(w:World)(h0:w.cell? ⟨b,0,none⟩=some (.pointer (some ⟨b,0,none⟩))) :
  Calls Tryz.prog 78 #[.pointer (some ⟨b,0,none⟩)] w fun e w'=>e = .returned (.tuple #[])/\w'=w:=by
 obtain⟨j,hj,hjs⟩:=Ga.1 Qjm
 go_enter Tryz.func78,Tryz.ntmps78
 go_wp2
 rw[Lib.run_neq_ptr_same w _ Tryz.underlying74 hj]
 go_wp2
 go_end0
 exact⟨rfl,rfl⟩
set_option maxHeartbeats 1000000 in
set_option maxRecDepth 100000 in
theorem Qln(b:Nat)(w:World)(h0:w.cell? ⟨b,0,none⟩=some (.pointer none))(hsh:w.shape? b=some (77,2))(hfz:w.frozen? ⟨b,0,none⟩=false) :
  Calls Tryz.prog 78 #[.pointer (some ⟨b,0,none⟩)] w fun e w'=>e = .returned (.tuple #[])/\w'=w.setCell ⟨b,0,none⟩ (.pointer (some ⟨b,0,none⟩)):=by
 obtain⟨j,hj,hjs⟩:=Ga.1 Qjm
 go_enter Tryz.func78,Tryz.ntmps78
 go_wp2
 rw[Lib.run_to_unsafe w ⟨b,0,none⟩ Tryz.underlying74 Tryz.underlying165 hj (by rw[hjs];decide) hsh (Nat.zero_lt_succ 1)]
 simp only[Result.andThen]
 rw[Oper.upon_value]
 go_wp2
 rw[run_callFunc_extern Tryz.func109 (by kernel_rfl) (by kernel_rfl) (by kernel_rfl) (e:=Extern.AbiNoEscape.same) (by kernel_rfl)]
 rw[Lib.run_noEscape]
 simp only[Result.andThen]
 rw[Oper.upon_value]
 go_wp2
 rw[Lib.run_from_unsafe w ⟨b,0,none⟩ Tryz.underlying165 Tryz.underlying74 hj hsh liesB]
 simp only[Result.andThen]
 rw[Oper.upon_value]
 go_wp2
 go_end0
 exact⟨rfl,rfl⟩
def HK0:zzH:=fun f=>if f=78 then some (yb 77) else none
theorem Qdh[Base]:qE Tryz.prog HK0:=fun f g h=>by
 unfold HK0 at h
 split at h
 ·rename_i hf
  simp only[Option.some.injEq]at h
  subst hf h
  exact Qfc (by kernel_rfl) Qi1 Qln
 ·simp at h
end Go.Proofs.YtofknpknogfijaaGreatDoor
namespace Go.Proofs.YtofknpknogfijaaGreatDoor
open Go.Ab
set_option linter.all false
class HB where
 b:Bool
def qN:Xq:=fun args h=>match args with
 | [.sc (.int .u64 a)]=>if 0<=a/\a<18446744073709551616 then frc (Lib.ctz 64 a.toNat) fun r=>some (.sc (.int .i64 (r:Nat)),h) else none
 | _=>none
def HKt[HB]:zzH:=fun f=>if f=43 then some ZP else if f=138 then some qN else if f=9 then (if HB.b then some (Zj (.sc (.bool true))) else none) else if f=86 then some (yA 116 135) else if f=85 then some (Jq 116 135) else HK0 f
theorem QhP[HB]{h:Qa}(n:Nat)(hn:n<18446744073709551616):∃ v h',Cal FT HKt 138 [.sc (.int .u64 (n:Nat))] h v h'/\h'=h/\v = .sc (.int .i64 (Lib.ctz 64 n:Nat)) :=
 ⟨_,_,Cal.hook (g:=qN) rfl (by simp only[qN];rw[if_pos ⟨by omega,by omega⟩,Yw];rfl),rfl,rfl⟩
theorem Qcf(h:Qa):∃ v h',@Cal FT (@HKt ⟨true⟩) 9 [] h v h'/\v = .sc (.bool true)/\h'=h:=⟨_,_,@Cal.hook FT (@HKt ⟨true⟩) 9 (Zj (.sc (.bool true))) _ _ _ _ rfl rfl,rfl,rfl⟩
set_option maxHeartbeats 16000000
set_option maxRecDepth 20000
attribute [local irreducible] Qk wA Xv Xs QC QP
variable [HB]
abbrev bz:ESz:=⟨1,some 5⟩
structure Kq(h:Qa)(B:Nat)(s:SV)(q:Nat)(c:Blk):Prop where
 at':h[q]?=some c
 ne:q≠B
 no:Ys s q
def BLq(h0 h:Qa)(B:Nat)(bs:List UInt8)(q:Nat)(c:Blk):Prop :=
 ∃ p s,h[B]?=some (.cells [p,s] true ⟨0,some 77⟩)/\(p = .nilP∨p = .ptr B 0)/\h0.length<=B/\OwnZ bz h0 h s (u8s bs)/\Ys s B/\Ext h0 h/\Kq h B s q c
theorem BLq.at{h0 h:Qa}{B:Nat}{bs:List UInt8}{q:Nat}{c:Blk}(hb:BLq h0 h B bs q c):h[q]?=some c:=by
 obtain⟨p,s,h1,h2,h3,h4,h5,h6,h7⟩:=hb
 exact h7.at'
section
variable {FT:zzA} {HK:zzH} {E:Env} {h:Qa} {K:Env->Qa->Prop} {d:Option Nat} {r:List AOp} {x y:AO}
end
end Go.Proofs.YtofknpknogfijaaGreatDoor
namespace Go.Proofs.YtofknpknogfijaaGreatDoor
open Go.Ab
set_option linter.all false
set_option maxHeartbeats 16000000
set_option maxRecDepth 20000
attribute [local irreducible] Qk wA Xv Xs QC Qu QP Q6
variable [HB]
def wd(v:Int):List SV:=[.int .u64 (v/18446744073709551616%18446744073709551616),.int .u64 (v%18446744073709551616)]
theorem Qfl(v:Int):0<=v/18446744073709551616%18446744073709551616/\v/18446744073709551616%18446744073709551616<18446744073709551616:=by omega
theorem Qkk(v w:Int):(v/18446744073709551616%18446744073709551616+w/18446744073709551616%18446744073709551616+(v%18446744073709551616+w%18446744073709551616+0)/18446744073709551616)%18446744073709551616=(v+w)/18446744073709551616%18446744073709551616:=by
 have h:(v+w)/18446744073709551616=v/18446744073709551616+w/18446744073709551616+(v%18446744073709551616+w%18446744073709551616+0)/18446744073709551616:=by omega
 rw[h]
 generalize v/18446744073709551616=A
 generalize w/18446744073709551616=B
 generalize (v%18446744073709551616+w%18446744073709551616+0)/18446744073709551616=C
 omega
theorem Qkj(v:Int):(0+18446744073709551616-v/18446744073709551616%18446744073709551616-(if (0:Int)<v%18446744073709551616+0 then 1 else 0))%18446744073709551616=(-v)/18446744073709551616%18446744073709551616:=by
 have h:(-v)/18446744073709551616 = -(v/18446744073709551616)-(if (0:Int)<v%18446744073709551616+0 then 1 else 0):=by split <;> omega
 rw[h]
 generalize (if (0:Int)<v%18446744073709551616+0 then (1:Int) else 0)=c
 generalize v/18446744073709551616=A
 omega
theorem QaW(h0:Qa)(v:Int)(hv : -9223372036854775808<=v/\v<=9223372036854775807):∃ r h',Cal FT HKt 101 [.sc (.int .i64 v)] h0 r h'/\r = .sc (.int .u64 (v.natAbs:Int))/\h'=h0:=by
 refine Cal.of (F:=a101) rfl rfl rfl ?_
 by_cases h:v<0
 ·repeat' first|apply Qh|apply Qc|apply QD|apply Qs|apply Qf|(apply Qg;refine Qi rfl ?_)|(apply Qe;first|refine Qp rfl ?_|refine Qx rfl rfl ?_)|(apply Qb;first|(refine QdX rfl ?_)|(refine Qk7 rfl ?_)|refine Qn rfl ?_|refine QH rfl rfl (by omega) ?_)
  exact⟨.inr rfl,by rw[show -(v%18446744073709551616)%18446744073709551616=(v.natAbs:Int) by omega];rfl,rfl⟩
 ·repeat' first|apply Qh|apply Qc|apply Qm|apply Qs|apply Qf|(apply Qg;refine Qj rfl ?_)|(apply Qe;first|refine Qp rfl ?_|refine Qx rfl rfl ?_)|(apply Qb;first|(refine QdX rfl ?_)|refine Qn rfl ?_|refine QW rfl rfl (by omega) ?_)
  exact⟨.inr rfl,by rw[show v%18446744073709551616=(v.natAbs:Int) by omega];rfl,rfl⟩
theorem UW{a b:Int}(ha:0<=a/\a<4294967296)(hb:0<=b/\b<4294967296):0<=a*b/\a*b<=18446744065119617025:=by
 refine⟨Ha ha.1 hb.1,?_⟩
 have h1:a*b<=4294967295*b:=Gy (by omega) hb.1
 omega
theorem QeS(a b:Int):a*b=a/4294967296*(b/4294967296)*18446744073709551616+(a/4294967296*(b%4294967296)+a%4294967296*(b/4294967296))*4294967296+a%4294967296*(b%4294967296):=by
 have ea:a=a/4294967296*4294967296+a%4294967296:=by omega
 have eb:b=b/4294967296*4294967296+b%4294967296:=by omega
 generalize a/4294967296=a1 at *
 generalize a%4294967296=a0 at *
 generalize b/4294967296=b1 at *
 generalize b%4294967296=b0 at *
 subst ea eb
 rw[Ho,Hj,Hj]
 have e1:a1*4294967296*(b1*4294967296)=a1*b1*18446744073709551616:=by
  rw[GB,Int.mul_left_comm 4294967296 b1,← GB];omega
 have e2:a1*4294967296*b0=a1*b0*4294967296:=by rw[Int.mul_right_comm]
 have e3:a0*(b1*4294967296)=a0*b1*4294967296:=by rw[GB]
 rw[e1,e2,e3];omega
theorem Qei(h0:Qa)(a b:Int)(ha:0<=a/\a<18446744073709551616)(hb:0<=b/\b<18446744073709551616) :
  ∃ r h',Cal FT HKt 103 [.sc (.int .u64 a),.sc (.int .u64 b)] h0 r h'/\r = .tup [.sc (.int .u64 (a*b/18446744073709551616)),.sc (.int .u64 (a*b%18446744073709551616))]/\h'=h0:=by
 refine Cal.of (F:=a103) rfl rfl rfl ?_
 have a0:0<=a%(2^32:Nat)/\a%(2^32:Nat)<4294967296:=by omega
 have a1:0<=a/(2^32:Nat)/\a/(2^32:Nat)<4294967296:=by omega
 have b0:0<=b%(2^32:Nat)/\b%(2^32:Nat)<4294967296:=by omega
 have b1:0<=b/(2^32:Nat)/\b/(2^32:Nat)<4294967296:=by omega
 have p00:=UW a0 b0
 have p10:=UW a1 b0
 have p01:=UW a0 b1
 have p11:=UW a1 b1
 have hm:=QeS a b
 rw[show (4294967296:Int)=(2^32:Nat) by rfl]at hm
 have hab:0<=a*b:=Ha ha.1 hb.1
 have hab2:a*b<340282366920938463463374607431768211456:=by omega
 repeat' first|apply Qh|apply Qc|apply Qs|apply Qf|(apply Qe;first|refine Qx rfl rfl ?_|refine Qq rfl rfl rfl ?_|refine QA rfl rfl rfl rfl ?_|refine QM rfl rfl rfl rfl rfl ?_|refine Q7 rfl rfl rfl rfl rfl rfl ?_|refine Xr rfl rfl rfl rfl rfl rfl rfl ?_)|(apply Qb;first|(refine QaJ (q:=32) rfl rfl (by omega) (by omega) rfl ?_)|(refine XQ (q:=32) rfl rfl rfl (by omega) ?_)|(refine Jb rfl rfl (by omega) ?_)|(refine YX rfl rfl (by omega) ?_)|refine QaG rfl rfl ?_|refine Qn rfl ?_)
 refine⟨.inr rfl,?_,rfl⟩
 generalize a/(2^32:Nat)*(b/(2^32:Nat))=q11 at *
 generalize a/(2^32:Nat)*(b%(2^32:Nat))=q10 at *
 generalize a%(2^32:Nat)*(b/(2^32:Nat))=q01 at *
 generalize a%(2^32:Nat)*(b%(2^32:Nat))=q00 at *
 rw[show a*b/18446744073709551616=q11+(q10+q00/(2^32:Nat))/(2^32:Nat)+((q10+q00/(2^32:Nat))%(2^32:Nat)+q01)/(2^32:Nat) by
  generalize a*b=m at *
  omega]
theorem Qeh(h0:Qa)(v:Int):∃ r h',Cal FT HKt 104 [.agg (wd v)] h0 r h'/\Ext h0 h'/\r = .agg (wd (-v)):=by
 refine Cal.of (F:=a104) rfl rfl rfl ?_
 have hh:=Qfl v
 have hl:0<=v%18446744073709551616/\v%18446744073709551616<18446744073709551616:=by omega
 have hc:(0:Int)<=(if (0:Int)<v%18446744073709551616+0 then 1 else 0)/\(if (0:Int)<v%18446744073709551616+0 then 1 else 0)<=(1:Int):=by split <;> omega
 unfold wd
 repeat' first|apply Qh|apply Qc|apply Qs|apply Qf|(apply Qe;first|refine Qp rfl ?_|refine Qx rfl rfl ?_|refine Qq rfl rfl rfl ?_|refine QA rfl rfl rfl rfl ?_)|(apply Qb;first|(have z:=e1;apply QQ;intro h2 e2 c2;have d2:=c1.ext e2)|(refine Qr rfl ?_;intro h1 e1 c1)|refine QB rfl d2 ?_|refine Qt rfl d2 ?_|(refine Qk8 rfl rfl rfl (by omega) ?_)|(refine Xp rfl rfl ?_)|(refine QZ rfl rfl c2 ?_;intro h3 w3)|refine Qn rfl ?_|refine Xt rfl rfl ?_)
 refine⟨.inr rfl,QY rfl w3.cel.read ⟨w3.ext (e1.trans e2) e1.len,?_⟩⟩
 rw[Qkj,show (0+18446744073709551616-v%18446744073709551616-0)%18446744073709551616=(-v)%18446744073709551616 by omega]
theorem Qhb(h0:Qa)(v w:Int):∃ r h',Cal FT HKt 58 [.agg (wd v),.agg (wd w)] h0 r h'/\Ext h0 h'/\r = .agg (wd (v+w)):=by
 refine Cal.of (F:=a58) rfl rfl rfl ?_
 have hh:=Qfl v
 have hh2:=Qfl w
 unfold wd
 repeat' first|apply Qh|apply Qc|apply Qs|apply Qf|(apply Qe;first|refine Qp rfl ?_|refine Qq rfl rfl rfl ?_|refine QM rfl rfl rfl rfl rfl ?_)|(apply Qb;first|(have z:=e2;apply QQ;intro h3 e3 c3;have d1:=(c1.ext e2).ext e3;have d2:=c2.ext e3)|(have z:=e1;refine Qr rfl ?_;intro h2 e2 c2)|(refine Qr rfl ?_;intro h1 e1 c1)|refine QB rfl d2 ?_|refine Qt rfl d2 ?_|refine QB rfl d1 ?_|refine Qt rfl d1 ?_|(refine Qk9 rfl rfl rfl (by omega) ?_)|(refine Xp rfl rfl ?_)|(refine QZ rfl rfl c3 ?_;intro h4 w4)|refine Qn rfl ?_|refine Xt rfl rfl ?_)
 refine⟨.inr rfl,QY rfl w4.cel.read ⟨w4.ext (e1.trans (e2.trans e3)) (Gh e1.len e2.len),?_⟩⟩
 rw[Qkk,show (v%18446744073709551616+w%18446744073709551616+0)%18446744073709551616=(v+w)%18446744073709551616 by omega]
def tab8:ByteArray:=⟨#[0,1,2,2,3,3,3,3,4,4,4,4,4,4,4,4,5,5,5,5,5,5,5,5,5,5,5,5,5,5,5,5,6,6,6,6,6,6,6,6,6,6,6,6,6,6,6,6,6,6,6,6,6,6,6,6,6,6,6,6,6,6,6,6,7,7,7,7,7,7,7,7,7,7,7,7,7,7,7,7,7,7,7,7,7,7,7,7,7,7,7,7,7,7,7,7,7,7,7,7,7,7,7,7,7,7,7,7,7,7,7,7,7,7,7,7,7,7,7,7,7,7,7,7,7,7,7,7,8,8,8,8,8,8,8,8,8,8,8,8,8,8,8,8,8,8,8,8,8,8,8,8,8,8,8,8,8,8,8,8,8,8,8,8,8,8,8,8,8,8,8,8,8,8,8,8,8,8,8,8,8,8,8,8,8,8,8,8,8,8,8,8,8,8,8,8,8,8,8,8,8,8,8,8,8,8,8,8,8,8,8,8,8,8,8,8,8,8,8,8,8,8,8,8,8,8,8,8,8,8,8,8,8,8,8,8,8,8,8,8,8,8,8,8,8,8,8,8,8,8,8,8,8,8,8,8]⟩
theorem len8:∀ x:Nat,x<256->∃ b:UInt8,tab8[x]?=some b/\x<2^b.toNat/\(x=0∨2^b.toNat<=2*x)/\b.toNat<=8:=by
 have key:∀ x:Fin 256,(match tab8[x.val]? with
  | some b=>decide (x.val<2^b.toNat)&&(decide (x.val=0) || decide (2^b.toNat<=2*x.val))&&decide (b.toNat<=8)
  | none=>false)=true:=by decide +kernel
 intro x hx
 have h:=key ⟨x,hx⟩
 simp only at h
 split at h
 ·rename_i b hb
  simp only[Bool.and_eq_true,Bool.or_eq_true,decide_eq_true_eq]at h
  exact⟨b,hb,h.1.1,h.1.2,h.2⟩
 ·cases h
theorem J6{FT:zzA}{HK:zzH}{E:Env}{h:Qa}{K:Env->Qa->Prop}{d:Option Nat}{r:List AOp}{x i:AO}{s:ByteArray}{kd:IntKind}{j:Nat}{b:UInt8}(hx:evS E x=some (.str s))(hi:evS E i=some (.int kd (j:Nat)))(hb:s[j]?=some b)(hw:Qk FT HK r (Qw d (some (.sc (.int .u8 (b.toNat:Nat)))) E) h K) :
  Qk FT HK (⟨d,.idxS x i,none⟩::r) E h K :=
 Xi rfl rfl (by simp[Ql,hx,hi,hb]) hw
def Qck(x:Nat)(L:Nat):Prop:=x<2^L/\2^L<=2*x/\L<=64
theorem QbF{x q b:Nat}(h1:x/2^q<2^b)(h2:2^b<=2*(x/2^q))(hb:q+b<=64):Qck x (q+b):=by
 have hp:0<2^q:=Nat.pow_pos (by omega)
 refine⟨?_,?_,hb⟩
 ·rw[Nat.pow_add,Nat.mul_comm];exact(Nat.div_lt_iff_lt_mul hp).1 h1
 ·rw[Nat.pow_add]
  have h3:2^q*(x/2^q)<=x:=Nat.mul_div_le x (2^q)
  have h4:=Nat.mul_le_mul_left (2^q) h2
  have h5:2^q*(2*(x/2^q))=2*(2^q*(x/2^q)):=by rw[Nat.mul_left_comm]
  omega
theorem Qi7(h0:Qa)(x:Nat)(hx:0<x/\x<18446744073709551616):∃ r h',Cal FT HKt 139 [.sc (.int .u64 (x:Nat))] h0 r h'/\h'=h0/\∃ L:Nat,r = .sc (.int .i64 (L:Nat))/\Qck x L:=by
 refine Cal.of (F:=a139) rfl rfl rfl ?_
 have fin:∀(q y:Nat),y=x/2^q->0<y->y<256->q<=56->∃ b:UInt8,tab8[y]?=some b/\b.toNat<=8/\Qck x (q+b.toNat):=by
  intro q y hy h1 h2 h3
  obtain⟨b,b1,b2,b3,b4⟩:=len8 y h2
  subst hy
  exact⟨b,b1,b4,QbF b2 (by omega) (by omega)⟩
 have f:=fun q (h1:0<x/2^q) (h2:x/2^q<256) (h3:q<=56)=>fin q _ rfl h1 h2 h3
 by_cases c1:4294967296<=x
 ·by_cases c2:281474976710656<=x
  ·by_cases c3:72057594037927936<=x
   ·obtain⟨b,hb,hb8,hL⟩:=f 56 (by omega) (by omega) (by omega)
    have e1:((x:Nat):Int)/(2^32:Nat)/(2^16:Nat)/(2^8:Nat)=((x/2^56:Nat):Int):=by omega
    have e2:x/2^56<256:=by omega
    generalize x/2^56=y at *
    repeat' first|apply Qh|apply Qc|apply Qs|apply Qf|(apply Qg;refine Qi rfl ?_)|(apply Qe;first|refine Qp rfl ?_|refine Qx rfl rfl ?_|refine Qq rfl rfl rfl ?_)|(apply Qb;first|(refine XQ (q:=32) rfl rfl rfl (by omega) ?_)|(refine XQ (q:=16) rfl rfl rfl (by omega) ?_)|(refine XQ (q:=8) rfl rfl rfl (by omega) ?_;rw[e1])|(refine zX rfl (by omega) ?_)|refine J6 rfl rfl hb ?_|refine Qn rfl ?_|refine Q1 rfl rfl (by omega) ?_|refine YE rfl (by omega) ?_|refine YD rfl rfl (by omega) ?_)
    exact⟨.inr rfl,rfl,_,by rw[show (32:Int)+16+8+(b.toNat:Nat)=((56+b.toNat:Nat):Int) by omega];rfl,hL⟩
   ·obtain⟨b,hb,hb8,hL⟩:=f 48 (by omega) (by omega) (by omega)
    have e1:((x:Nat):Int)/(2^32:Nat)/(2^16:Nat)=((x/2^48:Nat):Int):=by omega
    have e2:x/2^48<256:=by omega
    generalize x/2^48=y at *
    repeat' first|apply Qh|apply Qc|apply Qm|apply Qs|apply Qf|(apply Qg;first|refine Qi rfl ?_|refine Qj rfl ?_)|(apply Qe;first|refine Qp rfl ?_|refine Qx rfl rfl ?_|refine Qq rfl rfl rfl ?_)|(apply Qb;first|(refine XQ (q:=32) rfl rfl rfl (by omega) ?_)|(refine XQ (q:=16) rfl rfl rfl (by omega) ?_;rw[e1])|(refine zX rfl (by omega) ?_)|refine J6 rfl rfl hb ?_|refine Qn rfl ?_|refine Q1 rfl rfl (by omega) ?_|refine YE rfl (by omega) ?_|refine YD rfl rfl (by omega) ?_|refine X3 rfl rfl (by omega) ?_)
    exact⟨.inr rfl,rfl,_,by rw[show (32:Int)+16+(b.toNat:Nat)=((48+b.toNat:Nat):Int) by omega];rfl,hL⟩
  ·by_cases c3:1099511627776<=x
   ·obtain⟨b,hb,hb8,hL⟩:=f 40 (by omega) (by omega) (by omega)
    have e1:((x:Nat):Int)/(2^32:Nat)/(2^8:Nat)=((x/2^40:Nat):Int):=by omega
    have e2:x/2^40<256:=by omega
    generalize x/2^40=y at *
    repeat' first|apply Qh|apply Qc|apply Qm|apply Qs|apply Qf|(apply Qg;first|refine Qi rfl ?_|refine Qj rfl ?_)|(apply Qe;first|refine Qp rfl ?_|refine Qx rfl rfl ?_|refine Qq rfl rfl rfl ?_)|(apply Qb;first|(refine XQ (q:=32) rfl rfl rfl (by omega) ?_)|(refine XQ (q:=8) rfl rfl rfl (by omega) ?_;rw[e1])|(refine zX rfl (by omega) ?_)|refine J6 rfl rfl hb ?_|refine Qn rfl ?_|refine Q1 rfl rfl (by omega) ?_|refine YE rfl (by omega) ?_|refine YD rfl rfl (by omega) ?_|refine X3 rfl rfl (by omega) ?_)
    exact⟨.inr rfl,rfl,_,by rw[show (32:Int)+8+(b.toNat:Nat)=((40+b.toNat:Nat):Int) by omega];rfl,hL⟩
   ·obtain⟨b,hb,hb8,hL⟩:=f 32 (by omega) (by omega) (by omega)
    have e1:((x:Nat):Int)/(2^32:Nat)=((x/2^32:Nat):Int):=by omega
    have e2:x/2^32<256:=by omega
    generalize x/2^32=y at *
    repeat' first|apply Qh|apply Qc|apply Qm|apply Qs|apply Qf|(apply Qg;first|refine Qi rfl ?_|refine Qj rfl ?_)|(apply Qe;first|refine Qp rfl ?_|refine Qx rfl rfl ?_|refine Qq rfl rfl rfl ?_)|(apply Qb;first|(refine XQ (q:=32) rfl rfl rfl (by omega) ?_;rw[e1])|(refine zX rfl (by omega) ?_)|refine J6 rfl rfl hb ?_|refine Qn rfl ?_|refine Q1 rfl rfl (by omega) ?_|refine YE rfl (by omega) ?_|refine YD rfl rfl (by omega) ?_|refine X3 rfl rfl (by omega) ?_)
    exact⟨.inr rfl,rfl,_,by rw[show (32:Int)+(b.toNat:Nat)=((32+b.toNat:Nat):Int) by omega];rfl,hL⟩
 ·by_cases c2:65536<=x
  ·by_cases c3:16777216<=x
   ·obtain⟨b,hb,hb8,hL⟩:=f 24 (by omega) (by omega) (by omega)
    have e1:((x:Nat):Int)/(2^16:Nat)/(2^8:Nat)=((x/2^24:Nat):Int):=by omega
    have e2:x/2^24<256:=by omega
    generalize x/2^24=y at *
    repeat' first|apply Qh|apply Qc|apply Qm|apply Qs|apply Qf|(apply Qg;first|refine Qi rfl ?_|refine Qj rfl ?_)|(apply Qe;first|refine Qp rfl ?_|refine Qx rfl rfl ?_|refine Qq rfl rfl rfl ?_)|(apply Qb;first|(refine XQ (q:=16) rfl rfl rfl (by omega) ?_)|(refine XQ (q:=8) rfl rfl rfl (by omega) ?_;rw[e1])|(refine zX rfl (by omega) ?_)|refine J6 rfl rfl hb ?_|refine Qn rfl ?_|refine Q1 rfl rfl (by omega) ?_|refine YE rfl (by omega) ?_|refine YD rfl rfl (by omega) ?_|refine X3 rfl rfl (by omega) ?_)
    exact⟨.inr rfl,rfl,_,by rw[show (0:Int)+16+8+(b.toNat:Nat)=((24+b.toNat:Nat):Int) by omega];rfl,hL⟩
   ·obtain⟨b,hb,hb8,hL⟩:=f 16 (by omega) (by omega) (by omega)
    have e1:((x:Nat):Int)/(2^16:Nat)=((x/2^16:Nat):Int):=by omega
    have e2:x/2^16<256:=by omega
    generalize x/2^16=y at *
    repeat' first|apply Qh|apply Qc|apply Qm|apply Qs|apply Qf|(apply Qg;first|refine Qi rfl ?_|refine Qj rfl ?_)|(apply Qe;first|refine Qp rfl ?_|refine Qx rfl rfl ?_|refine Qq rfl rfl rfl ?_)|(apply Qb;first|(refine XQ (q:=16) rfl rfl rfl (by omega) ?_;rw[e1])|(refine zX rfl (by omega) ?_)|refine J6 rfl rfl hb ?_|refine Qn rfl ?_|refine Q1 rfl rfl (by omega) ?_|refine YE rfl (by omega) ?_|refine YD rfl rfl (by omega) ?_|refine X3 rfl rfl (by omega) ?_)
    exact⟨.inr rfl,rfl,_,by rw[show (0:Int)+16+(b.toNat:Nat)=((16+b.toNat:Nat):Int) by omega];rfl,hL⟩
  ·by_cases c3:256<=x
   ·obtain⟨b,hb,hb8,hL⟩:=f 8 (by omega) (by omega) (by omega)
    have e1:((x:Nat):Int)/(2^8:Nat)=((x/2^8:Nat):Int):=by omega
    have e2:x/2^8<256:=by omega
    generalize x/2^8=y at *
    repeat' first|apply Qh|apply Qc|apply Qm|apply Qs|apply Qf|(apply Qg;first|refine Qi rfl ?_|refine Qj rfl ?_)|(apply Qe;first|refine Qp rfl ?_|refine Qx rfl rfl ?_|refine Qq rfl rfl rfl ?_)|(apply Qb;first|(refine XQ (q:=8) rfl rfl rfl (by omega) ?_;rw[e1])|(refine zX rfl (by omega) ?_)|refine J6 rfl rfl hb ?_|refine Qn rfl ?_|refine Q1 rfl rfl (by omega) ?_|refine YE rfl (by omega) ?_|refine YD rfl rfl (by omega) ?_|refine X3 rfl rfl (by omega) ?_)
    exact⟨.inr rfl,rfl,_,by rw[show (0:Int)+8+(b.toNat:Nat)=((8+b.toNat:Nat):Int) by omega];rfl,hL⟩
   ·obtain⟨b,hb,hb8,hL⟩:=f 0 (by omega) (by omega) (by omega)
    rw[show x/2^0=x by omega]at hb
    repeat' first|apply Qh|apply Qc|apply Qm|apply Qs|apply Qf|(apply Qg;refine Qj rfl ?_)|(apply Qe;first|refine Qp rfl ?_|refine Qx rfl rfl ?_|refine Qq rfl rfl rfl ?_)|(apply Qb;first|(refine zX rfl (by omega) ?_)|refine J6 rfl rfl hb ?_|refine Qn rfl ?_|refine Q1 rfl rfl (by omega) ?_|refine YE rfl (by omega) ?_|refine X3 rfl rfl (by omega) ?_)
    exact⟨.inr rfl,rfl,_,by rw[show (0:Int)+(b.toNat:Nat)=((0+b.toNat:Nat):Int) by omega];rfl,hL⟩
theorem Qi9(h0:Qa)(x:Nat)(hx:0<x/\x<18446744073709551616):∃ r h',Cal FT HKt 125 [.sc (.int .u64 (x:Nat))] h0 r h'/\h'=h0/\∃ s:Nat,r = .sc (.int .i64 (s:Nat))/\s<=64/\Qck x (64-s):=by
 refine Cal.of (F:=a125) rfl rfl rfl ?_
 have k:=Qi7 h0 x hx
 repeat' first|apply Qh|apply Qc|apply Qs|apply Qf|(apply Qe;refine Qp rfl ?_)|(apply Qb;first|(refine Qd rfl k ?_;rintro v _ ⟨rfl,L,rfl,hL⟩;have hL64:=hL.2.2)|refine Qn rfl ?_|refine Yp rfl rfl (by omega) ?_)
 exact⟨.inr rfl,rfl,64-L,by rw[show (64:Int)-(L:Nat)=((64-L:Nat):Int) by omega];rfl,by omega,by rw[show 64-(64-L)=L by omega];exact hL⟩
section kn
variable {y1 y0 Y H u q r:Int}
theorem kn_Y(hY:Y=y1*4294967296+y0):q*Y=q*y1*4294967296+q*y0:=by rw[hY,Hj,GB]
theorem Ur(hY:Y=y1*4294967296+y0)(hu:0<=u/\u<4294967296)(hH:0<=H/\H<Y)(hq:q*y1+r=H)(hc:4294967296<=q∨4294967296*r+u<q*y0):H*4294967296+u<q*Y:=by
 rcases hc with h|h
 ·have h1:4294967296*Y<=q*Y:=Gy h (by omega)
  omega
 ·rw[kn_Y hY]
  generalize q*y1=a at *
  generalize q*y0=b at *
  omega
theorem QaB(hY:Y=y1*4294967296+y0)(hq:q*y1+r=H)(hc:¬ 4294967296*r+u<q*y0):q*Y<=H*4294967296+u:=by
 rw[kn_Y hY]
 generalize q*y1=a at *
 generalize q*y0=b at *
 omega
theorem Qgp(hY:Y=y1*4294967296+y0)(hy0:0<=y0/\y0<4294967296)(hy1:0<y1)(hH:0<=H/\H<Y)(hq:q*y1+r=H)(hr:4294967296<=r):q<4294967296:=by
 refine Classical.byContradiction fun h=>?_
 have h1:4294967296*y1<=q*y1:=Gy (by omega) (by omega)
 generalize q*y1=a at *
 omega
theorem yz(hY:Y=y1*4294967296+y0)(hy0:0<=y0/\y0<4294967296)(hy1:0<y1)(hu:0<=u/\u<4294967296)(hH:0<=H/\H<Y)(hq0:0<=q)(hq:q*y1+r=H)(hr:4294967296<=r):q*Y<=H*4294967296+u:=by
 have h1:=Qgp hY hy0 hy1 hH hq hr
 have h2:=(UW (a:=q) (b:=y0) ⟨hq0,h1⟩ hy0).2
 exact QaB hY hq (by omega)
theorem QgW{a b c:Int}(hb:0<b)(h1:c*b<=a)(h2:a<(c+1)*b):a/b=c:=by
 rw[Ho,G5]at h2
 have e:a=(a-c*b)+c*b:=by omega
 rw[e,Int.add_mul_ediv_right _ _ (by omega),Int.ediv_eq_zero_of_lt (by omega) (by omega)];omega
theorem QbG(hY:Y=y1*4294967296+y0)(hy0:0<=y0)(hy1:0<y1)(hu:u<4294967296)(hH:0<=H):H/y1*y1+(H-H/y1*y1)=H/\0<=H-H/y1*y1/\H-H/y1*y1<y1/\H*4294967296+u<(H/y1+1)*Y/\0<=H/y1:=by
 have h1:=Int.emod_nonneg H (show y1≠0 by omega)
 have h2:=Int.emod_lt_of_pos H hy1
 have h3:H%y1=H-H/y1*y1:=by have:=Int.emod_add_ediv_mul H y1;omega
 have h5:0<=H/y1:=Int.ediv_nonneg hH (by omega)
 refine⟨by omega,by omega,by omega,?_,h5⟩
 rw[kn_Y hY]
 have h4:0<=(H/y1+1)*y0:=Ha (by omega) hy0
 rw[Ho,G5]
 generalize H/y1*y1=a at *
 omega
theorem Qjw(hH:H<Y)(hu:u<4294967296)(hY:0<Y)(h1:q*Y<=H*4294967296+u):q<4294967296:=by
 refine Classical.byContradiction fun h=>?_
 have h1:4294967296*Y<=q*Y:=Gy (by omega) (by omega)
 omega
end kn
def qM(ks:List Nat)(t:Nat)(E:Env)(_:Qa):Nat:=match (E.keep ks).get t with
 | some (.sc (.int _ q))=>q.toNat
 | _=>0
def QhK(h0:Qa)(Y s y1 y0 H u u0:Int)(E:Env)(h:Qa):Prop:=h=h0/\∃ q r:Int,0<=q/\q<18446744073709551616/\0<=r/\r<4294967296/\q*y1+r=H/\H*4294967296+u<(q+1)*Y ∧
 E.keep [2,8,9,10,11,13,14,15,16]=[(2,some (.sc (.int .u64 Y))),(8,some (.sc (.int .u64 s))),(9,some (.sc (.int .u64 y1))),(10,some (.sc (.int .u64 y0))),(11,some (.sc (.int .u64 H))),(13,some (.sc (.int .u64 u))),(14,some (.sc (.int .u64 u0))),(15,some (.sc (.int .u64 q))),(16,some (.sc (.int .u64 r)))]
def Qkg(h0:Qa)(Y s y1 y0 H u u0:Int)(ex:Ex)(E:Env)(h:Qa):Prop:=ex = .ex 0/\h=h0/\∃ q a b,0<=q/\q*Y<=H*4294967296+u/\H*4294967296+u<(q+1)*Y ∧
 E=[(2,some (.sc (.int .u64 Y))),(8,some (.sc (.int .u64 s))),(9,some (.sc (.int .u64 y1))),(10,some (.sc (.int .u64 y0))),(11,some (.sc (.int .u64 H))),(13,some (.sc (.int .u64 u))),(14,some (.sc (.int .u64 u0))),(15,some (.sc (.int .u64 q))),(16,a),b]
theorem QeB(h0:Qa)(Y s y1 y0 H u u0:Int)(hY:Y=y1*4294967296+y0)(hY2:Y<18446744073709551616)(hy0:0<=y0/\y0<4294967296)(hy1:0<y1)(hu:0<=u/\u<4294967296)(hH:0<=H/\H<Y)(E:Env)(h:Qa)(hI:QhK h0 Y s y1 y0 H u u0 E h) :
  wA FT HKt Qhs (E.keep [2,8,9,10,11,13,14,15,16]) h (QC (QhK h0 Y s y1 y0 H u u0) (qM [2,8,9,10,11,13,14,15,16] 15) (qM [2,8,9,10,11,13,14,15,16] 15 E h) (Qkg h0 Y s y1 y0 H u u0)):=by
 obtain⟨rfl,q,r,hq0,hq64,hr0,hr,hq,hlt,hE⟩:=hI
 have hm:qM [2,8,9,10,11,13,14,15,16] 15 E h=q.toNat:=by unfold qM;rw[hE];rfl
 rw[hm,hE]
 have nx:4294967296<=q∨4294967296*r+u<q*y0->1<=q:=fun hc=>by
  rcases hc with h|h
  ·omega
  ·refine Classical.byContradiction fun hn=>?_
   obtain rfl:q=0:=by omega
   rw[GY]at h;omega
 by_cases hc1:4294967296<=q
 ·have h1:=nx (.inl hc1)
  have k1:=Ur hY hu hH hq (.inl hc1)
  have e1:(q-1)*y1+(r+y1)=H:=by rw[Int.sub_mul];omega
  have hy1b:y1<4294967296:=by omega
  by_cases hb:4294967296<=r+y1
  ·repeat' first|apply Qh|apply Qc|apply Qz|apply Qm|apply Q5|apply Qf|(refine JU ?_ ?_;rfl)|(apply Qg;refine Qi rfl ?_)|(apply Qe;first|refine Xd rfl rfl rfl rfl rfl rfl rfl rfl rfl ?_|refine XO rfl rfl rfl rfl rfl rfl rfl rfl rfl rfl ?_)|(apply Qb;first|(refine XI rfl rfl (by omega) ?_)|(refine YX rfl rfl (by omega) ?_)|refine Xa rfl ?_|refine Qn rfl ?_|refine QK rfl rfl ?_|refine YD rfl rfl (by omega) ?_)
   exact XA ⟨rfl,rfl,q-1,_,_,by omega,yz hY hy0 hy1 hu hH (by omega) e1 hb,by rw[show q-1+1=q by omega];exact k1,rfl⟩
  ·repeat' first|apply Qh|apply Qc|apply Qz|apply QV|apply Qm|apply Qf|(apply Qg;first|refine Qi rfl ?_|refine Qj rfl ?_)|(apply Qe;first|refine Xd rfl rfl rfl rfl rfl rfl rfl rfl rfl ?_|refine XO rfl rfl rfl rfl rfl rfl rfl rfl rfl rfl ?_)|(apply Qb;first|(refine XI rfl rfl (by omega) ?_)|(refine YX rfl rfl (by omega) ?_)|refine Xa rfl ?_|refine Qn rfl ?_|refine QK rfl rfl ?_|refine YD rfl rfl (by omega) ?_|refine X3 rfl rfl (by omega) ?_)
   exact Xg ⟨rfl,q-1,r+y1,by omega,by omega,by omega,by omega,e1,by rw[show q-1+1=q by omega];exact k1,rfl⟩ (by simp[qM,Env.keep,Env.get];omega)
 ·have hqy:=UW (a:=q) (b:=y0) ⟨hq0,by omega⟩ hy0
  by_cases hc2:4294967296*r+u<q*y0
  ·have h1:=nx (.inr hc2)
   have k1:=Ur hY hu hH hq (.inr hc2)
   have e1:(q-1)*y1+(r+y1)=H:=by rw[Int.sub_mul];omega
   have hy1b:y1<4294967296:=by omega
   by_cases hb:4294967296<=r+y1
   ·repeat' first|apply Qh|apply Qc|apply Qz|apply Qm|apply Q5|apply Qf|(refine JU ?_ ?_;rfl)|(apply Qg;refine Qi rfl ?_)|(apply Qe;first|refine Xd rfl rfl rfl rfl rfl rfl rfl rfl rfl ?_|refine XO rfl rfl rfl rfl rfl rfl rfl rfl rfl rfl ?_)|(apply Qb;first|(refine XI rfl rfl (by omega) ?_)|(refine Jb rfl rfl (by omega) ?_)|(refine YX rfl rfl (by omega) ?_)|refine QE rfl ?_|refine Qn rfl ?_|refine Qy rfl rfl ?_|refine X9 rfl rfl (by omega) ?_|refine YD rfl rfl (by omega) ?_|refine X3 rfl rfl (by omega) ?_)
    exact XA ⟨rfl,rfl,q-1,_,_,by omega,yz hY hy0 hy1 hu hH (by omega) e1 hb,by rw[show q-1+1=q by omega];exact k1,rfl⟩
   ·repeat' first|apply Qh|apply Qc|apply Qz|apply QV|apply Qm|apply Qf|(apply Qg;first|refine Qi rfl ?_|refine Qj rfl ?_)|(apply Qe;first|refine Xd rfl rfl rfl rfl rfl rfl rfl rfl rfl ?_|refine XO rfl rfl rfl rfl rfl rfl rfl rfl rfl rfl ?_)|(apply Qb;first|(refine XI rfl rfl (by omega) ?_)|(refine Jb rfl rfl (by omega) ?_)|(refine YX rfl rfl (by omega) ?_)|refine QE rfl ?_|refine Qn rfl ?_|refine Qy rfl rfl ?_|refine X9 rfl rfl (by omega) ?_|refine X3 rfl rfl (by omega) ?_)
    exact Xg ⟨rfl,q-1,r+y1,by omega,by omega,by omega,by omega,e1,by rw[show q-1+1=q by omega];exact k1,rfl⟩ (by simp[qM,Env.keep,Env.get];omega)
  ·repeat' first|apply Qh|apply Qc|apply Xc|apply Q5|apply Qf|(apply Qg;refine Qj rfl ?_)|(apply Qe;refine XO rfl rfl rfl rfl rfl rfl rfl rfl rfl rfl ?_)|(apply Qb;first|(refine Jb rfl rfl (by omega) ?_)|(refine YX rfl rfl (by omega) ?_)|refine QE rfl ?_|refine Qn rfl ?_|refine Qy rfl rfl ?_|refine XY rfl rfl (by omega) ?_|refine X3 rfl rfl (by omega) ?_)
   exact XA ⟨rfl,rfl,q,_,_,hq0,QaB hY hq hc2,hlt,rfl⟩
def QhJ(h0:Qa)(Y s y1 y0 H u u0:Int)(E:Env)(h:Qa):Prop:=h=h0/\∃ q r:Int,0<=q/\q<18446744073709551616/\0<=r/\r<4294967296/\q*y1+r=H/\H*4294967296+u<(q+1)*Y ∧
 E.keep [2,8,9,10,14,15,16,17,18]=[(2,some (.sc (.int .u64 Y))),(8,some (.sc (.int .u64 s))),(9,some (.sc (.int .u64 y1))),(10,some (.sc (.int .u64 y0))),(14,some (.sc (.int .u64 u))),(15,some (.sc (.int .u64 u0))),(16,some (.sc (.int .u64 r))),(17,some (.sc (.int .u64 H))),(18,some (.sc (.int .u64 q)))]
def Qkf(h0:Qa)(Y s y1 y0 H u u0:Int)(ex:Ex)(E:Env)(h:Qa):Prop:=ex = .ex 2/\h=h0/\∃ q a b,0<=q/\q*Y<=H*4294967296+u/\H*4294967296+u<(q+1)*Y ∧
 E=[(2,some (.sc (.int .u64 Y))),(8,some (.sc (.int .u64 s))),(9,some (.sc (.int .u64 y1))),(10,some (.sc (.int .u64 y0))),(14,some (.sc (.int .u64 u))),(15,some (.sc (.int .u64 u0))),(16,a),(17,some (.sc (.int .u64 H))),(18,some (.sc (.int .u64 q))),b]
theorem QeA(h0:Qa)(Y s y1 y0 H u u0:Int)(hY:Y=y1*4294967296+y0)(hY2:Y<18446744073709551616)(hy0:0<=y0/\y0<4294967296)(hy1:0<y1)(hu:0<=u/\u<4294967296)(hH:0<=H/\H<Y)(E:Env)(h:Qa)(hI:QhJ h0 Y s y1 y0 H u u0 E h) :
  wA FT HKt Qhr (E.keep [2,8,9,10,14,15,16,17,18]) h (QC (QhJ h0 Y s y1 y0 H u u0) (qM [2,8,9,10,14,15,16,17,18] 18) (qM [2,8,9,10,14,15,16,17,18] 18 E h) (Qkf h0 Y s y1 y0 H u u0)):=by
 obtain⟨rfl,q,r,hq0,hq64,hr0,hr,hq,hlt,hE⟩:=hI
 have hm:qM [2,8,9,10,14,15,16,17,18] 18 E h=q.toNat:=by unfold qM;rw[hE];rfl
 rw[hm,hE]
 have nx:4294967296<=q∨4294967296*r+u<q*y0->1<=q:=fun hc=>by
  rcases hc with h|h
  ·omega
  ·refine Classical.byContradiction fun hn=>?_
   obtain rfl:q=0:=by omega
   rw[GY]at h;omega
 by_cases hc1:4294967296<=q
 ·have h1:=nx (.inl hc1)
  have k1:=Ur hY hu hH hq (.inl hc1)
  have e1:(q-1)*y1+(r+y1)=H:=by rw[Int.sub_mul];omega
  have hy1b:y1<4294967296:=by omega
  by_cases hb:4294967296<=r+y1
  ·repeat' first|apply Qh|apply Qc|apply Qz|apply Qm|apply Q5|apply Qf|(refine JU ?_ ?_;rfl)|(apply Qg;refine Qi rfl ?_)|(apply Qe;first|refine Xd rfl rfl rfl rfl rfl rfl rfl rfl rfl ?_|refine XO rfl rfl rfl rfl rfl rfl rfl rfl rfl rfl ?_)|(apply Qb;first|(refine XI rfl rfl (by omega) ?_)|(refine YX rfl rfl (by omega) ?_)|refine Xa rfl ?_|refine Qn rfl ?_|refine QK rfl rfl ?_|refine YD rfl rfl (by omega) ?_)
   exact XA ⟨rfl,rfl,q-1,_,_,by omega,yz hY hy0 hy1 hu hH (by omega) e1 hb,by rw[show q-1+1=q by omega];exact k1,rfl⟩
  ·repeat' first|apply Qh|apply Qc|apply Qz|apply QV|apply Qm|apply Qf|(apply Qg;first|refine Qi rfl ?_|refine Qj rfl ?_)|(apply Qe;first|refine Xd rfl rfl rfl rfl rfl rfl rfl rfl rfl ?_|refine XO rfl rfl rfl rfl rfl rfl rfl rfl rfl rfl ?_)|(apply Qb;first|(refine XI rfl rfl (by omega) ?_)|(refine YX rfl rfl (by omega) ?_)|refine Xa rfl ?_|refine Qn rfl ?_|refine QK rfl rfl ?_|refine YD rfl rfl (by omega) ?_|refine X3 rfl rfl (by omega) ?_)
   exact Xg ⟨rfl,q-1,r+y1,by omega,by omega,by omega,by omega,e1,by rw[show q-1+1=q by omega];exact k1,rfl⟩ (by simp[qM,Env.keep,Env.get];omega)
 ·have hqy:=UW (a:=q) (b:=y0) ⟨hq0,by omega⟩ hy0
  by_cases hc2:4294967296*r+u<q*y0
  ·have h1:=nx (.inr hc2)
   have k1:=Ur hY hu hH hq (.inr hc2)
   have e1:(q-1)*y1+(r+y1)=H:=by rw[Int.sub_mul];omega
   have hy1b:y1<4294967296:=by omega
   by_cases hb:4294967296<=r+y1
   ·repeat' first|apply Qh|apply Qc|apply Qz|apply Qm|apply Q5|apply Qf|(refine JU ?_ ?_;rfl)|(apply Qg;refine Qi rfl ?_)|(apply Qe;first|refine Xd rfl rfl rfl rfl rfl rfl rfl rfl rfl ?_|refine XO rfl rfl rfl rfl rfl rfl rfl rfl rfl rfl ?_)|(apply Qb;first|(refine XI rfl rfl (by omega) ?_)|(refine Jb rfl rfl (by omega) ?_)|(refine YX rfl rfl (by omega) ?_)|refine QE rfl ?_|refine Qn rfl ?_|refine Qy rfl rfl ?_|refine X9 rfl rfl (by omega) ?_|refine YD rfl rfl (by omega) ?_|refine X3 rfl rfl (by omega) ?_)
    exact XA ⟨rfl,rfl,q-1,_,_,by omega,yz hY hy0 hy1 hu hH (by omega) e1 hb,by rw[show q-1+1=q by omega];exact k1,rfl⟩
   ·repeat' first|apply Qh|apply Qc|apply Qz|apply QV|apply Qm|apply Qf|(apply Qg;first|refine Qi rfl ?_|refine Qj rfl ?_)|(apply Qe;first|refine Xd rfl rfl rfl rfl rfl rfl rfl rfl rfl ?_|refine XO rfl rfl rfl rfl rfl rfl rfl rfl rfl rfl ?_)|(apply Qb;first|(refine XI rfl rfl (by omega) ?_)|(refine Jb rfl rfl (by omega) ?_)|(refine YX rfl rfl (by omega) ?_)|refine QE rfl ?_|refine Qn rfl ?_|refine Qy rfl rfl ?_|refine X9 rfl rfl (by omega) ?_|refine X3 rfl rfl (by omega) ?_)
    exact Xg ⟨rfl,q-1,r+y1,by omega,by omega,by omega,by omega,e1,by rw[show q-1+1=q by omega];exact k1,rfl⟩ (by simp[qM,Env.keep,Env.get];omega)
  ·repeat' first|apply Qh|apply Qc|apply Xc|apply Q5|apply Qf|(apply Qg;refine Qj rfl ?_)|(apply Qe;refine XO rfl rfl rfl rfl rfl rfl rfl rfl rfl rfl ?_)|(apply Qb;first|(refine Jb rfl rfl (by omega) ?_)|(refine YX rfl rfl (by omega) ?_)|refine QE rfl ?_|refine Qn rfl ?_|refine Qy rfl rfl ?_|refine XY rfl rfl (by omega) ?_|refine X3 rfl rfl (by omega) ?_)
   exact XA ⟨rfl,rfl,q,_,_,hq0,QaB hY hq hc2,hlt,rfl⟩
theorem Qiy{a b q:Nat}(hb:b<2^q)(h:a*2^q+b<18446744073709551616):IntKind.u64.wrap ((BitVec.ofInt 64 ((a*2^q:Nat):Int) ||| BitVec.ofInt 64 ((b:Nat):Int)).toNat:Int)=((a*2^q+b:Nat):Int):=by
 have e1:(BitVec.ofInt 64 ((a*2^q:Nat):Int)).toNat=a*2^q:=by
  rw[BitVec.ofInt_natCast,BitVec.toNat_ofNat,Hu (by omega)]
 have e2:(BitVec.ofInt 64 ((b:Nat):Int)).toNat=b:=by
  rw[BitVec.ofInt_natCast,BitVec.toNat_ofNat,Hu (by omega)]
 rw[BitVec.toNat_or,e1,e2,Nat.mul_comm a,← Nat.two_pow_add_eq_or_of_lt hb,Nat.mul_comm,Jl]
 omega
section
variable {FT:zzA} {HK:zzH} {E:Env} {h:Qa} {K:Env->Qa->Prop} {d:Option Nat} {r:List AOp} {x y:AO}
theorem Qgs{m q:Nat}{b:Int}{k2:IntKind}(hx:evS E x=some (.int .u64 (m:Nat)))(hy:evS E y=some (.int k2 b))(hb:b=(q:Nat))(hq:q<=64)(hw:Qk FT HK r (Qw d (some (.sc (.int .u64 ((m*2^q%18446744073709551616:Nat):Int)))) E) h K):Qk FT HK (⟨d,.bin .shl x y,none⟩::r) E h K:=by
 refine k_shl hx hy (by omega) ?_ hw
 subst hb
 rw[show min ((q:Nat):Int).toNat IntKind.u64.bits=q by simp[IntKind.bits];omega,Jl]
 have:(((m:Nat):Int)*2^q)=((m*2^q:Nat):Int):=by rw[G3,Int.natCast_pow];rfl
 rw[this];omega
theorem Qgr{m q:Nat}{b:Int}{k2:IntKind}(hx:evS E x=some (.int .u64 (m:Nat)))(hy:evS E y=some (.int k2 b))(hb:b=(q:Nat))(hq:q<=64)(hl:m*2^q<18446744073709551616)(hw:Qk FT HK r (Qw d (some (.sc (.int .u64 ((m*2^q:Nat):Int)))) E) h K):Qk FT HK (⟨d,.bin .shl x y,none⟩::r) E h K :=
 Qgs hx hy hb hq (by rw[Hu hl];exact hw)
theorem Qk5{m q:Nat}{b:Int}{k2:IntKind}(hx:evS E x=some (.int .u64 (m:Nat)))(hy:evS E y=some (.int k2 b))(hb:b=(q:Nat))(hq:q<=64)(hw:Qk FT HK r (Qw d (some (.sc (.int .u64 ((m/2^q:Nat):Int)))) E) h K):Qk FT HK (⟨d,.bin .shr x y,none⟩::r) E h K :=
 XQ hx hy hb hq (by rw[← Int.natCast_ediv];exact hw)
theorem k_orU{m n q:Nat}{a b:Int}(hx:evS E x=some (.int .u64 a))(hy:evS E y=some (.int .u64 b))(ha:a=((m*2^q:Nat):Int))(hb:b=(n:Nat))(hn:n<2^q)(hl:m*2^q+n<18446744073709551616)(hw:Qk FT HK r (Qw d (some (.sc (.int .u64 ((m*2^q+n:Nat):Int)))) E) h K):Qk FT HK (⟨d,.bin .or x y,none⟩::r) E h K:=by
 refine Xi rfl rfl ?_ hw
 subst ha hb
 have:=Qiy hn hl
 simp only[Ql,hx,hy,Je,X8,yN,Gi,Bool.false_eq_true,if_false,if_true,Yg]
 rw[show IntKind.bits .u64=64 from rfl,this];rfl
end
theorem norm{hi lo y s:Nat}(hy:Qck y (64-s))(hs:s<=64)(hlt:hi<y)(hlo:lo<18446744073709551616) :
  9223372036854775808<=y*2^s/\y*2^s<18446744073709551616/\lo/2^(64-s)<2^s/\lo/2^(64-s)=lo*2^s/18446744073709551616/\hi*2^s+lo/2^(64-s)<y*2^s/\0<2^s:=by
 obtain⟨h1,h2,_⟩:=hy
 have hp:2^(64-s)*2^s=18446744073709551616:=by rw[← Nat.pow_add,show 64-s+s=64 by omega]
 have hs0:0<2^s:=Nat.pow_pos (by omega)
 have ht0:0<2^(64-s):=Nat.pow_pos (by omega)
 have a1:lo/2^(64-s)<2^s:=(Nat.div_lt_iff_lt_mul ht0).2 (by rw[Nat.mul_comm,hp];exact hlo)
 have a2:lo/2^(64-s)=lo*2^s/18446744073709551616:=by rw[← hp,Nat.mul_div_mul_right _ _ hs0]
 have a3:=Nat.mul_lt_mul_of_pos_right h1 hs0
 have a4:=Gz (2^s) h2
 have a5:(hi+1)*2^s<=y*2^s:=Gz _ hlt
 rw[GZ,Nat.one_mul]at a5
 rw[hp]at a3 a4
 rw[Nat.mul_assoc]at a4
 refine⟨by omega,a3,a1,a2,by omega,hs0⟩
theorem Qej(h0:Qa)(hi lo y:Nat)(hlt:hi<y)(hlo:lo<18446744073709551616)(hy:y<18446744073709551616) :
  ∃ r h',Cal FT HKt 102 [.sc (.int .u64 (hi:Nat)),.sc (.int .u64 (lo:Nat)),.sc (.int .u64 (y:Nat))] h0 r h'/\h'=h0/\r = .tup [.sc (.int .u64 (((hi*18446744073709551616+lo)/y:Nat):Int)),.sc (.int .u64 (((hi*18446744073709551616+lo)%y:Nat):Int))]:=by
 refine Cal.of (F:=a102) rfl rfl rfl ?_
 by_cases h00:hi=0
 ·subst h00
  have e1:((0*18446744073709551616+lo)/y:Nat)=lo/y:=by rw[Nat.zero_mul,Hc]
  have e2:((0*18446744073709551616+lo)%y:Nat)=lo%y:=by rw[Nat.zero_mul,Hc]
  repeat' first|apply Qh|apply Qc|apply QD|apply Qm|apply Qs|apply Qf|apply QU|apply Xl|apply Xm|(apply Qg;first|refine Qi rfl ?_|refine Qj rfl ?_)|(apply Qe;first|apply QR|refine Qx rfl rfl ?_|refine Qq rfl rfl rfl ?_|refine QA rfl rfl rfl rfl ?_)|(apply Qb;first|(refine UZ rfl rfl (by omega) ?_)|(refine Qgu rfl rfl (by omega) ?_)|refine Qn rfl ?_|refine QaH rfl rfl (by omega) ?_|refine XC rfl rfl (by omega) ?_|refine Xk rfl rfl (by omega) ?_)
  exact⟨.inr rfl,rfl,by rw[e1,e2,Int.natCast_ediv,Int.natCast_emod]⟩
 ·have k89:=Qi9 h0 y ⟨by omega,hy⟩
  repeat' first|apply Qh|apply Qc|apply Qm|apply Qf|(apply Qg;refine Qj rfl ?_)|(apply Qe;first|refine Qq rfl rfl rfl ?_|refine QA rfl rfl rfl rfl ?_|refine QM rfl rfl rfl rfl rfl ?_|refine Q7 rfl rfl rfl rfl rfl rfl ?_|refine Xr rfl rfl rfl rfl rfl rfl rfl ?_)|(apply Qb;first|(refine Qd rfl k89 ?_;rintro v hq ⟨rfl,s,rfl,hs,hL⟩;obtain⟨n1,n2,n3,n4,n5,n6⟩:=norm hL hs hlt hlo)|(refine QbJ rfl (by omega) ?_)|(refine Qgr (m:=y) (q:=s) rfl rfl rfl hs n2 ?_)|(refine Qgr (m:=hi) (q:=s) rfl rfl rfl hs (by omega) ?_)|(refine Qgs (m:=lo) (q:=s) rfl rfl rfl hs ?_)|(refine Qk5 (m:=lo) (q:=64-s) rfl rfl (by omega) (by omega) ?_)|(refine XQ (q:=32) rfl rfl rfl (by omega) ?_)|(refine QaJ (q:=32) rfl rfl (by omega) (by omega) rfl ?_)|(refine XI rfl rfl (by omega) ?_)|(refine k_orU (m:=hi) (n:=lo/2^(64-s)) (q:=s) rfl rfl rfl rfl n3 (by omega) ?_)|refine Qn rfl ?_|refine QaH rfl rfl (by omega) ?_|refine Xk rfl rfl (by omega) ?_)
  have t1:((hi*18446744073709551616+lo)*2^s:Nat)=(hi*2^s+lo/2^(64-s))*18446744073709551616+lo*2^s%18446744073709551616:=by
   rw[n4,GZ,Nat.mul_right_comm]
   generalize hi*2^s=a
   generalize lo*2^s=b
   omega
  have t2:=fun z:Nat=>Nat.mul_div_mul_right (hi*18446744073709551616+lo) z n6
  obtain⟨P,hP⟩:∃ P:Nat,2^s=P:=⟨_,rfl⟩
  have key:∀ Q R:Int,0<=R->R<((y*2^s:Nat):Int)->Q*((y*2^s:Nat):Int)+R=(((hi*18446744073709551616+lo)*2^s:Nat):Int)->((((hi*18446744073709551616+lo)/y:Nat):Int)=Q/\(((hi*18446744073709551616+lo)%y:Nat):Int)=R/(2^s:Nat)):=by
   rw[hP]at n6 ⊢
   intro Q R r1 r2 r3
   have hyp:(0:Int)<(y:Nat):=by omega
   have hPp:(0:Int)<(P:Nat):=by omega
   rw[G3,G3]at r3
   rw[G3]at r2
   generalize hT:((hi*18446744073709551616+lo:Nat):Int)=T at *
   have q1:T/(y:Nat)=Q:=by
    refine QgW hyp (Int.le_of_mul_le_mul_right (a:=(P:Nat)) ?_ hPp) (Int.lt_of_mul_lt_mul_right (a:=(P:Nat)) ?_ (Int.le_of_lt hPp))
    ·rw[GB];omega
    ·rw[GB,Ho,G5];omega
   have q2:R=(T-Q*(y:Nat))*(P:Nat):=by rw[Int.sub_mul,GB];omega
   have q3:T%(y:Nat)=T-Q*(y:Nat):=by
    have:=Int.emod_add_ediv_mul T (y:Nat)
    rw[q1]at this;omega
   rw[Int.natCast_ediv,Int.natCast_emod,hT,q1,q3,q2,Int.mul_ediv_cancel _ (by omega)]
   exact⟨rfl,rfl⟩
  rw[t1]at key
  rw[Int.natCast_add ((hi*2^s+lo/2^(64-s))*18446744073709551616),G3 (hi*2^s+lo/2^(64-s))]at key
  have b1:(9223372036854775808:Int)<=((y*2^s:Nat):Int)/\((y*2^s:Nat):Int)<18446744073709551616:=by omega
  have b2:0<=((hi*2^s+lo/2^(64-s):Nat):Int)/\((hi*2^s+lo/2^(64-s):Nat):Int)<((y*2^s:Nat):Int):=by omega
  have b3:0<=((lo*2^s%18446744073709551616:Nat):Int)/\((lo*2^s%18446744073709551616:Nat):Int)<18446744073709551616:=by omega
  clear t1 t2 n1 n2 n3 n4 n5
  generalize ((y*2^s:Nat):Int)=Y at *
  generalize ((hi*2^s+lo/2^(64-s):Nat):Int)=H at *
  generalize ((lo*2^s%18446744073709551616:Nat):Int)=L at *
  have hY:Y=Y/(2^32:Nat)*4294967296+Y%(2^32:Nat):=by omega
  have hy0:0<=Y%(2^32:Nat)/\Y%(2^32:Nat)<4294967296:=by omega
  have hy1:0<Y/(2^32:Nat)/\Y/(2^32:Nat)<4294967296:=by omega
  have hL2:L=L/(2^32:Nat)*4294967296+L%(2^32:Nat):=by omega
  have hu1:0<=L/(2^32:Nat)/\L/(2^32:Nat)<4294967296:=by omega
  have hu0:0<=L%(2^32:Nat)/\L%(2^32:Nat)<4294967296:=by omega
  generalize Y/((2^32:Nat):Int)=y1 at *
  generalize Y%((2^32:Nat):Int)=y0 at *
  generalize L/((2^32:Nat):Int)=u1 at *
  generalize L%((2^32:Nat):Int)=u0 at *
  obtain⟨f1,f2,f3,f4,f5⟩:=QbG (u:=u1) hY hy0.1 hy1.1 hu1.2 b2.1
  have f6:H/y1<=H:=Hh _ b2.1
  have f7:0<=H/y1*y1:=Ha f5 (by omega)
  repeat' first|apply Qh|apply Qc|apply Qz|apply Qf|(apply Qe;first|refine Xh rfl rfl rfl rfl rfl rfl rfl rfl ?_|refine Xd rfl rfl rfl rfl rfl rfl rfl rfl rfl ?_)|(apply Qb;first|(refine UZ rfl rfl ⟨b2.1,by omega,hy1.1⟩ ?_)|(refine Jb rfl rfl (by omega) ?_)|(refine XI rfl rfl (by omega) ?_)|refine Qn rfl ?_)
  refine YK (QhK hq Y s y1 y0 H u1 u0) (qM [2,8,9,10,11,13,14,15,16] 15) (Qkg hq Y s y1 y0 H u1 u0) ⟨rfl,H/y1,H-H/y1*y1,f5,by omega,f2,by omega,f1,f4,rfl⟩ (QeB hq Y s y1 y0 H u1 u0 hY b1.2 hy0 hy1.1 hu1 b2) ?_
  rintro ex E' hh ⟨rfl,rfl,q1,a,b,g1,g2,g3,rfl⟩
  have g4:=Qjw b2.2 hu1.2 (by omega) g2
  rw[Ho,G5]at g3
  have eD:((H*4294967296%18446744073709551616+u1)%18446744073709551616-q1*Y%18446744073709551616)%18446744073709551616=H*4294967296+u1-q1*Y:=by omega
  have hD:0<=H*4294967296+u1-q1*Y/\H*4294967296+u1-q1*Y<Y:=by omega
  repeat' first|apply Qh|apply Qc|apply Q8|apply Qf|(apply Qe;refine Xr rfl rfl rfl rfl rfl rfl rfl ?_)|(apply Qb;first|(refine QaG rfl rfl ?_)|(refine QgA rfl rfl ?_)|(refine QcL rfl rfl ?_;rw[eD])|refine Qn rfl ?_)
  generalize hDe:H*4294967296+u1-q1*Y=D at *
  obtain⟨i1,i2,i3,i4,i5⟩:=QbG (u:=u0) hY hy0.1 hy1.1 hu0.2 hD.1
  have i6:D/y1<=D:=Hh _ hD.1
  have i7:0<=D/y1*y1:=Ha i5 (by omega)
  repeat' first|apply Qh|apply Qc|apply Qz|apply Qf|(apply Qe;first|refine Xh rfl rfl rfl rfl rfl rfl rfl rfl ?_|refine Xd rfl rfl rfl rfl rfl rfl rfl rfl rfl ?_)|(apply Qb;first|(refine UZ rfl rfl ⟨hD.1,by omega,hy1.1⟩ ?_)|(refine Jb rfl rfl (by omega) ?_)|(refine XI rfl rfl (by omega) ?_)|refine Qn rfl ?_)
  refine YK (QhJ _ Y s y1 y0 D u0 q1) (qM [2,8,9,10,14,15,16,17,18] 18) (Qkf _ Y s y1 y0 D u0 q1) ⟨rfl,D/y1,D-D/y1*y1,i5,by omega,i2,by omega,i1,i4,rfl⟩ (QeA _ Y s y1 y0 D u0 q1 hY b1.2 hy0 hy1.1 hu0 hD) ?_
  rintro ex E' hh ⟨rfl,rfl,q0,a,b,j1,j2,j3,rfl⟩
  have j4:=Qjw hD.2 hu0.2 (by omega) j2
  rw[Ho,G5]at j3
  have eR:(D*4294967296%18446744073709551616+u0-q0*Y%18446744073709551616)%18446744073709551616=D*4294967296+u0-q0*Y:=by omega
  have hR:0<=D*4294967296+u0-q0*Y/\D*4294967296+u0-q0*Y<Y:=by omega
  have eQ:(q1*4294967296+q0)*Y+(D*4294967296+u0-q0*Y)=H*(18446744073709551616:Nat)+L:=by
   rw[Ho,Int.mul_right_comm]
   generalize q1*Y=z1 at *
   generalize q0*Y=z0 at *
   omega
  obtain⟨k1,k2⟩:=key (q1*4294967296+q0) (D*4294967296+u0-q0*Y) hR.1 hR.2 eQ
  rw[k1,k2]
  repeat' first|apply Qh|apply Qc|apply Q8|apply Qs|apply Qf|(apply Qe;refine Qx rfl rfl ?_)|(apply Qb;first|(refine Jb rfl rfl (by omega) ?_)|(refine YX rfl rfl (by omega) ?_)|(refine QaG rfl rfl ?_)|(refine QcL rfl rfl ?_;rw[eR])|(refine XQ (q:=s) rfl rfl rfl hs ?_)|refine Qn rfl ?_)
  exact⟨.inr rfl,rfl,rfl⟩
theorem Qa2{v:Int}(h0:0<=v)(h1:v<340282366920938463463374607431768211456):wd v=[.int .u64 (v/18446744073709551616),.int .u64 (v%18446744073709551616)]:=by
 unfold wd
 rw[Hr (a:=v/18446744073709551616) (by omega) (by omega)]
theorem Qlx(h0:Qa)(v:Int)(hv : -9223372036854775808<=v/\v<=9223372036854775807):∃ r h',Cal FT HKt 71 [.sc (.int .i64 v)] h0 r h'/\Ext h0 h'/\r = .agg (wd v):=by
 refine Cal.of (F:=a71) rfl rfl rfl ?_
 have e:v.fdiv (2^(min (63:Int).toNat IntKind.i64.bits))=v/9223372036854775808:=by
  rw[show min (63:Int).toNat IntKind.i64.bits=63 by simp[IntKind.bits],Int.fdiv_eq_ediv_of_nonneg _ (by omega)]
  rfl
 repeat' first|apply Qh|apply Qc|apply Qs|apply Qf|(apply Qe;first|refine Qp rfl ?_|refine Qx rfl rfl ?_)|(apply Qb;first|(apply QQ;intro h2 e2 c2)|(refine Qjy rfl rfl (by omega) e ?_)|(refine QdX rfl ?_)|(refine Xp rfl rfl ?_)|(refine QZ rfl rfl c2 ?_;intro h3 w3)|refine Qn rfl ?_)
 refine⟨.inr rfl,QY rfl w3.cel.read ⟨w3.ext e2 (Ge _),?_⟩⟩
 unfold wd
 rw[show v/9223372036854775808%18446744073709551616=v/18446744073709551616%18446744073709551616 by omega]
theorem Qg8(h0:Qa)(v:Int)(hv : -170141183460469231731687303715884105728<v/\v<170141183460469231731687303715884105728):∃ r h',Cal FT HKt 72 [.agg (wd v)] h0 r h'/\Ext h0 h'/\r = .sc (.bool (decide (v=0))):=by
 refine Cal.of (F:=a72) rfl rfl rfl ?_
 by_cases h:v=0
 ·subst h
  rw[decide_eq_true rfl]
  unfold wd
  repeat' first|apply Qh|apply Qc|apply Qs|apply Qf|(apply Qe;refine Qp rfl ?_)|(apply Qb;first|(refine Qr rfl ?_;intro h1 e1 c1)|refine QB rfl c1 ?_|refine Qt rfl c1 ?_|refine QE rfl ?_|refine Qn rfl ?_|refine QK rfl rfl ?_|refine XC rfl rfl (by omega) ?_|refine Xt rfl rfl ?_)
  exact⟨.inr rfl,e1,rfl⟩
 ·rw[decide_eq_false h]
  by_cases h2:v/18446744073709551616%18446744073709551616=0
  ·have h3:v%18446744073709551616≠0:=by omega
   unfold wd
   repeat' first|apply Qh|apply Qc|apply Qs|apply Qf|(apply Qe;refine Qp rfl ?_)|(apply Qb;first|(refine Qr rfl ?_;intro h1 e1 c1)|refine QB rfl c1 ?_|refine Qt rfl c1 ?_|refine QE rfl ?_|refine Qn rfl ?_|refine QK rfl rfl ?_|refine XC rfl rfl (by omega) ?_|refine Xk rfl rfl (by omega) ?_|refine Xt rfl rfl ?_)
   exact⟨.inr rfl,e1,rfl⟩
  ·unfold wd
   repeat' first|apply Qh|apply Qc|apply Qs|apply Qf|(apply Qe;refine Qp rfl ?_)|(apply Qb;first|(refine Qr rfl ?_;intro h1 e1 c1)|refine QB rfl c1 ?_|refine Xa rfl ?_|refine Qn rfl ?_|refine Qy rfl rfl ?_|refine Xk rfl rfl (by omega) ?_|refine Xt rfl rfl ?_)
   exact⟨.inr rfl,e1,rfl⟩
theorem Qg6(h0:Qa)(v:Int)(hv : -170141183460469231731687303715884105728<v/\v<170141183460469231731687303715884105728):∃ r h',Cal FT HKt 88 [.agg (wd v)] h0 r h'/\Ext h0 h'/\r = .tup [.agg (wd (v.natAbs:Int)),.sc (.bool (decide (v<0)))]:=by
 refine Cal.of (F:=a88) rfl rfl rfl ?_
 have k74:=fun H=>Qeh H v
 by_cases h:v<0
 ·rw[decide_eq_true h]
  have e:v/18446744073709551616%18446744073709551616/(2^63:Nat)=1:=by omega
  have ea:(v.natAbs:Int) = -v:=by omega
  rw[ea]
  generalize hw:wd (-v)=W at *
  unfold wd at k74 ⊢
  obtain⟨w1,w2,rfl⟩:∃ w1 w2,W=[w1,w2]:=⟨_,_,hw.symm⟩
  repeat' first|apply Qh|apply Qc|apply QD|apply Qs|apply Qf|(apply Qg;refine Qi rfl ?_)|(apply Qe;first|refine Qx rfl rfl ?_|refine Qq rfl rfl rfl ?_)|(apply Qb;first|(have z:=e1;apply QQ;intro h2 e2 c2;have d2:=c1.ext e2)|(refine Qr rfl ?_;intro h1 e1 c1)|refine QB rfl d2 ?_|refine Qv rfl d2 ?_|(refine XQ (q:=63) rfl rfl rfl (by omega) ?_;rw[e])|(refine Qd rfl (k74 _) ?_;rintro r h3 ⟨e3,rfl⟩;have c3:=c2.ext e3)|(refine QZ rfl rfl c3 ?_;intro h4 w4)|refine Qn rfl ?_|refine XC rfl rfl (by omega) ?_|refine Xt rfl rfl ?_)
  exact⟨.inr rfl,XL rfl w4.cel.read rfl ⟨w4.ext (e1.trans (e2.trans e3)) e1.len,rfl⟩⟩
 ·rw[decide_eq_false h]
  have e:v/18446744073709551616%18446744073709551616/(2^63:Nat)=0:=by omega
  have ea:(v.natAbs:Int)=v:=by omega
  rw[ea]
  unfold wd
  repeat' first|apply Qh|apply Qc|apply Qm|apply Qs|apply Qf|(apply Qg;refine Qj rfl ?_)|(apply Qe;first|refine Qx rfl rfl ?_|refine Qq rfl rfl rfl ?_)|(apply Qb;first|(have z:=e1;apply QQ;intro h2 e2 c2;have d2:=c1.ext e2)|(refine Qr rfl ?_;intro h1 e1 c1)|refine QB rfl d2 ?_|refine Qv rfl d2 ?_|(refine XQ (q:=63) rfl rfl rfl (by omega) ?_;rw[e])|(refine QZ rfl rfl c2 ?_;intro h4 w4)|refine Qn rfl ?_|refine Xk rfl rfl (by omega) ?_|refine Xt rfl rfl ?_)
  exact⟨.inr rfl,XL rfl w4.cel.read rfl ⟨w4.ext (e1.trans e2) e1.len,rfl⟩⟩
def smV(v:Int):Int:=if v.natAbs<=1125899906842624 then v else 0
theorem QlD(h0:Qa)(v:Int)(hv : -170141183460469231731687303715884105728<v/\v<170141183460469231731687303715884105728):∃ r h',Cal FT HKt 59 [.agg (wd v)] h0 r h'/\Ext h0 h'/\r = .tup [.sc (.int .i64 (smV v)),.sc (.bool (decide (v.natAbs<=1125899906842624)))]:=by
 refine Cal.of (F:=a59) rfl rfl rfl ?_
 have k69:=fun H=>Qg6 H v hv
 rw[Qa2 (v:=(v.natAbs:Int)) (by omega) (by omega)]at k69
 unfold smV
 generalize hW:wd v=W at *
 obtain⟨w1,w2,rfl⟩:∃ w1 w2,W=[w1,w2]:=⟨_,_,hW.symm⟩
 generalize hm:v.natAbs=m at *
 by_cases h1:m<=1125899906842624
 ·rw[if_pos h1,decide_eq_true h1]
  have e0:((m:Nat):Int)/18446744073709551616=0:=by omega
  have e1:((m:Nat):Int)%18446744073709551616=m:=by omega
  rw[e0,e1]at k69
  by_cases h3:v<0
  ·rw[decide_eq_true h3]at k69
   repeat' first|apply Qh|apply Qc|apply QD|apply Qm|apply Qs|apply Qf|(apply Qg;first|refine Qi rfl ?_|refine Qj rfl ?_)|(apply Qe;first|refine Qp rfl ?_|refine Qx rfl rfl ?_|refine Qq rfl rfl rfl ?_)|(apply Qb;first|(refine Qr rfl ?_;intro h1 e1 c1)|refine Qv rfl c1 ?_|(refine Qd rfl (k69 _) ?_;rintro r h3 ⟨e3,rfl⟩)|(refine QT rfl ?_;intro h4 e4 c4)|refine QB rfl c4 ?_|refine Qt rfl c4 ?_|refine QE rfl ?_|refine Qn rfl ?_|refine Qy rfl rfl ?_|refine Zy rfl (by omega) ?_|refine YE rfl (by omega) ?_|refine XY rfl rfl (by omega) ?_|refine X2 rfl rfl (by omega) ?_|refine Xt rfl rfl ?_)
   exact⟨.inr rfl,e1.trans (e3.trans e4),by rw[show v = -((m:Nat):Int) by omega]⟩
  ·rw[decide_eq_false h3]at k69
   repeat' first|apply Qh|apply Qc|apply Qm|apply Qs|apply Qf|(apply Qg;refine Qj rfl ?_)|(apply Qe;first|refine Qp rfl ?_|refine Qx rfl rfl ?_|refine Qq rfl rfl rfl ?_)|(apply Qb;first|(refine Qr rfl ?_;intro h1 e1 c1)|refine Qv rfl c1 ?_|(refine Qd rfl (k69 _) ?_;rintro r h3 ⟨e3,rfl⟩)|(refine QT rfl ?_;intro h4 e4 c4)|refine QB rfl c4 ?_|refine Qt rfl c4 ?_|refine QE rfl ?_|refine Qn rfl ?_|refine Qy rfl rfl ?_|refine YE rfl (by omega) ?_|refine XY rfl rfl (by omega) ?_|refine X2 rfl rfl (by omega) ?_|refine Xt rfl rfl ?_)
   exact⟨.inr rfl,e1.trans (e3.trans e4),by rw[show v=((m:Nat):Int) by omega]⟩
 ·rw[if_neg h1,decide_eq_false h1]
  by_cases h2:((m:Nat):Int)/18446744073709551616=0
  ·have e1:((m:Nat):Int)%18446744073709551616=m:=by omega
   rw[h2,e1]at k69
   repeat' first|apply Qh|apply Qc|apply QD|apply Qs|apply Qf|(apply Qg;refine Qi rfl ?_)|(apply Qe;first|refine Qp rfl ?_|refine Qx rfl rfl ?_|refine Qq rfl rfl rfl ?_)|(apply Qb;first|(refine Qr rfl ?_;intro h1 e1 c1)|refine Qv rfl c1 ?_|(refine Qd rfl (k69 _) ?_;rintro r h3 ⟨e3,rfl⟩)|(refine QT rfl ?_;intro h4 e4 c4)|refine QB rfl c4 ?_|refine Qt rfl c4 ?_|refine QE rfl ?_|refine Qn rfl ?_|refine Qy rfl rfl ?_|refine X9 rfl rfl (by omega) ?_|refine X2 rfl rfl (by omega) ?_|refine Xt rfl rfl ?_)
   exact⟨.inr rfl,e1.trans (e3.trans e4),rfl⟩
  ·repeat' first|apply Qh|apply Qc|apply QD|apply Qs|apply Qf|(apply Qg;refine Qi rfl ?_)|(apply Qe;first|refine Qp rfl ?_|refine Qx rfl rfl ?_|refine Qq rfl rfl rfl ?_)|(apply Qb;first|(refine Qr rfl ?_;intro h1 e1 c1)|refine Qv rfl c1 ?_|(refine Qd rfl (k69 _) ?_;rintro r h3 ⟨e3,rfl⟩)|(refine QT rfl ?_;intro h4 e4 c4)|refine QB rfl c4 ?_|refine Xa rfl ?_|refine Qn rfl ?_|refine QK rfl rfl ?_|refine Zh rfl rfl (by omega) ?_|refine Xt rfl rfl ?_)
   exact⟨.inr rfl,e1.trans (e3.trans e4),rfl⟩
theorem Qg7(h0:Qa)(x y:Int)(hx : -9223372036854775808<=x/\x<=9223372036854775807)(hy : -9223372036854775808<=y/\y<=9223372036854775807) :
  ∃ r h',Cal FT HKt 74 [.sc (.int .i64 x),.sc (.int .i64 y)] h0 r h'/\Ext h0 h'/\r = .agg (wd (x*y)):=by
 refine Cal.of (F:=a74) rfl rfl rfl ?_
 have hm0:(0:Int)<=(x.natAbs:Int)*(y.natAbs:Int):=Ha (by omega) (by omega)
 have hm1:(x.natAbs:Int)*(y.natAbs:Int)<=9223372036854775808*9223372036854775808:=by
  have h1:(x.natAbs:Int)*(y.natAbs:Int)<=9223372036854775808*(y.natAbs:Int):=Gy (by omega) (by omega)
  omega
 have hm:((x.natAbs:Int)*(y.natAbs:Int))=((x*y).natAbs:Int):=by rw[He,G3]
 have kx:=fun H=>QaW H x hx
 have ky:=fun H=>QaW H y hy
 have km:=fun H=>Qei H (x.natAbs:Int) (y.natAbs:Int) (by omega) (by omega)
 have kn:=fun H=>Qeh H ((x.natAbs:Int)*(y.natAbs:Int))
 rw[Qa2 hm0 (by omega)]at kn
 by_cases h1:x<0
 ·by_cases h2:y<0
  ·have e:x*y=(x.natAbs:Int)*(y.natAbs:Int):=by
    rw[show (x.natAbs:Int) = -x by omega,show (y.natAbs:Int) = -y by omega,Int.neg_mul_neg]
   rw[e,Qa2 hm0 (by omega)]
   generalize (x.natAbs:Int)*(y.natAbs:Int)=m at *
   repeat' first|apply Qh|apply Qc|apply Qm|apply Qs|apply Qf|(apply Qg;refine Qj rfl ?_)|(apply Qe;first|refine Qp rfl ?_|refine Qq rfl rfl rfl ?_|refine QA rfl rfl rfl rfl ?_|refine QM rfl rfl rfl rfl rfl ?_)|(apply Qb;first|(have z:=e4;refine qI rfl rfl ?_)|(have z:=e4;refine Qv rfl c4 ?_)|(refine QT rfl ?_;intro h4 e4 c4;have d1:=c1.ext e4)|(apply QQ;intro h1 e1 c1)|(refine Qd rfl (kx _) ?_;rintro r _ ⟨rfl,rfl⟩)|(refine Qd rfl (ky _) ?_;rintro r _ ⟨rfl,rfl⟩)|(refine Qd rfl (km _) ?_;rintro r _ ⟨rfl,rfl⟩)|(refine QZ rfl rfl d1 ?_;intro h5 w5)|refine Qn rfl ?_|refine QH rfl rfl (by omega) ?_|refine Xt rfl rfl ?_)
   exact⟨.inr rfl,QY rfl w5.cel.read ⟨w5.ext (e1.trans e4) (Ge _),rfl⟩⟩
  ·have e:x*y = -((x.natAbs:Int)*(y.natAbs:Int)):=by
    rw[show (x.natAbs:Int) = -x by omega,show (y.natAbs:Int)=y by omega,Int.neg_mul,Int.neg_neg]
   rw[e]
   generalize (x.natAbs:Int)*(y.natAbs:Int)=m at *
   repeat' first|apply Qh|apply Qc|apply QD|apply Qs|apply Qf|(apply Qg;refine Qi rfl ?_)|(apply Qe;first|refine Qp rfl ?_|refine Qq rfl rfl rfl ?_|refine QA rfl rfl rfl rfl ?_|refine QM rfl rfl rfl rfl rfl ?_)|(apply Qb;first|(have z:=e4;refine qI rfl rfl ?_)|(have z:=e4;refine Qv rfl c4 ?_)|(refine QT rfl ?_;intro h4 e4 c4;have d1:=c1.ext e4)|(apply QQ;intro h1 e1 c1)|(refine Qd rfl (kx _) ?_;rintro r _ ⟨rfl,rfl⟩)|(refine Qd rfl (ky _) ?_;rintro r _ ⟨rfl,rfl⟩)|(refine Qd rfl (km _) ?_;rintro r _ ⟨rfl,rfl⟩)|(refine Qd rfl (kn _) ?_;rintro r h6 ⟨e6,rfl⟩;have d6:=d1.ext e6)|(refine QZ rfl rfl d6 ?_;intro h5 w5)|refine Qn rfl ?_|refine QH rfl rfl (by omega) ?_|refine QW rfl rfl (by omega) ?_|refine Xt rfl rfl ?_)
   exact⟨.inr rfl,QY rfl w5.cel.read ⟨w5.ext (e1.trans (e4.trans e6)) (Ge _),rfl⟩⟩
 ·by_cases h2:y<0
  ·have e:x*y = -((x.natAbs:Int)*(y.natAbs:Int)):=by
    rw[show (x.natAbs:Int)=x by omega,show (y.natAbs:Int) = -y by omega,Int.mul_neg,Int.neg_neg]
   rw[e]
   generalize (x.natAbs:Int)*(y.natAbs:Int)=m at *
   repeat' first|apply Qh|apply Qc|apply QD|apply Qs|apply Qf|(apply Qg;refine Qi rfl ?_)|(apply Qe;first|refine Qp rfl ?_|refine Qq rfl rfl rfl ?_|refine QA rfl rfl rfl rfl ?_|refine QM rfl rfl rfl rfl rfl ?_)|(apply Qb;first|(have z:=e4;refine qI rfl rfl ?_)|(have z:=e4;refine Qv rfl c4 ?_)|(refine QT rfl ?_;intro h4 e4 c4;have d1:=c1.ext e4)|(apply QQ;intro h1 e1 c1)|(refine Qd rfl (kx _) ?_;rintro r _ ⟨rfl,rfl⟩)|(refine Qd rfl (ky _) ?_;rintro r _ ⟨rfl,rfl⟩)|(refine Qd rfl (km _) ?_;rintro r _ ⟨rfl,rfl⟩)|(refine Qd rfl (kn _) ?_;rintro r h6 ⟨e6,rfl⟩;have d6:=d1.ext e6)|(refine QZ rfl rfl d6 ?_;intro h5 w5)|refine Qn rfl ?_|refine QH rfl rfl (by omega) ?_|refine QW rfl rfl (by omega) ?_|refine Xt rfl rfl ?_)
   exact⟨.inr rfl,QY rfl w5.cel.read ⟨w5.ext (e1.trans (e4.trans e6)) (Ge _),rfl⟩⟩
  ·have e:x*y=(x.natAbs:Int)*(y.natAbs:Int):=by
    rw[show (x.natAbs:Int)=x by omega,show (y.natAbs:Int)=y by omega]
   rw[e,Qa2 hm0 (by omega)]
   generalize (x.natAbs:Int)*(y.natAbs:Int)=m at *
   repeat' first|apply Qh|apply Qc|apply Qm|apply Qs|apply Qf|(apply Qg;refine Qj rfl ?_)|(apply Qe;first|refine Qp rfl ?_|refine Qq rfl rfl rfl ?_|refine QA rfl rfl rfl rfl ?_|refine QM rfl rfl rfl rfl rfl ?_)|(apply Qb;first|(have z:=e4;refine qI rfl rfl ?_)|(have z:=e4;refine Qv rfl c4 ?_)|(refine QT rfl ?_;intro h4 e4 c4;have d1:=c1.ext e4)|(apply QQ;intro h1 e1 c1)|(refine Qd rfl (kx _) ?_;rintro r _ ⟨rfl,rfl⟩)|(refine Qd rfl (ky _) ?_;rintro r _ ⟨rfl,rfl⟩)|(refine Qd rfl (km _) ?_;rintro r _ ⟨rfl,rfl⟩)|(refine QZ rfl rfl d1 ?_;intro h5 w5)|refine Qn rfl ?_|refine QW rfl rfl (by omega) ?_|refine Xt rfl rfl ?_)
   exact⟨.inr rfl,QY rfl w5.cel.read ⟨w5.ext (e1.trans e4) (Ge _),rfl⟩⟩
def JY(v c:Int):Prop:=c ∣ v/\(v/c).natAbs<=1125899906842624
instance (v c:Int):Decidable (JY v c):=inferInstanceAs (Decidable (_∧_))
theorem Qir{v c:Int}:JY v c↔v.natAbs%c.natAbs=0/\v.natAbs/c.natAbs<=1125899906842624:=by
 unfold JY
 rw[← Nat.dvd_iff_mod_eq_zero,Int.natAbs_dvd_natAbs]
 constructor
 ·rintro⟨a,b⟩
  rw[Int.natAbs_ediv_of_dvd a]at b
  exact⟨a,b⟩
 ·rintro⟨a,b⟩
  rw[← Int.natAbs_ediv_of_dvd a]at b
  exact⟨a,b⟩
theorem Qip{v c:Int}(hc:c≠0)(h:JY v c):v/c=if decide (v<0)=decide (c<0) then ((v.natAbs/c.natAbs:Nat):Int) else -((v.natAbs/c.natAbs:Nat):Int):=by
 obtain⟨⟨k,rfl⟩,_⟩:=h
 rw[← Int.natAbs_ediv_of_dvd (Int.dvd_mul_right c k),Int.mul_ediv_cancel_left _ hc]
 have h1:0<k->0<c->0<c*k:=fun a b=>Int.mul_pos b a
 have h2:0<k->c<0->c*k<0:=fun a b=>Int.mul_neg_of_neg_of_pos b a
 have h3:k<0->0<c->c*k<0:=fun a b=>Int.mul_neg_of_pos_of_neg b a
 have h4:k<0->c<0->0<c*k:=fun a b=>Int.mul_pos_of_neg_of_neg b a
 by_cases hk:k=0
 ·subst hk;simp
 by_cases a:c*k<0 <;> by_cases b:c<0
 ·rw[decide_eq_true a,decide_eq_true b,if_pos rfl];omega
 ·rw[decide_eq_true a,decide_eq_false b,if_neg (by simp)];omega
 ·rw[decide_eq_false a,decide_eq_true b,if_neg (by simp)];omega
 ·rw[decide_eq_false a,decide_eq_false b,if_pos rfl];omega
theorem Qlw(h0:Qa)(v c:Int)(hv : -170141183460469231731687303715884105728<v/\v<170141183460469231731687303715884105728)(hc : -9223372036854775808<=c/\c<=9223372036854775807)(hc0:c≠0) :
  ∃ r h',Cal FT HKt 73 [.agg (wd v),.sc (.int .i64 c)] h0 r h'/\Ext h0 h'/\r = .tup [.sc (.int .i64 (if JY v c then v/c else 0)),.sc (.bool (decide (JY v c)))]:=by
 refine Cal.of (F:=a73) rfl rfl rfl ?_
 have k69:=fun H=>Qg6 H v hv
 have k70:=fun H=>QaW H c hc
 rw[Qa2 (v:=(v.natAbs:Int)) (by omega) (by omega)]at k69
 rw[show ((v.natAbs:Nat):Int)/18446744073709551616=((v.natAbs/18446744073709551616:Nat):Int) by omega,show ((v.natAbs:Nat):Int)%18446744073709551616=((v.natAbs%18446744073709551616:Nat):Int) by omega]at k69
 have hq:=@Qir _ v c
 have hval:=@Qip _ v c hc0
 have k71:=fun H hlt=>Qej H (v.natAbs/18446744073709551616) (v.natAbs%18446744073709551616) c.natAbs hlt (by omega) (by omega)
 rw[show v.natAbs/18446744073709551616*18446744073709551616+v.natAbs%18446744073709551616=v.natAbs by omega]at k71
 have hb:1<=c.natAbs:=by omega
 have hQ:c.natAbs*18446744073709551616<=v.natAbs->18446744073709551616<=v.natAbs/c.natAbs:=fun h=>(Nat.le_div_iff_mul_le (by omega)).2 (by rw[Nat.mul_comm];exact h)
 have hlo:v.natAbs/18446744073709551616<c.natAbs∨c.natAbs*18446744073709551616<=v.natAbs:=by omega
 generalize hW:wd v=W at *
 obtain⟨w1,w2,rfl⟩:∃ w1 w2,W=[w1,w2]:=⟨_,_,hW.symm⟩
 by_cases hov:v.natAbs/18446744073709551616<c.natAbs
 ·have k71':=fun H=>k71 H hov
  generalize hqq:v.natAbs/c.natAbs=Q at *
  generalize hrr:v.natAbs%c.natAbs=R at *
  generalize v.natAbs/18446744073709551616=m1 at *
  generalize v.natAbs%18446744073709551616=m0 at *
  generalize c.natAbs=cb at *
  by_cases hR:R=0
  ·by_cases hQ2:Q<=1125899906842624
   ·have ok:JY v c:=hq.2 ⟨hR,hQ2⟩
    rw[if_pos ok,decide_eq_true ok,hval ok]
    by_cases hs:decide (v<0)=decide (c<0)
    ·rw[if_pos hs]
     generalize hsv:decide (v<0)=sv at *
     by_cases hcn:c<0
     ·rw[decide_eq_true hcn]at hs
      subst hs
      repeat' first|apply Qh|apply Qc|apply Qm|apply Qs|apply Qf|(apply Qg;refine Qj rfl ?_)|(apply Qe;first|refine Qx rfl rfl ?_|refine Qq rfl rfl rfl ?_|refine QA rfl rfl rfl rfl ?_|refine QM rfl rfl rfl rfl rfl ?_)|(apply Qb;first|(have z:=e6;refine qI rfl rfl ?_)|(refine Qr rfl ?_;intro h1 e1 c1)|refine Qv rfl c1 ?_|(refine Qd rfl (k69 _) ?_;rintro r h3 ⟨e3,rfl⟩)|(refine QT rfl ?_;intro h4 e4 c4)|(refine Qd rfl (k70 _) ?_;rintro r h5 ⟨rfl,e5⟩;have e6:Ext h4 h5:=e5 ▸ Ext.refl _;have c5:=c4.ext e6)|refine QB rfl c5 ?_|refine Qt rfl c5 ?_|(refine Qd rfl (k71' _) ?_;rintro r _ ⟨rfl,rfl⟩)|refine QE rfl ?_|refine Qn rfl ?_|refine Qy rfl rfl ?_|refine YE rfl (by omega) ?_|refine QH rfl rfl (by omega) ?_|refine XY rfl rfl (by omega) ?_|refine X3 rfl rfl (by omega) ?_|refine X2 rfl rfl (by omega) ?_|refine Xt rfl rfl ?_)
      exact⟨.inr rfl,e1.trans (e3.trans (e4.trans e6)),rfl⟩
     ·rw[decide_eq_false hcn]at hs
      subst hs
      repeat' first|apply Qh|apply Qc|apply Qm|apply Qs|apply Qf|(apply Qg;refine Qj rfl ?_)|(apply Qe;first|refine Qx rfl rfl ?_|refine Qq rfl rfl rfl ?_|refine QA rfl rfl rfl rfl ?_|refine QM rfl rfl rfl rfl rfl ?_)|(apply Qb;first|(have z:=e6;refine qI rfl rfl ?_)|(refine Qr rfl ?_;intro h1 e1 c1)|refine Qv rfl c1 ?_|(refine Qd rfl (k69 _) ?_;rintro r h3 ⟨e3,rfl⟩)|(refine QT rfl ?_;intro h4 e4 c4)|(refine Qd rfl (k70 _) ?_;rintro r h5 ⟨rfl,e5⟩;have e6:Ext h4 h5:=e5 ▸ Ext.refl _;have c5:=c4.ext e6)|refine QB rfl c5 ?_|refine Qt rfl c5 ?_|(refine Qd rfl (k71' _) ?_;rintro r _ ⟨rfl,rfl⟩)|refine QE rfl ?_|refine Qn rfl ?_|refine Qy rfl rfl ?_|refine YE rfl (by omega) ?_|refine QW rfl rfl (by omega) ?_|refine XY rfl rfl (by omega) ?_|refine X3 rfl rfl (by omega) ?_|refine X2 rfl rfl (by omega) ?_|refine Xt rfl rfl ?_)
      exact⟨.inr rfl,e1.trans (e3.trans (e4.trans e6)),rfl⟩
    ·rw[if_neg hs]
     generalize hsv:decide (v<0)=sv at *
     by_cases hcn:c<0
     ·rw[decide_eq_true hcn]at hs
      obtain rfl:sv=false:=by simpa using hs
      repeat' first|apply Qh|apply Qc|apply QD|apply Qm|apply Qs|apply Qf|(apply Qg;first|refine Qi rfl ?_|refine Qj rfl ?_)|(apply Qe;first|refine Qx rfl rfl ?_|refine Qq rfl rfl rfl ?_|refine QA rfl rfl rfl rfl ?_|refine QM rfl rfl rfl rfl rfl ?_)|(apply Qb;first|(have z:=e6;refine qI rfl rfl ?_)|(refine Qr rfl ?_;intro h1 e1 c1)|refine Qv rfl c1 ?_|(refine Qd rfl (k69 _) ?_;rintro r h3 ⟨e3,rfl⟩)|(refine QT rfl ?_;intro h4 e4 c4)|(refine Qd rfl (k70 _) ?_;rintro r h5 ⟨rfl,e5⟩;have e6:Ext h4 h5:=e5 ▸ Ext.refl _;have c5:=c4.ext e6)|refine QB rfl c5 ?_|refine Qt rfl c5 ?_|(refine Qd rfl (k71' _) ?_;rintro r _ ⟨rfl,rfl⟩)|refine QE rfl ?_|refine Qn rfl ?_|refine Qy rfl rfl ?_|refine Zy rfl (by omega) ?_|refine YE rfl (by omega) ?_|refine QH rfl rfl (by omega) ?_|refine XY rfl rfl (by omega) ?_|refine X3 rfl rfl (by omega) ?_|refine X2 rfl rfl (by omega) ?_|refine Xt rfl rfl ?_)
      exact⟨.inr rfl,e1.trans (e3.trans (e4.trans e6)),rfl⟩
     ·rw[decide_eq_false hcn]at hs
      obtain rfl:sv=true:=by simpa using hs
      repeat' first|apply Qh|apply Qc|apply QD|apply Qm|apply Qs|apply Qf|(apply Qg;first|refine Qi rfl ?_|refine Qj rfl ?_)|(apply Qe;first|refine Qx rfl rfl ?_|refine Qq rfl rfl rfl ?_|refine QA rfl rfl rfl rfl ?_|refine QM rfl rfl rfl rfl rfl ?_)|(apply Qb;first|(have z:=e6;refine qI rfl rfl ?_)|(refine Qr rfl ?_;intro h1 e1 c1)|refine Qv rfl c1 ?_|(refine Qd rfl (k69 _) ?_;rintro r h3 ⟨e3,rfl⟩)|(refine QT rfl ?_;intro h4 e4 c4)|(refine Qd rfl (k70 _) ?_;rintro r h5 ⟨rfl,e5⟩;have e6:Ext h4 h5:=e5 ▸ Ext.refl _;have c5:=c4.ext e6)|refine QB rfl c5 ?_|refine Qt rfl c5 ?_|(refine Qd rfl (k71' _) ?_;rintro r _ ⟨rfl,rfl⟩)|refine QE rfl ?_|refine Qn rfl ?_|refine Qy rfl rfl ?_|refine Zy rfl (by omega) ?_|refine YE rfl (by omega) ?_|refine QW rfl rfl (by omega) ?_|refine XY rfl rfl (by omega) ?_|refine X3 rfl rfl (by omega) ?_|refine X2 rfl rfl (by omega) ?_|refine Xt rfl rfl ?_)
      exact⟨.inr rfl,e1.trans (e3.trans (e4.trans e6)),rfl⟩
   ·have ok:¬ JY v c:=fun h=>hQ2 (hq.1 h).2
    rw[if_neg ok,decide_eq_false ok]
    repeat' first|apply Qh|apply Qc|apply QD|apply Qm|apply Qs|apply Qf|(apply Qg;first|refine Qi rfl ?_|refine Qj rfl ?_)|(apply Qe;first|refine Qx rfl rfl ?_|refine Qq rfl rfl rfl ?_|refine QA rfl rfl rfl rfl ?_|refine QM rfl rfl rfl rfl rfl ?_)|(apply Qb;first|(refine Qr rfl ?_;intro h1 e1 c1)|refine Qv rfl c1 ?_|(refine Qd rfl (k69 _) ?_;rintro r h3 ⟨e3,rfl⟩)|(refine QT rfl ?_;intro h4 e4 c4)|(refine Qd rfl (k70 _) ?_;rintro r h5 ⟨rfl,e5⟩;have e6:Ext h4 h5:=e5 ▸ Ext.refl _;have c5:=c4.ext e6)|refine QB rfl c5 ?_|refine Qt rfl c5 ?_|(refine Qd rfl (k71' _) ?_;rintro r _ ⟨rfl,rfl⟩)|refine QE rfl ?_|refine Qn rfl ?_|refine Qy rfl rfl ?_|refine X9 rfl rfl (by omega) ?_|refine X3 rfl rfl (by omega) ?_|refine X2 rfl rfl (by omega) ?_|refine Xt rfl rfl ?_)
    exact⟨.inr rfl,e1.trans (e3.trans (e4.trans e6)),rfl⟩
  ·have ok:¬ JY v c:=fun h=>hR (hq.1 h).1
   rw[if_neg ok,decide_eq_false ok]
   repeat' first|apply Qh|apply Qc|apply QD|apply Qm|apply Qs|apply Qf|(apply Qg;first|refine Qi rfl ?_|refine Qj rfl ?_)|(apply Qe;first|refine Qx rfl rfl ?_|refine Qq rfl rfl rfl ?_|refine QA rfl rfl rfl rfl ?_|refine QM rfl rfl rfl rfl rfl ?_)|(apply Qb;first|(refine Qr rfl ?_;intro h1 e1 c1)|refine Qv rfl c1 ?_|(refine Qd rfl (k69 _) ?_;rintro r h3 ⟨e3,rfl⟩)|(refine QT rfl ?_;intro h4 e4 c4)|(refine Qd rfl (k70 _) ?_;rintro r h5 ⟨rfl,e5⟩;have e6:Ext h4 h5:=e5 ▸ Ext.refl _;have c5:=c4.ext e6)|refine QB rfl c5 ?_|refine Qt rfl c5 ?_|(refine Qd rfl (k71' _) ?_;rintro r _ ⟨rfl,rfl⟩)|refine Xa rfl ?_|refine Qn rfl ?_|refine QK rfl rfl ?_|refine X3 rfl rfl (by omega) ?_|refine Zh rfl rfl (by omega) ?_|refine Xt rfl rfl ?_)
   exact⟨.inr rfl,e1.trans (e3.trans (e4.trans e6)),rfl⟩
 ·have ok:¬ JY v c:=fun h=>by
   have h1:=(hq.1 h).2
   have h2:=hQ (by omega)
   omega
  rw[if_neg ok,decide_eq_false ok]
  generalize hm1:v.natAbs/18446744073709551616=m1 at *
  generalize v.natAbs%18446744073709551616=m0 at *
  generalize hcb:c.natAbs=cb at *
  repeat' first|apply Qh|apply Qc|apply QD|apply Qs|apply Qf|(apply Qg;refine Qi rfl ?_)|(apply Qe;first|refine Qx rfl rfl ?_|refine Qq rfl rfl rfl ?_|refine QA rfl rfl rfl rfl ?_|refine QM rfl rfl rfl rfl rfl ?_)|(apply Qb;first|(refine Qr rfl ?_;intro h1 e1 c1)|refine Qv rfl c1 ?_|(refine Qd rfl (k69 _) ?_;rintro r h3 ⟨e3,rfl⟩)|(refine QT rfl ?_;intro h4 e4 c4)|(refine Qd rfl (k70 _) ?_;rintro r h5 ⟨rfl,e5⟩;have e6:Ext h4 h5:=e5 ▸ Ext.refl _;have c5:=c4.ext e6)|refine QB rfl c5 ?_|refine Qn rfl ?_|refine YD rfl rfl (by omega) ?_|refine Xt rfl rfl ?_)
  exact⟨.inr rfl,e1.trans (e3.trans (e4.trans e6)),rfl⟩
end Go.Proofs.YtofknpknogfijaaGreatDoor
namespace Go.Proofs.YtofknpknogfijaaGreatDoor
set_option linter.all false
abbrev Tm:=Int×Int
def S(f:Int->Int):List Tm->Int
 | []=>0
 | t::r=>t.2*f t.1+S f r
theorem qq(f:Int->Int):∀ a b,S f (a++b)=S f a+S f b
 | [],b=>by simp[S]
 | t::a,b=>by simp[S,qq f a b,Int.add_assoc]
theorem Ym{f g:Int->Int}:∀ {l:List Tm},(∀ t∈l,f t.1=g t.1)->S f l=S g l
 | [],_=>rfl
 | t::r,h=>by
  simp only[S]
  rw[h t (.head _),Ym fun u hu=>h u (.tail _ hu)]
theorem Qen(f g:Int->Int):∀ l,S (fun x=>f x+g x) l=S f l+S g l
 | []=>rfl
 | t::r=>by simp only[S,Qen f g r,Int.mul_add];omega
theorem yO(f:Int->Int)(c:Int):∀ l,S (fun x=>c*f x) l=c*S f l
 | []=>by simp[S]
 | t::r=>by simp only[S,yO f c r,Int.mul_add];rw[Int.mul_left_comm]
theorem qo:∀ l,S (fun _=>0) l=0
 | []=>rfl
 | t::r=>by simp[S,qo r]
theorem QhC(f:Int->Int->Int):∀ a b,S (fun x=>S (fun y=>f x y) b) a=S (fun y=>S (fun x=>f x y) a) b
 | [],b=>by simp[S,qo]
 | t::a,b=>by
  simp only[S]
  rw[QhC f a b,Qen,yO]
def dl(e x:Int):Int:=if x=e then 1 else 0
theorem Yl(e:Int):dl e e=1:=if_pos rfl
theorem Ze{e x:Int}(h:x≠e):dl e x=0:=if_neg h
def cf(l:List Tm)(e:Int):Int:=S (dl e) l
theorem XV{l:List Tm}{e:Int}(h:∀ t∈l,t.1≠e):cf l e=0:=by
 unfold cf
 rw[Ym (g:=fun _=>0) fun t ht=>Ze (h t ht),qo]
theorem YT(t:Tm)(r:List Tm)(e:Int):cf (t::r) e=t.2*dl e t.1+cf r e:=rfl
theorem QaS(a b:List Tm)(e:Int):cf (a++b) e=cf a e+cf b e:=qq _ _ _
structure Can(l:List Tm):Prop where
 asc:l.Pairwise fun a b=>a.1<b.1
 nz:∀ t∈l,t.2≠0
theorem Can.nil:Can []:=⟨.nil,by simp⟩
theorem Can.tail{t:Tm}{r:List Tm}(h:Can (t::r)):Can r:=⟨(List.pairwise_cons.1 h.asc).2,fun u hu=>h.nz u (.tail _ hu)⟩
theorem Can.lt{t:Tm}{r:List Tm}(h:Can (t::r)):∀ u∈r,t.1<u.1:=(List.pairwise_cons.1 h.asc).1
theorem Can.cons{t:Tm}{r:List Tm}(h:Can r)(h0:t.2≠0)(hl:∀ u∈r,t.1<u.1):Can (t::r) :=
 ⟨List.pairwise_cons.2 ⟨hl,h.asc⟩,fun u hu=>(List.mem_cons.1 hu).elim (fun e=>by rw[e];exact h0) (h.nz u)⟩
theorem Can.cf_head{t:Tm}{r:List Tm}(h:Can (t::r)):cf (t::r) t.1=t.2:=by
 rw[YT,Yl,XV fun u hu=>by have:=h.lt u hu;omega];omega
theorem Can.cf_low{t:Tm}{r:List Tm}(h:Can (t::r)){e:Int}(he:e<t.1):cf (t::r) e=0:=by
 refine XV fun u hu=>?_
 rcases List.mem_cons.1 hu with rfl|hu
 ·omega
 ·have:=h.lt u hu;omega
theorem Can.ext:∀ {p q:List Tm},Can p->Can q->(∀ e,cf p e=cf q e)->p=q
 | [],[],_,_,_=>rfl
 | [],u::q,_,hq,h=>by
  have:=h u.1
  rw[hq.cf_head]at this
  exact absurd this.symm (hq.nz u (.head _))
 | t::p,[],hp,_,h=>by
  have:=h t.1
  rw[hp.cf_head]at this
  exact absurd this (hp.nz t (.head _))
 | t::p,u::q,hp,hq,h=>by
  have h1:t.1=u.1:=by
   rcases Int.lt_trichotomy t.1 u.1 with hlt|he|hgt
   ·have:=h t.1
    rw[hp.cf_head,hq.cf_low hlt]at this
    exact absurd this (hp.nz t (.head _))
   ·exact he
   ·have:=h u.1
    rw[hq.cf_head,hp.cf_low hgt]at this
    exact absurd this.symm (hq.nz u (.head _))
  have h2:t.2=u.2:=by
   have:=h t.1
   rw[hp.cf_head,h1,hq.cf_head]at this
   exact this
  have h3:t=u:=Prod.ext h1 h2
  subst h3
  rw[Can.ext hp.tail hq.tail fun e=>by have:=h e;rw[YT,YT]at this;omega]
def put(e c:Int):List Tm:=if c=0 then [] else [(e,c)]
theorem VX(f:Int->Int)(e c:Int):S f (put e c)=c*f e:=by
 unfold put
 split
 ·rename_i h;simp[S,h]
 ·simp[S]
theorem ZD{e c:Int}{t:Tm}(h:t∈put e c):t=(e,c)/\c≠0:=by
 unfold put at h
 split at h
 ·simp at h
 ·rename_i hc;exact⟨by simpa using h,hc⟩
theorem yk{e c:Int}{r:List Tm}(hr:Can r)(hl:∀ u∈r,e<u.1):Can (put e c++r):=by
 unfold put
 split
 ·simpa using hr
 ·rename_i hc;exact hr.cons hc hl
def mrg(f:Int->Int->Int):List Tm->List Tm->List Tm
 | [],[]=>[]
 | t::p,[]=>put t.1 (f t.2 0)++mrg f p []
 | [],u::q=>put u.1 (f 0 u.2)++mrg f [] q
 | t::p,u::q=>if t.1<u.1 then put t.1 (f t.2 0)++mrg f p (u::q) else if u.1<t.1 then put u.1 (f 0 u.2)++mrg f (t::p) q else put t.1 (f t.2 u.2)++mrg f p q
termination_by p q=>p.length+q.length
theorem Vm{f:Int->Int->Int}{x y:Int}(hf:∀ a b,f a b=x*a+y*b)(g:Int->Int):∀ p q,S g (mrg f p q)=x*S g p+y*S g q
 | [],[]=>by rw[mrg];simp[S]
 | t::p,[]=>by
  rw[mrg,qq,VX,Vm hf g p [],hf]
  simp only[S,Int.mul_zero,Int.add_zero,Int.mul_add,Int.mul_assoc]
 | [],u::q=>by
  rw[mrg,qq,VX,Vm hf g [] q,hf]
  simp only[S,Int.mul_zero,Int.zero_add,Int.mul_add,Int.mul_assoc]
 | t::p,u::q=>by
  rw[mrg]
  split
  ·rw[qq,VX,Vm hf g p (u::q),hf]
   simp only[S,Int.mul_zero,Int.add_zero,Int.mul_add,Int.mul_assoc];omega
  ·split
   ·rw[qq,VX,Vm hf g (t::p) q,hf]
    simp only[S,Int.mul_zero,Int.zero_add,Int.mul_add,Int.mul_assoc];omega
   ·have he:t.1=u.1:=by omega
    rw[qq,VX,Vm hf g p q,hf]
    simp only[S,Int.mul_add,Int.mul_assoc,Int.add_mul,he];omega
termination_by p q=>p.length+q.length
theorem Zb{f:Int->Int->Int}:∀ {p q:List Tm} {v:Tm},v∈mrg f p q->(∃ t∈p,t.1=v.1)∨∃ u∈q,u.1=v.1
 | [],[],v,h=>by rw[mrg]at h;simp at h
 | t::p,[],v,h=>by
  rw[mrg,List.mem_append]at h
  rcases h with h|h
  ·exact .inl ⟨t,.head _,by rw[(ZD h).1]⟩
  ·rcases Zb h with ⟨a,h1,h2⟩|⟨a,h1,h2⟩
   ·exact .inl ⟨a,.tail _ h1,h2⟩
   ·exact .inr ⟨a,h1,h2⟩
 | [],u::q,v,h=>by
  rw[mrg,List.mem_append]at h
  rcases h with h|h
  ·exact .inr ⟨u,.head _,by rw[(ZD h).1]⟩
  ·rcases Zb h with ⟨a,h1,h2⟩|⟨a,h1,h2⟩
   ·exact .inl ⟨a,h1,h2⟩
   ·exact .inr ⟨a,.tail _ h1,h2⟩
 | t::p,u::q,v,h=>by
  rw[mrg]at h
  split at h
  ·rw[List.mem_append]at h
   rcases h with h|h
   ·exact .inl ⟨t,.head _,by rw[(ZD h).1]⟩
   ·rcases Zb h with ⟨a,h1,h2⟩|⟨a,h1,h2⟩
    ·exact .inl ⟨a,.tail _ h1,h2⟩
    ·exact .inr ⟨a,h1,h2⟩
  ·split at h
   ·rw[List.mem_append]at h
    rcases h with h|h
    ·exact .inr ⟨u,.head _,by rw[(ZD h).1]⟩
    ·rcases Zb h with ⟨a,h1,h2⟩|⟨a,h1,h2⟩
     ·exact .inl ⟨a,h1,h2⟩
     ·exact .inr ⟨a,.tail _ h1,h2⟩
   ·rw[List.mem_append]at h
    rcases h with h|h
    ·exact .inl ⟨t,.head _,by rw[(ZD h).1]⟩
    ·rcases Zb h with ⟨a,h1,h2⟩|⟨a,h1,h2⟩
     ·exact .inl ⟨a,.tail _ h1,h2⟩
     ·exact .inr ⟨a,.tail _ h1,h2⟩
termination_by p q=>p.length+q.length
theorem Zo{f:Int->Int->Int}:∀ {p q:List Tm},Can p->Can q->Can (mrg f p q)
 | [],[],_,_=>by rw[mrg];exact .nil
 | t::p,[],hp,hq=>by
  rw[mrg]
  refine yk (Zo hp.tail hq) fun v hv=>?_
  rcases Zb hv with ⟨a,h1,h2⟩|⟨a,h1,h2⟩
  ·have:=hp.lt a h1;omega
  ·simp at h1
 | [],u::q,hp,hq=>by
  rw[mrg]
  refine yk (Zo hp hq.tail) fun v hv=>?_
  rcases Zb hv with ⟨a,h1,h2⟩|⟨a,h1,h2⟩
  ·simp at h1
  ·have:=hq.lt a h1;omega
 | t::p,u::q,hp,hq=>by
  rw[mrg]
  split
  ·refine yk (Zo hp.tail hq) fun v hv=>?_
   rcases Zb hv with ⟨a,h1,h2⟩|⟨a,h1,h2⟩
   ·have:=hp.lt a h1;omega
   ·rcases List.mem_cons.1 h1 with rfl|h1
    ·omega
    ·have:=hq.lt a h1;omega
  ·split
   ·refine yk (Zo hp hq.tail) fun v hv=>?_
    rcases Zb hv with ⟨a,h1,h2⟩|⟨a,h1,h2⟩
    ·rcases List.mem_cons.1 h1 with rfl|h1
     ·omega
     ·have:=hp.lt a h1;omega
    ·have:=hq.lt a h1;omega
   ·refine yk (Zo hp.tail hq.tail) fun v hv=>?_
    rcases Zb hv with ⟨a,h1,h2⟩|⟨a,h1,h2⟩
    ·have:=hp.lt a h1;omega
    ·have:=hq.lt a h1;omega
termination_by p q=>p.length+q.length
def QhS(g:Int->Int)(lo:Int):Nat->Int
 | 0=>0
 | n+1=>QhS g lo n+g (lo+n)
def Zz(g:Int->Int)(lo:Int)(n:Nat):List Tm:=(List.range n).flatMap fun k:Nat=>put (lo+(k:Int)) (g (lo+(k:Int)))
theorem qV(g:Int->Int)(lo:Int)(n:Nat):Zz g lo (n+1)=Zz g lo n++put (lo+n) (g (lo+n)):=by
 unfold Zz
 rw[List.range_succ,List.flatMap_append];simp
theorem fromC_mem{g:Int->Int}{lo:Int}{n:Nat}{t:Tm}:t∈Zz g lo n↔lo<=t.1/\t.1<lo+n/\t.2=g t.1/\t.2≠0:=by
 unfold Zz
 rw[List.mem_flatMap]
 constructor
 ·rintro⟨k,hk,h⟩
  obtain⟨rfl,h2⟩:=ZD h
  have:=List.mem_range.1 hk
  exact⟨by simp only;omega,by simp only;omega,rfl,h2⟩
 ·rintro⟨h1,h2,h3,h4⟩
  refine⟨(t.1-lo).toNat,List.mem_range.2 (by omega),?_⟩
  have e:lo+((t.1-lo).toNat:Int)=t.1:=by omega
  rw[e]
  unfold put
  rw[if_neg (by rw[← h3];exact h4),List.mem_singleton,← h3]
theorem qz(g:Int->Int)(lo:Int):∀ n,Can (Zz g lo n)
 | 0 => .nil
 | n+1=>by
  rw[qV]
  have ih:=qz g lo n
  refine⟨List.pairwise_append.2 ⟨ih.asc,?_,fun a ha b hb=>?_⟩,fun t ht=>?_⟩
  ·unfold put;split <;> simp
  ·have:=(fromC_mem.1 ha).2.1
   rw[(ZD hb).1];exact this
  ·rcases List.mem_append.1 ht with h|h
   ·exact ih.nz t h
   ·obtain⟨rfl,h2⟩:=ZD h;exact h2
theorem Qem(g k:Int->Int)(lo:Int):∀ n,S k (Zz g lo n)=QhS (fun x=>g x*k x) lo n
 | 0=>rfl
 | n+1=>by rw[qV,qq,Qem g k lo n,VX];rfl
def S2(f:Int->Int)(p q:List Tm):Int:=S (fun a=>S (fun b=>f (a+b)) q) p
def mc(p q:List Tm)(e:Int):Int:=S2 (dl e) p q
theorem Qjh(f:Int->Int)(p q:List Tm):S2 f p q=S2 f q p:=by
 unfold S2
 rw[QhC]
 exact Ym fun t _=>Ym fun u _=>by rw[Int.add_comm]
theorem yy(p q:List Tm)(e:Int):mc p q e=mc q p e:=Qjh _ _ _
theorem QcD(q:List Tm)(e:Int):mc [] q e=0:=rfl
theorem yx(p:List Tm)(e:Int):mc p [] e=0:=by rw[yy];rfl
theorem QcE(a b q:List Tm)(e:Int):mc (a++b) q e=mc a q e+mc b q e:=qq _ _ _
theorem Qg0(q:List Tm)(a e:Int):S (fun b=>dl e (a+b)) q=cf q (e-a):=by
 unfold cf
 refine Ym fun t _=>?_
 by_cases h:a+t.1=e
 ·rw[h,Yl,show t.1=e-a by omega,Yl]
 ·rw[Ze h,Ze (by omega)]
theorem QeW(p q:List Tm)(e:Int):mc p q e=S (fun a=>cf q (e-a)) p:=Ym fun t _=>Qg0 q t.1 e
theorem Qav(t:Tm)(q:List Tm)(e:Int):mc [t] q e=t.2*cf q (e-t.1):=by
 rw[QeW];simp[S]
theorem QdP(t:Tm)(p q:List Tm)(e:Int):mc (t::p) q e=t.2*cf q (e-t.1)+mc p q e:=by
 rw[QeW,QeW];rfl
theorem Qdo(g:Int->Int)(p q:List Tm){lo:Int}:∀(n:Nat),QhS (fun x=>mc p q x*g x) lo n=S2 (fun e=>if lo<=e/\e<lo+n then g e else 0) p q
 | 0=>by
  show 0=_
  unfold S2
  rw[Ym (g:=fun _=>0) fun t _=>?_,qo]
  rw[Ym (g:=fun _=>0) fun u _=>?_,qo]
  dsimp only
  rw[if_neg (by omega)]
 | n+1=>by
  simp only[QhS]
  rw[Qdo g p q n]
  unfold mc S2
  rw[Int.mul_comm,← yO,← Qen]
  refine Ym fun t _=>?_
  rw[← yO,← Qen]
  refine Ym fun u _=>?_
  dsimp only
  by_cases h:t.1+u.1=lo+n
  ·rw[h,Yl,if_neg (by omega),if_pos (by omega)];omega
  ·rw[Ze h]
   by_cases h2:lo<=t.1+u.1/\t.1+u.1<lo+n
   ·rw[if_pos h2,if_pos (by omega)];omega
   ·rw[if_neg h2,if_neg (by omega)];omega
theorem Qch{f g:Int->Int}{p q:List Tm}(h:∀ t∈p,∀ u∈q,f (t.1+u.1)=g (t.1+u.1)):S2 f p q=S2 g p q :=
 Ym fun t ht=>Ym fun u hu=>h t ht u hu
theorem QdO{p q:List Tm}{e:Int}(h:∀ t∈p,∀ u∈q,t.1+u.1≠e):mc p q e=0:=by
 unfold mc
 rw[Qch (g:=fun _=>0) fun t ht u hu=>Ze (h t ht u hu)]
 unfold S2
 rw[Ym (g:=fun _=>0) fun t _=>qo q,qo]
def Qbx(p q:List Tm)(lo:Int)(n:Nat):List Tm:=Zz (mc p q) lo n
theorem QhD{p q:List Tm}{lo:Int}{n:Nat}(h:∀ t∈p,∀ u∈q,lo<=t.1+u.1/\t.1+u.1<lo+n)(g:Int->Int):S g (Qbx p q lo n)=S2 g p q:=by
 unfold Qbx
 rw[Qem,Qdo]
 exact Qch fun t ht u hu=>if_pos (h t ht u hu)
theorem Qi0{p q:List Tm}{lo:Int}{n:Nat}(h:∀ t∈p,∀ u∈q,lo<=t.1+u.1/\t.1+u.1<lo+n)(e:Int):cf (Qbx p q lo n) e=mc p q e:=QhD h _
def lo0(p:List Tm):Int:=match p with|[]=>0|t::_=>t.1
def hi0(p:List Tm):Int:=match p.getLast? with|none=>0|some t=>t.1
theorem XF{p:List Tm}(h:Can p):∀ t∈p,lo0 p<=t.1:=by
 cases p with
 | nil=>simp
 | cons u r =>
  intro t ht
  rcases List.mem_cons.1 ht with rfl|ht
  ·exact Int.le_refl _
  ·exact Int.le_of_lt (h.lt t ht)
theorem QbQ{t u:Tm}{r:List Tm}:hi0 (t::u::r)=hi0 (u::r):=by simp[hi0,List.getLast?_cons_cons]
theorem XM:∀ {p:List Tm},Can p->∀ t∈p,t.1<=hi0 p
 | [],_,t,ht=>by simp at ht
 | [v],_,t,ht=>by simp at ht;subst ht;simp[hi0]
 | v::u::r,h,t,ht=>by
  rw[QbQ]
  have ih:=XM h.tail
  rcases List.mem_cons.1 ht with rfl|ht
  ·have:=h.lt u (.head _)
   have:=ih u (.head _)
   omega
  ·exact ih t ht
theorem YH:∀ {p:List Tm},p≠[]->∃ t∈p,t.1=hi0 p
 | [],h=>absurd rfl h
 | [v],_=>⟨v,by simp,by simp[hi0]⟩
 | v::u::r,_=>by
  obtain⟨t,h1,h2⟩:=YH (p:=u::r) (by simp)
  exact⟨t,.tail _ h1,by rw[QbQ];exact h2⟩
theorem YQ{p:List Tm}(h:Can p):∀ {t:Tm},t∈p->cf p t.1=t.2:=by
 induction p with
 | nil=>intro t ht;simp at ht
 | cons u r ih =>
  intro t ht
  rcases List.mem_cons.1 ht with rfl|ht
  ·exact h.cf_head
  ·rw[YT,Ze (by have:=h.lt t ht;omega),ih h.tail ht];omega
theorem Z2{p:List Tm}{e:Int}(h:cf p e≠0):∃ t∈p,t.1=e:=by
 refine Classical.byContradiction fun hn=>h (XV fun t ht he=>hn ⟨t,ht,he⟩)
theorem QbA{p q:List Tm}{e:Int}(h:mc p q e≠0):∃ t∈p,∃ u∈q,t.1+u.1=e:=by
 refine Classical.byContradiction fun hn=>h (QdO fun t ht u hu he=>hn ⟨t,ht,u,hu,he⟩)
theorem Qdg{f:Int->Int}{p:List Tm}{e:Int}(h:Can p)(h0:∀ t∈p,t.1≠e->f t.1=0):S f p=cf p e*f e:=by
 have h1:S f p=S (fun x=>f e*dl e x) p:=Ym fun t ht=>by
  by_cases he:t.1=e
  ·rw[he,Yl];omega
  ·rw[h0 t ht he,Ze he];omega
 rw[h1,yO,Int.mul_comm];rfl
theorem y5{p q:List Tm}(hp:Can p)(hq:Can q):mc p q (lo0 p+lo0 q)=cf p (lo0 p)*cf q (lo0 q):=by
 rw[QeW,Qdg hp (e:=lo0 p) fun t ht hne=>?_]
 ·rw[show lo0 p+lo0 q-lo0 p=lo0 q by omega]
 ·have:=XF hp t ht
  exact XV fun u hu=>by have:=XF hq u hu;omega
theorem Qaw{p q:List Tm}(hp:Can p)(hq:Can q):mc p q (hi0 p+hi0 q)=cf p (hi0 p)*cf q (hi0 q):=by
 rw[QeW,Qdg hp (e:=hi0 p) fun t ht hne=>?_]
 ·rw[show hi0 p+hi0 q-hi0 p=hi0 q by omega]
 ·have:=XM hp t ht
  exact XV fun u hu=>by have:=XM hq u hu;omega
theorem YV{p:List Tm}(h:Can p)(h0:p≠[]):cf p (lo0 p)≠0:=by
 cases p with
 | nil=>exact absurd rfl h0
 | cons t r =>
  show cf (t::r) t.1≠0
  rw[h.cf_head];exact h.nz t (.head _)
theorem qf{p:List Tm}(h:Can p)(h0:p≠[]):cf p (hi0 p)≠0:=by
 obtain⟨t,h1,h2⟩:=YH h0
 rw[← h2,YQ h h1];exact h.nz t h1
theorem Vd{p:List Tm}(h:Can p){M:Nat}(hb:∀ t∈p,t.2.natAbs<=M)(e:Int):(cf p e).natAbs<=M:=by
 by_cases h0:cf p e=0
 ·rw[h0];exact Nat.zero_le _
 ·obtain⟨t,h1,h2⟩:=Z2 h0
  rw[← h2,YQ h h1];exact hb t h1
theorem QcF{q:List Tm}(hq:Can q){M N:Nat}(hN:∀ t∈q,t.2.natAbs<=N)(e:Int):∀ {p:List Tm},(∀ t∈p,t.2.natAbs<=M)->(mc p q e).natAbs<=p.length*(M*N)
 | [],_=>by simp[QcD]
 | t::p,h=>by
  rw[QdP]
  have ih:=QcF hq hN e (p:=p) fun u hu=>h u (.tail _ hu)
  have h1:=Int.natAbs_add_le (t.2*cf q (e-t.1)) (mc p q e)
  rw[Int.natAbs_mul]at h1
  have h2:=Nat.mul_le_mul (h t (.head _)) (Vd hq hN (e-t.1))
  rw[List.length_cons,Nat.succ_mul]
  omega
theorem QaZ(f:Int->Int)(c:Tm->Bool):∀ l,S f l=S f (l.filter c)+S f (l.filter fun t=>!c t)
 | []=>rfl
 | t::r=>by
  have ih:=QaZ f c r
  cases h:c t
  ·rw[List.filter_cons_of_neg (by simp[h]),List.filter_cons_of_pos (by simp[h])]
   simp only[S,ih];omega
  ·rw[List.filter_cons_of_pos h,List.filter_cons_of_neg (by simp[h])]
   simp only[S,ih];omega
theorem Can.filter{l:List Tm}(h:Can l)(c:Tm->Bool):Can (l.filter c) :=
 ⟨h.asc.filter _,fun t ht=>h.nz t (List.mem_filter.1 ht).1⟩
def rk(p q r:List Tm)(k:Nat):Int:=cf p (lo0 p+k)-mc r q (lo0 p+k)
def dvL(p q:List Tm)(M X:Nat):Nat->Option (List Tm)
 | 0=>some []
 | i+1=>(dvL p q M X i).bind fun r =>
  if rk p q r i=0 then some r
  else if rk p q r i%cf q (lo0 q)=0/\(rk p q r i/cf q (lo0 q)).natAbs<=M/\(lo0 p-lo0 q+i).natAbs<=X then some (r++[(lo0 p-lo0 q+i,rk p q r i/cf q (lo0 q))]) else none
def dvN(p q:List Tm):Int:=hi0 p-lo0 p-(hi0 q-lo0 q)
structure DvOk(p q:List Tm)(M X i:Nat)(r:List Tm):Prop where
 can:Can r
 rng:∀ t∈r,lo0 p-lo0 q<=t.1/\t.1<lo0 p-lo0 q+i
 bd:∀ t∈r,t.2.natAbs<=M/\t.1.natAbs<=X
 zero:∀ k,k<i->rk p q r k=0
theorem Qim(p q r:List Tm)(t:Tm)(k:Nat):rk p q (r++[t]) k=rk p q r k-t.2*cf q (lo0 p+k-t.1):=by
 unfold rk
 rw[QcE,Qav];omega
theorem Qg2{q:List Tm}(hq:Can q){e:Int}(h:e<lo0 q):cf q e=0:=XV fun u hu=>by have:=XF hq u hu;omega
theorem cf_gt{q:List Tm}(hq:Can q){e:Int}(h:hi0 q<e):cf q e=0:=XV fun u hu=>by have:=XM hq u hu;omega
theorem Qb5{p q:List Tm}{M X:Nat}(hq:Can q)(h0:q≠[]):∀ {i:Nat} {r:List Tm},dvL p q M X i=some r->DvOk p q M X i r
 | 0,r,h=>by
  simp[dvL]at h;subst h
  exact⟨.nil,by simp,by simp,fun k hk=>absurd hk (Nat.not_lt_zero _)⟩
 | i+1,r',h=>by
  rw[dvL,Option.bind_eq_some_iff]at h
  obtain⟨r,h1,h⟩:=h
  have ih:=Qb5 hq h0 h1
  have hc0:=YV hq h0
  split at h
  ·rename_i hz
   cases h
   refine⟨ih.can,fun t ht=>⟨(ih.rng t ht).1,by have:=(ih.rng t ht).2;omega⟩,ih.bd,fun k hk=>?_⟩
   by_cases e:k=i
   ·rw[e];exact hz
   ·exact ih.zero k (by omega)
  ·rename_i hz
   split at h
   ·rename_i hd
    cases h
    have hdv:rk p q r i/cf q (lo0 q)*cf q (lo0 q)=rk p q r i:=Int.ediv_mul_cancel (Int.dvd_of_emod_eq_zero hd.1)
    refine⟨⟨List.pairwise_append.2 ⟨ih.can.asc,by simp,fun a ha b hb=>?_⟩,fun t ht=>?_⟩,fun t ht=>?_,fun t ht=>?_,fun k hk=>?_⟩
    ·simp at hb;subst hb
     exact(ih.rng a ha).2
    ·rcases List.mem_append.1 ht with ht|ht
     ·exact ih.can.nz t ht
     ·simp at ht;subst ht
      intro e
      simp only at e
      rw[e]at hdv;simp at hdv;exact hz hdv.symm
    ·rcases List.mem_append.1 ht with ht|ht
     ·have:=ih.rng t ht;omega
     ·simp at ht;subst ht;simp only;omega
    ·rcases List.mem_append.1 ht with ht|ht
     ·exact ih.bd t ht
     ·simp at ht;subst ht;exact hd.2
    ·rw[Qim]
     simp only
     by_cases e:k=i
     ·subst e
      rw[show lo0 p+(k:Int)-(lo0 p-lo0 q+k)=lo0 q by omega,hdv];omega
     ·rw[ih.zero k (by omega),Qg2 hq (e:=lo0 p+k-(lo0 p-lo0 q+i)) (by omega),Int.mul_zero];rfl
   ·cases h
noncomputable def dvR(p q:List Tm)(M X:Nat):Option (List Tm):=open Classical in
 if dvN p q<0 then none else (dvL p q M X ((dvN p q).toNat+1)).bind fun r=>if ∀ k:Nat,(dvN p q).toNat<k->(k:Int)<=hi0 p-lo0 p->rk p q r k=0 then some r else none
theorem QgS{p q r:List Tm}{M X:Nat}(hp:Can p)(hq:Can q)(h0:q≠[])(h:dvR p q M X=some r):Can r/\(∀ t∈r,t.2.natAbs<=M/\t.1.natAbs<=X)/\∀ e,mc r q e=cf p e:=by
 unfold dvR at h
 split at h
 ·cases h
 ·rename_i hn
  rw[Option.bind_eq_some_iff]at h
  obtain⟨r1,h1,h⟩:=h
  split at h
  ·rename_i hz
   cases h
   have d:=Qb5 hq h0 h1
   refine⟨d.can,d.bd,fun e=>?_⟩
   unfold dvN at *
   by_cases hl:lo0 p<=e/\e<=hi0 p
   ·have hk:rk p q r (e-lo0 p).toNat=0:=by
     by_cases hk:(e-lo0 p).toNat<(hi0 p-lo0 p-(hi0 q-lo0 q)).toNat+1
     ·exact d.zero _ hk
     ·exact hz _ (by omega) (by omega)
    unfold rk at hk
    rw[show lo0 p+((e-lo0 p).toNat:Int)=e by omega]at hk
    omega
   ·have a:cf p e=0:=by
     by_cases h2:e<lo0 p
     ·exact Qg2 hp h2
     ·exact cf_gt hp (by omega)
    rw[a]
    refine QdO fun t ht u hu he=>?_
    have b:=d.rng t ht
    have c:=XF hq u hu
    have c2:=XM hq u hu
    omega
  ·cases h
theorem Qb7{p q s:List Tm}{M X:Nat}(hp:Can p)(hq:Can q)(h0:q≠[])(hs:Can s)(hs0:s≠[])(hb:∀ t∈s,t.2.natAbs<=M/\t.1.natAbs<=X)(hm:∀ e,cf p e=mc s q e):dvR p q M X=some s:=by
 have hc0:=YV hq h0
 have hp0:p≠[]:=fun e=>by
  have h1:=hm (lo0 s+lo0 q)
  rw[y5 hs hq,e]at h1
  exact Int.mul_ne_zero (YV hs hs0) hc0 h1.symm
 have hl:lo0 p=lo0 s+lo0 q:=by
  have h1:cf p (lo0 s+lo0 q)≠0:=by
   rw[hm,y5 hs hq];exact Int.mul_ne_zero (YV hs hs0) hc0
  obtain⟨t,t1,t2⟩:=Z2 h1
  have h2:=XF hp t t1
  have h3:=YV hp hp0
  rw[hm]at h3
  obtain⟨a,a1,b,b1,e⟩:=QbA h3
  have:=XF hs a a1
  have:=XF hq b b1
  omega
 have hh:hi0 p=hi0 s+hi0 q:=by
  have h1:cf p (hi0 s+hi0 q)≠0:=by
   rw[hm,Qaw hs hq];exact Int.mul_ne_zero (qf hs hs0) (qf hq h0)
  obtain⟨t,t1,t2⟩:=Z2 h1
  have h2:=XM hp t t1
  have h3:=qf hp hp0
  rw[hm]at h3
  obtain⟨a,a1,b,b1,e⟩:=QbA h3
  have:=XM hs a a1
  have:=XM hq b b1
  omega
 have hsl:=XF hs
 have hsh:=XM hs
 have hw:lo0 s<=hi0 s:=by
  obtain⟨t,t1,t2⟩:=YH hs0
  have:=hsl t t1;omega
 have key:∀(i:Nat) (k:Nat),rk p q (s.filter fun t=>decide (t.1<lo0 s+i)) k=mc (s.filter fun t=>!decide (t.1<lo0 s+i)) q (lo0 p+k):=fun i k=>by
  unfold rk
  rw[hm]
  have:=QaZ (fun a=>S (fun b=>dl (lo0 p+k) (a+b)) q) (fun t=>decide (t.1<lo0 s+i)) s
  unfold mc S2
  rw[this];omega
 have step:∀ i:Nat,rk p q (s.filter fun t=>decide (t.1<lo0 s+i)) i=cf s (lo0 s+i)*cf q (lo0 q):=fun i=>by
  rw[key,QeW,Qdg (hs.filter _) (e:=lo0 s+i) fun t ht hne=>?_]
  ·have h2:cf (s.filter fun t=>!decide (t.1<lo0 s+i)) (lo0 s+i)=cf s (lo0 s+i):=by
    have:=QaZ (dl (lo0 s+i)) (fun t=>decide (t.1<lo0 s+i)) s
    unfold cf
    rw[this,show S (dl (lo0 s+↑i)) (s.filter fun t=>decide (t.1<lo0 s+i))=0 from XV fun t ht=>by have:=(List.mem_filter.1 ht).2;simp at this;omega]
    omega
   rw[h2,show lo0 p+(i:Int)-(lo0 s+i)=lo0 q by omega]
  ·have:=(List.mem_filter.1 ht).2
   simp at this
   exact Qg2 hq (by omega)
 have all:∀ i:Nat,dvL p q M X i=some (s.filter fun t=>decide (t.1<lo0 s+i)):=fun i=>by
  induction i with
  | zero =>
   rw[dvL,List.filter_eq_nil_iff.2]
   intro t ht
   have:=hsl t ht
   simp;omega
  | succ i ih =>
   rw[dvL,ih,Option.bind_some,step]
   by_cases hz:cf s (lo0 s+i)=0
   ·rw[if_pos (by rw[hz,Int.zero_mul])]
    congr 1
    refine List.filter_congr fun t ht=>?_
    have hne:t.1≠lo0 s+i:=fun e=>by
     have:=YQ hs ht
     rw[e,hz]at this
     exact hs.nz t ht this.symm
    simp only[decide_eq_decide];omega
   ·rw[if_neg (Int.mul_ne_zero hz hc0),Int.mul_emod_left,Int.mul_ediv_cancel _ hc0]
    obtain⟨t,t1,t2⟩:=Z2 hz
    have ht:=YQ hs t1
    rw[t2]at ht
    have hbt:=hb t t1
    rw[if_pos ⟨rfl,by rw[ht];exact hbt.1,by rw[show lo0 p-lo0 q+(i:Int)=t.1 by omega];exact hbt.2⟩]
    congr 1
    have hcan1:Can (s.filter fun t=>decide (t.1<lo0 s+i) ):=hs.filter _
    refine Can.ext ?_ (hs.filter _) fun e=>?_
    ·refine⟨List.pairwise_append.2 ⟨hcan1.asc,by simp,fun a ha b hb=>?_⟩,fun u hu=>?_⟩
     ·simp at hb;subst hb
      have:=(List.mem_filter.1 ha).2
      simp at this;simp only;omega
     ·rcases List.mem_append.1 hu with hu|hu
      ·exact hcan1.nz u hu
      ·simp at hu;subst hu;exact hz
    ·rw[QaS,YT]
     simp only
     rw[show cf [] e=0 from rfl,show lo0 p-lo0 q+(i:Int)=lo0 s+i by omega]
     have f1:∀ j:Nat,cf (s.filter fun t=>decide (t.1<lo0 s+j)) e=if e<lo0 s+j then cf s e else 0:=fun j=>by
      have:=QaZ (dl e) (fun t=>decide (t.1<lo0 s+j)) s
      by_cases hej:e<lo0 s+j
      ·rw[if_pos hej]
       have z:S (dl e) (s.filter fun t=>!decide (t.1<lo0 s+j))=0:=XV fun t ht=>by have:=(List.mem_filter.1 ht).2;simp at this;omega
       unfold cf
       rw[this,z];omega
      ·rw[if_neg hej]
       exact XV fun t ht=>by have:=(List.mem_filter.1 ht).2;simp at this;omega
     rw[f1 i,f1 (i+1)]
     by_cases he:e=lo0 s+i
     ·subst he
      rw[if_neg (by omega),Yl,if_pos (by omega)];omega
     ·rw[Ze (by omega)]
      by_cases h2:e<lo0 s+i
      ·rw[if_pos h2,if_pos (by omega)];omega
      ·rw[if_neg h2,if_neg (by omega)];omega
 have hn:dvN p q=hi0 s-lo0 s:=by unfold dvN;omega
 unfold dvR
 rw[if_neg (by omega),all,hn,Option.bind_some]
 have hall:(s.filter fun t=>decide (t.1<lo0 s+((hi0 s-lo0 s).toNat+1:Nat)))=s:=by
  refine List.filter_eq_self.2 fun t ht=>?_
  have:=hsh t ht
  simp;omega
 rw[hall,if_pos fun k _ _=>?_]
 unfold rk
 rw[hm];omega
open Go.Ab
set_option maxHeartbeats 16000000
set_option maxRecDepth 20000
attribute [local irreducible] Qk wA Xv Xs QC Qu QP Q6
variable [HB]
abbrev cM:Nat:=1125899906842624
abbrev eM:Nat:=1048576
def tmP(t:Tm):P2:=(.int .i64 t.1,.int .i64 t.2)
abbrev tms(ts:List Tm):List P2:=ts.map tmP
structure Pol where
 big:Bool
 ts:List Tm
 deriving DecidableEq
def Z5(h:Qa)(v:AV)(p:Pol):Prop:=∃ s,v = .agg [.bool p.big,s]/\IsD h s (tms p.ts)
structure Pok(p:Pol):Prop where
 big:p.big=true->p.ts=[]
 can:Can p.ts
 cf:∀ t∈p.ts,t.2.natAbs<=cM
 ex:∀ t∈p.ts,t.1.natAbs<=eM
abbrev YI:Pol:=⟨true,[]⟩
abbrev Yf:Pol:=⟨false,[]⟩
theorem JK:Pok YI:=⟨fun _=>rfl,.nil,by simp,by simp⟩
theorem JS:Pok Yf:=⟨fun _=>rfl,.nil,by simp,by simp⟩
theorem ZF:∀ {ts:List Tm} {lo:Int} {n:Nat},Can ts->(∀ t∈ts,lo<=t.1/\t.1<lo+n)->ts.length<=n
 | [],_,_,_,_=>Gs _
 | t::r,lo,n,hc,h=>by
  have h0:=h t (.head _)
  have ih:=ZF (lo:=t.1+1) (n:=(lo+n-(t.1+1)).toNat) hc.tail fun u hu=>by
   have h1:=hc.lt u hu
   have h2:=(h u (.tail _ hu)).2
   omega
  rw[GQ];omega
theorem Pok.len{p:Pol}(k:Pok p):p.ts.length<=2097153 :=
 ZF (lo := -1048576) (n:=2097153) k.can fun t ht=>by have:=k.ex t ht;simp only[eM]at this;omega
theorem QL(ts:List Tm):(tms ts).length=ts.length:=by simp
theorem zx(h0:Qa)(b:Bool)(s:SV):∃ r h',Cal FT HKt 39 [.agg [.bool b,s]] h0 r h'/\Ext h0 h'/\r = .sc (.bool b):=by
 refine Cal.of (F:=a39) rfl rfl rfl ?_
 repeat' first|apply Qh|apply Qc|apply Qs|apply Qf|(apply Qe;refine Qp rfl ?_)|(apply Qb;first|(refine Qr rfl ?_;intro h1 e1 c1)|refine QB rfl c1 ?_|refine Qn rfl ?_|refine Xt rfl rfl ?_)
 exact⟨.inr rfl,e1,rfl⟩
theorem zy(h0:Qa)(b:Bool)(s:SV)(ts:List Tm)(hs:IsD h0 s (tms ts)):∃ r h',Cal FT HKt 14 [.agg [.bool b,s]] h0 r h'/\Ext h0 h'/\r = .sc (.bool (!b&&decide (ts=[]))):=by
 refine Cal.of (F:=a14) rfl rfl rfl ?_
 have ls:=hs.len
 rw[QL]at ls
 cases b with
 | true =>
  repeat' first|apply Qh|apply Qc|apply Qs|apply Qf|(apply Qe;refine Qp rfl ?_)|(apply Qb;first|(refine Qr rfl ?_;intro h1 e1 c1)|refine QB rfl c1 ?_|refine Xa rfl ?_|refine Qn rfl ?_|refine Qy rfl rfl ?_|refine XX rfl ?_|refine Xt rfl rfl ?_)
  exact⟨.inr rfl,e1,rfl⟩
 | false =>
  cases ts with
  | nil =>
   rw[Hg]at ls
   repeat' first|apply Qh|apply Qc|apply Qs|apply Qf|(apply Qe;refine Qp rfl ?_)|(apply Qb;first|(refine Qr rfl ?_;intro h1 e1 c1)|refine QB rfl c1 ?_|refine Qt rfl c1 ?_|refine QG rfl ls ?_|refine QE rfl ?_|refine Qn rfl ?_|refine QK rfl rfl ?_|refine YW rfl ?_|refine XC rfl rfl (by omega) ?_|refine Xt rfl rfl ?_)
   exact⟨.inr rfl,e1,rfl⟩
  | cons t r =>
   rw[GQ]at ls
   repeat' first|apply Qh|apply Qc|apply Qs|apply Qf|(apply Qe;refine Qp rfl ?_)|(apply Qb;first|(refine Qr rfl ?_;intro h1 e1 c1)|refine QB rfl c1 ?_|refine Qt rfl c1 ?_|refine QG rfl ls ?_|refine QE rfl ?_|refine Qn rfl ?_|refine QK rfl rfl ?_|refine YW rfl ?_|refine Xk rfl rfl (by omega) ?_|refine Xt rfl rfl ?_)
   exact⟨.inr rfl,e1,by simp;rfl⟩
theorem rd1{h:Qa}{id off:Nat}{a b:SV}(hr:Q9 h id off 2=some [a,b]):Q9 h id off 1=some [a]/\Q9 h id (off+1) 1=some [b]:=by
 unfold Q9 at hr ⊢
 split at hr
 ·unfold cut at hr ⊢
  split at hr
  ·rename_i hle
   simp only[Option.some.injEq]at hr
   rw[if_pos (by omega),if_pos (by omega)]
   refine⟨?_,?_⟩
   ·have:=congrArg (List.take 1) hr
    rw[List.take_take]at this
    simpa using this
   ·have:=congrArg (List.drop 1) hr
    rw[List.drop_take,List.drop_drop]at this
    simpa using this
  ·cases hr
 ·cases hr
theorem Y2(h0:Qa)(b:Bool)(s:SV)(ts:List Tm)(hs:IsD h0 s (tms ts)):∃ r h',Cal FT HKt 53 [.agg [.bool b,s]] h0 r h'/\Ext h0 h'/\r = .sc (.int .i64 (lo0 ts)):=by
 refine Cal.of (F:=a53) rfl rfl rfl ?_
 have ls:=hs.len
 rw[QL]at ls
 cases ts with
 | nil =>
  rw[Hg]at ls
  repeat' first|apply Qh|apply Qc|apply QD|apply Qs|apply Qf|(apply Qg;refine Qi rfl ?_)|(apply Qe;first|refine Qp rfl ?_|refine Qx rfl rfl ?_)|(apply Qb;first|(refine Qr rfl ?_;intro h1 e1 c1)|refine Qt rfl c1 ?_|refine QG rfl ls ?_|refine Qn rfl ?_|refine XC rfl rfl (by omega) ?_|refine Xt rfl rfl ?_)
  exact⟨.inr rfl,e1,rfl⟩
 | cons t r =>
  rw[GQ]at ls
  obtain⟨id,off,cap,e,hr⟩:=hs.at (i:=0) (p:=tmP t) rfl
  rw[QL,GQ]at e
  subst e
  have hr1:=fun H (e:Ext h0 H)=>QO e (rd1 hr).1
  repeat' first|apply Qh|apply Qc|apply Qm|apply Qs|apply Qf|(apply Qg;refine Qj rfl ?_)|(apply Qe;first|refine Qp rfl ?_|refine Qx rfl rfl ?_)|(apply Qb;first|(refine Qr rfl ?_;intro h1 e1 c1)|refine Qt rfl c1 ?_|refine QG rfl ls ?_|refine QJ (esz:=2) rfl rfl (by omega) ?_|refine QS rfl ?_|refine Xx rfl (hr1 _ e1) ?_|refine Qn rfl ?_|refine Xk rfl rfl (by omega) ?_)
  exact⟨.inr rfl,e1,rfl⟩
theorem Zl(h0:Qa)(v l:Int)(hl:0<=l/\l<=9223372036854775807):∃ r h',Cal FT HKt 50 [.sc (.int .i64 v),.sc (.int .i64 l)] h0 r h'/\r = .sc (.bool (decide (v.natAbs<=l.toNat)))/\h'=h0:=by
 refine Cal.of (F:=a50) rfl rfl rfl ?_
 by_cases h:v.natAbs<=l.toNat
 ·rw[decide_eq_true h]
  repeat' first|apply Qh|apply Qc|apply Qs|apply Qf|(apply Qe;first|refine Qp rfl ?_|refine Qx rfl rfl ?_)|(apply Qb;first|refine QE rfl ?_|refine Qn rfl ?_|refine QK rfl rfl ?_|refine Zy rfl (by omega) ?_|refine QcN rfl rfl (by omega) ?_|refine YD rfl rfl (by omega) ?_)
  exact⟨.inr rfl,rfl,rfl⟩
 ·rw[decide_eq_false h]
  by_cases h2 : -l<=v
  ·repeat' first|apply Qh|apply Qc|apply Qs|apply Qf|(apply Qe;first|refine Qp rfl ?_|refine Qx rfl rfl ?_)|(apply Qb;first|refine QE rfl ?_|refine Qn rfl ?_|refine QK rfl rfl ?_|refine Zy rfl (by omega) ?_|refine QaH rfl rfl (by omega) ?_|refine YD rfl rfl (by omega) ?_)
   exact⟨.inr rfl,rfl,rfl⟩
  ·repeat' first|apply Qh|apply Qc|apply Qs|apply Qf|(apply Qe;first|refine Qp rfl ?_|refine Qx rfl rfl ?_)|(apply Qb;first|refine Xa rfl ?_|refine Qn rfl ?_|refine Qy rfl rfl ?_|refine Zy rfl (by omega) ?_|refine X3 rfl rfl (by omega) ?_)
   exact⟨.inr rfl,rfl,rfl⟩
theorem QgD{ts:List Tm}{t:Tm}(h:ts[ts.length-1]?=some t)(h0:ts≠[]):hi0 ts=t.1:=by
 unfold hi0
 rw[List.getLast?_eq_getElem?,h]
theorem zw(h0:Qa)(b:Bool)(s:SV)(ts:List Tm)(hs:IsD h0 s (tms ts))(hl:ts.length<=2097153):∃ r h',Cal FT HKt 54 [.agg [.bool b,s]] h0 r h'/\Ext h0 h'/\r = .sc (.int .i64 (hi0 ts)):=by
 refine Cal.of (F:=a54) rfl rfl rfl ?_
 have ls:=hs.len
 rw[QL]at ls
 by_cases h:ts=[]
 ·subst h
  rw[Hg]at ls
  repeat' first|apply Qh|apply Qc|apply QD|apply Qs|apply Qf|(apply Qg;refine Qi rfl ?_)|(apply Qe;first|refine Qp rfl ?_|refine Qx rfl rfl ?_)|(apply Qb;first|(refine Qr rfl ?_;intro h1 e1 c1)|refine Qt rfl c1 ?_|refine QG rfl ls ?_|refine Qn rfl ?_|refine XC rfl rfl (by omega) ?_|refine Xt rfl rfl ?_)
  exact⟨.inr rfl,e1,rfl⟩
 ·have hp:0<ts.length:=List.length_pos_iff.2 h
  obtain⟨t,ht⟩:∃ t,ts[ts.length-1]?=some t:=⟨_,Gc (by omega)⟩
  obtain⟨id,off,cap,e,hr⟩:=hs.at (i:=ts.length-1) (p:=tmP t) (by simp[ht])
  rw[QL]at e
  subst e
  rw[QgD ht h]
  have ei:((ts.length:Int)-1).toNat=ts.length-1:=by omega
  have hr1:=fun H (e:Ext h0 H)=>QO e (rd1 hr).1
  rw[← ei]at hr1
  repeat' first|apply Qh|apply Qc|apply Qm|apply Qs|apply Qf|(apply Qg;refine Qj rfl ?_)|(apply Qe;first|refine Qp rfl ?_|refine Qx rfl rfl ?_)|(apply Qb;first|(refine Qr rfl ?_;intro h1 e1 c1)|refine Qt rfl c1 ?_|refine QG rfl ls ?_|refine QJ (esz:=2) rfl rfl (by omega) ?_|refine QS rfl ?_|refine Xx rfl (hr1 _ e1) ?_|refine Qn rfl ?_|refine Yp rfl rfl (by omega) ?_|refine Xk rfl rfl (by omega) ?_)
  exact⟨.inr rfl,e1,rfl⟩
def ofN(low:Int)(xs:List Int):Nat->Option (List Tm)
 | 0=>some []
 | i+1=>(ofN low xs i).bind fun r=>if xs.getD i 0=0 then some r else if (xs.getD i 0).natAbs<=cM/\low<=eM/\(low+i).natAbs<=eM then some (r++[(low+i,xs.getD i 0)]) else none
def ofP(low:Int)(xs:List Int):Pol:=match ofN low xs xs.length with
 | some r=>⟨false,r⟩
 | none=>YI
theorem yW{low:Int}{xs:List Int}:∀ {i:Nat} {r:List Tm},ofN low xs i=some r->Can r/\(∀ t∈r,low<=t.1/\t.1<low+i/\t.2.natAbs<=cM/\t.1.natAbs<=eM)/\∀ e,cf r e=if low<=e/\e<low+i then xs.getD (e-low).toNat 0 else 0
 | 0,r,h=>by
  simp[ofN]at h;subst h
  refine⟨.nil,by simp,fun e=>?_⟩
  rw[if_neg (by omega)];rfl
 | i+1,r',h=>by
  rw[ofN,Gd]at h
  obtain⟨r,h1,h⟩:=h
  obtain⟨a,b,c⟩:=yW h1
  split at h
  ·rename_i hz
   cases h
   refine⟨a,fun t ht=>?_,fun e=>?_⟩
   ·have:=b t ht;omega
   ·rw[c e]
    by_cases he:e=low+i
    ·subst he
     rw[if_neg (by omega),if_pos (by omega),show (low+(i:Int)-low).toNat=i by omega,hz]
    ·by_cases h2:low<=e/\e<low+i
     ·rw[if_pos h2,if_pos (by omega)]
     ·rw[if_neg h2,if_neg (by omega)]
  ·rename_i hz
   split at h
   ·rename_i hc
    cases h
    refine⟨⟨List.pairwise_append.2 ⟨a.asc,by simp,fun u hu v hv=>?_⟩,fun t ht=>?_⟩,fun t ht=>?_,fun e=>?_⟩
    ·simp at hv;subst hv
     exact(b u hu).2.1
    ·rcases GD.1 ht with ht|ht
     ·exact a.nz t ht
     ·simp at ht;subst ht;exact hz
    ·rcases GD.1 ht with ht|ht
     ·have:=b t ht;omega
     ·rw[List.mem_singleton]at ht;subst ht;simp only;omega
    ·rw[QaS,YT,c e]
     simp only
     rw[show cf [] e=0 from rfl]
     by_cases he:e=low+i
     ·subst he
      rw[if_neg (by omega),Yl,if_pos (by omega),show (low+(i:Int)-low).toNat=i by omega];omega
     ·rw[Ze (by omega)]
      by_cases h2:low<=e/\e<low+i
      ·rw[if_pos h2,if_pos (by omega)];omega
      ·rw[if_neg h2,if_neg (by omega)];omega
   ·cases h
theorem QiC{low:Int}{xs:List Int}{i:Nat}{r:List Tm}(h:ofN low xs i=some r):r.length<=i:=by
 obtain⟨a,b,_⟩:=yW h
 exact ZF a fun t ht=>⟨(b t ht).1,(b t ht).2.1⟩
theorem Qar(low:Int)(xs:List Int):Pok (ofP low xs):=by
 unfold ofP
 cases h:ofN low xs xs.length with
 | none=>exact JK
 | some r =>
  obtain⟨a,b,_⟩:=yW h
  exact⟨by simp,a,fun t ht=>(b t ht).2.2.1,fun t ht=>(b t ht).2.2.2⟩
theorem Qbu{low:Int}{xs:List Int}:∀ {i j:Nat},i<=j->ofN low xs i=none->ofN low xs j=none
 | i, 0, h, hn => by obtain rfl : i = 0 := by omega
                     exact hn
 | i,j+1,h,hn=>by
  by_cases e:i=j+1
  ·rw[← e];exact hn
  ·rw[ofN,Qbu (i:=i) (by omega) hn];rfl
structure St20(h0 h:Qa)(q4 q5:Nat)(a b s:SV)(r:List Tm):Prop where
 e:Ext h0 h
 c4:Cel h q4 a b
 c5:Cel h q5 (.bool false) s
 o:OwnD h0 h s (tms r)
 l4:h0.length<=q4
 l5:h0.length<=q5
 ne:q4≠q5
def I20(h0:Qa)(q4 q5:Nat)(low:Int)(c:SV)(xs:List Int)(E:Env)(h:Qa):Prop:=∃(i:Nat) (r:List Tm) (s:SV),i<=xs.length/\ofN low xs i=some r/\St20 h0 h q4 q5 (.bool false) .nilS s r ∧
 E.keep [0,4,5,8,9,10]=[(0,some (.sc (.int .i64 low))),(4,some (.sc (.ptr q4 0))),(5,some (.sc (.ptr q5 0))),(8,some (.sc c)),(9,some (.sc (.int .i64 (xs.length:Nat)))),(10,some (.sc (.int .i64 (i:Nat))))]
def R20(h0:Qa)(q4 q5:Nat)(low:Int)(xs:List Int)(ex:Ex)(E:Env)(h:Qa):Prop :=
 (ex = .ex 0/\∃ r s a b c d e,ofN low xs xs.length=some r/\St20 h0 h q4 q5 (.bool false) .nilS s r/\E=[(0,a),(4,some (.sc (.ptr q4 0))),(5,some (.sc (.ptr q5 0))),(8,b),(9,c),(10,d),(11,e)]) ∨
 (ex = .rt/\∃(r:List Tm) (s:SV),ofN low xs xs.length=none/\St20 h0 h q4 q5 (.bool true) .nilS s r/\E=[(4,some (.sc (.ptr q4 0)))])
def cK(ks:List Nat)(n t:Nat)(E:Env)(_:Qa):Nat:=match (E.keep ks).get t with
 | some (.sc (.int _ i))=>n-i.toNat
 | _=>0
theorem Qij(h0:Qa)(q4 q5:Nat)(low:Int)(hlow : -9223372036854775808<=low/\low<=9223372036854775807)(c:SV)(xs:List Int)(hn:xs.length<=1000000)(hc:IsInts h0 c xs)(hw:∀ x∈xs,-9223372036854775808<=x/\x<=9223372036854775807)(E:Env)(h:Qa)(hI:I20 h0 q4 q5 low c xs E h) :
  wA FT HKt Qj8 (E.keep [0,4,5,8,9,10]) h (QC (I20 h0 q4 q5 low c xs) (cK [0,4,5,8,9,10] xs.length 10) (cK [0,4,5,8,9,10] xs.length 10 E h) (R20 h0 q4 q5 low xs)):=by
 obtain⟨i,r,s,hi,hr,st,hE⟩:=hI
 have hm:cK [0,4,5,8,9,10] xs.length 10 E h=xs.length-i:=by unfold cK;rw[hE];rfl
 rw[hm,hE]
 by_cases hlt:i<xs.length
 ·obtain⟨x,hx⟩:∃ x,xs[i]?=some x:=⟨_,Gc hlt⟩
  have hx2:xs.getD i 0=x:=by rw[Gf,hx];rfl
  obtain⟨id,off,cap,rfl,rd0⟩:=IsInts.at hc hx
  have rd:=QO st.e rd0
  have hxw:=hw x (Gl hx)
  have k35:=fun H v l hl=>Zl H v l hl
  by_cases hz:x=0
  ·have en:ofN low xs (i+1)=some r:=by rw[ofN,hr,Gi,hx2,if_pos hz]
   subst hz
   repeat' first|apply Qh|apply Qc|apply Xc|apply Qz|apply Q8|apply Qm|apply Q5|apply Qf|(apply Qg;refine Qi rfl ?_)|(apply Qe;first|refine Q7 rfl rfl rfl rfl rfl rfl ?_|refine Xr rfl rfl rfl rfl rfl rfl rfl ?_|refine Xh rfl rfl rfl rfl rfl rfl rfl rfl ?_|refine Xd rfl rfl rfl rfl rfl rfl rfl rfl rfl ?_)|(apply Qb;first|refine QJ (esz:=1) rfl rfl (by omega) ?_|refine Xx rfl rd ?_|refine Qn rfl ?_|refine Q1 rfl rfl (by omega) ?_|refine QH rfl rfl (by omega) ?_|refine XC rfl rfl (by omega) ?_)
   exact Xg ⟨i+1,r,s,by omega,en,st,rfl⟩ (by simp[cK,Env.keep,Env.get];omega)
  ·have en:ofN low xs (i+1)=if x.natAbs<=cM/\low<=eM/\(low+i).natAbs<=eM then some (r++[(low+i,x)]) else none:=by rw[ofN,hr,Gi,hx2,if_neg hz]
   have k1:=fun H=>Zl H x 1125899906842624 (by omega)
   have k2:=fun H=>Zl H (low+i) 1048576 (by omega)
   rw[show (1125899906842624:Int).toNat=cM by rfl]at k1
   rw[show (1048576:Int).toNat=eM by rfl]at k2
   have bad:ofN low xs (i+1)=none->∀ h2,Wr h h2 q4 (.bool true) .nilS->∃(r:List Tm) (s:SV),ofN low xs xs.length=none/\St20 h0 h2 q4 q5 (.bool true) .nilS s r:=fun hn h2 w=>⟨r,s,Qbu (by omega) hn,w.ext st.e st.l4,w.cel,w.keep st.c5 (Ne.symm st.ne),st.o.wrC w,st.l4,st.l5,st.ne⟩
   have c4:=st.c4
   have c5:=st.c5
   by_cases a1:x.natAbs<=cM
   ·rw[decide_eq_true a1]at k1
    by_cases a2:low<=1048576
    ·by_cases a3:(low+i).natAbs<=eM
     ·rw[decide_eq_true a3]at k2
      rw[if_pos ⟨a1,a2,a3⟩]at en
      have hrl:=QiC hr
      have rdC:Q9 h q5 (0+1) 1=some [s]:=(rd1 c5.read).2
      repeat' first|apply Qh|apply Qc|apply Qz|apply QV|apply Qm|apply Qf|(apply Qg;first|refine Qi rfl ?_|refine Qj rfl ?_)|(apply Qe;first|refine Q7 rfl rfl rfl rfl rfl rfl ?_|refine Xr rfl rfl rfl rfl rfl rfl rfl ?_|refine Xh rfl rfl rfl rfl rfl rfl rfl rfl ?_|refine Xd rfl rfl rfl rfl rfl rfl rfl rfl rfl ?_)|(apply Qb;first|refine QJ (esz:=1) rfl rfl (by omega) ?_|refine Xx rfl rd ?_|(refine Qd rfl (k1 _) ?_;rintro v _ ⟨rfl,rfl⟩)|(refine Qd rfl (k2 _) ?_;rintro v _ ⟨rfl,rfl⟩)|refine QS rfl ?_|(refine Qt rfl c5 ?_)|(refine Xp rfl rfl ?_)|(refine ZZ st.e st.o rfl rfl (by rw[QL];simp only[Yh];omega) ?_;intro s' h2 o2 e2 f2 l2;have d5:=c5.fram f2 (st.o.cel c5);have d4:=c4.fram f2 (st.o.cel c4))|(refine ZO rfl rfl d5 ?_;intro h3 w3)|refine QE rfl ?_|refine Qn rfl ?_|refine Qy rfl rfl ?_|refine XX rfl ?_|refine Q1 rfl rfl (by omega) ?_|refine QH rfl rfl (by omega) ?_|refine XY rfl rfl (by omega) ?_|refine Xk rfl rfl (by omega) ?_)
      refine Xg ⟨i+1,_,s',by omega,en,⟨w3.ext e2 st.l5,w3.keep d4 st.ne,w3.cel,?_,st.l4,st.l5,st.ne⟩,rfl⟩ (by simp[cK,Env.keep,Env.get];omega)
      have:=o2.wrC w3
      simpa [tms,tmP]using this
     ·rw[decide_eq_false a3]at k2
      rw[if_neg fun h=>a3 h.2.2]at en
      repeat' first|apply Qh|apply Qc|apply QD|apply Qz|apply Xn|apply Qm|apply Qs|apply Qf|(apply Qg;first|refine Qi rfl ?_|refine Qj rfl ?_)|(apply Qe;first|refine Qp rfl ?_|refine Xr rfl rfl rfl rfl rfl rfl rfl ?_|refine Xh rfl rfl rfl rfl rfl rfl rfl rfl ?_|refine Xd rfl rfl rfl rfl rfl rfl rfl rfl rfl ?_)|(apply Qb;first|refine QJ (esz:=1) rfl rfl (by omega) ?_|refine Xx rfl rd ?_|(refine Qd rfl (k1 _) ?_;rintro v _ ⟨rfl,rfl⟩)|(refine Qd rfl (k2 _) ?_;rintro v _ ⟨rfl,rfl⟩)|(refine Xp rfl rfl ?_)|(refine QZ rfl rfl c4 ?_;intro h3 w3)|refine QE rfl ?_|refine Qn rfl ?_|refine Qy rfl rfl ?_|refine XX rfl ?_|refine YW rfl ?_|refine Q1 rfl rfl (by omega) ?_|refine QH rfl rfl (by omega) ?_|refine XY rfl rfl (by omega) ?_|refine Xk rfl rfl (by omega) ?_)
      obtain⟨r',s',b1,b2⟩:=bad en h3 w3
      exact YJ (.inr ⟨rfl,r',s',b1,b2,rfl⟩)
    ·rw[if_neg fun h=>a2 h.2.1]at en
     repeat' first|apply Qh|apply Qc|apply QD|apply Qz|apply Xn|apply Qm|apply Qs|apply Qf|(apply Qg;first|refine Qi rfl ?_|refine Qj rfl ?_)|(apply Qe;first|refine Qp rfl ?_|refine Xr rfl rfl rfl rfl rfl rfl rfl ?_|refine Xh rfl rfl rfl rfl rfl rfl rfl rfl ?_|refine Xd rfl rfl rfl rfl rfl rfl rfl rfl rfl ?_)|(apply Qb;first|refine QJ (esz:=1) rfl rfl (by omega) ?_|refine Xx rfl rd ?_|(refine Qd rfl (k1 _) ?_;rintro v _ ⟨rfl,rfl⟩)|(refine Xp rfl rfl ?_)|(refine QZ rfl rfl c4 ?_;intro h3 w3)|refine Xa rfl ?_|refine QE rfl ?_|refine Qn rfl ?_|refine QK rfl rfl ?_|refine Qy rfl rfl ?_|refine XX rfl ?_|refine QH rfl rfl (by omega) ?_|refine X9 rfl rfl (by omega) ?_|refine Xk rfl rfl (by omega) ?_)
     obtain⟨r',s',b1,b2⟩:=bad en h3 w3
     exact YJ (.inr ⟨rfl,r',s',b1,b2,rfl⟩)
   ·rw[decide_eq_false a1]at k1
    rw[if_neg fun h=>a1 h.1]at en
    repeat' first|apply Qh|apply Qc|apply QD|apply Qz|apply Xn|apply Qm|apply Qs|apply Qf|(apply Qg;first|refine Qi rfl ?_|refine Qj rfl ?_)|(apply Qe;first|refine Qp rfl ?_|refine Xr rfl rfl rfl rfl rfl rfl rfl ?_|refine Xh rfl rfl rfl rfl rfl rfl rfl rfl ?_|refine Xd rfl rfl rfl rfl rfl rfl rfl rfl rfl ?_)|(apply Qb;first|refine QJ (esz:=1) rfl rfl (by omega) ?_|refine Xx rfl rd ?_|(refine Qd rfl (k1 _) ?_;rintro v _ ⟨rfl,rfl⟩)|(refine Xp rfl rfl ?_)|(refine QZ rfl rfl c4 ?_;intro h3 w3)|refine Xa rfl ?_|refine Qn rfl ?_|refine QK rfl rfl ?_|refine YW rfl ?_|refine QH rfl rfl (by omega) ?_|refine Xk rfl rfl (by omega) ?_)
    obtain⟨r',s',b1,b2⟩:=bad en h3 w3
    exact YJ (.inr ⟨rfl,r',s',b1,b2,rfl⟩)
 ·have:i=xs.length:=by omega
  subst this
  repeat' first|apply Qh|apply Qc|apply Xc|apply Q5|apply Qf|(apply Qg;refine Qj rfl ?_)|(apply Qe;refine Xr rfl rfl rfl rfl rfl rfl rfl ?_)|(apply Qb;refine QW rfl rfl (by omega) ?_)
  exact XA (.inl ⟨rfl,r,s,_,_,_,_,_,hr,st,rfl⟩)
theorem yc(h0:Qa)(low:Int)(hlow : -9223372036854775808<=low/\low<=9223372036854775807)(c:SV)(xs:List Int)(hn:xs.length<=1000000)(hc:IsInts h0 c xs)(hw:∀ x∈xs,-9223372036854775808<=x/\x<=9223372036854775807) :
  ∃ r h',Cal FT HKt 20 [.sc (.int .i64 low),.sc c] h0 r h'/\Ext h0 h'/\Z5 h' r (ofP low xs):=by
 refine Cal.of (F:=a20) rfl rfl rfl ?_
 have lc:=IsSl.len hc
 repeat' first|apply Qh|apply Qc|apply Qz|apply Qf|(apply Qe;first|refine Qq rfl rfl rfl ?_|refine QA rfl rfl rfl rfl ?_|refine Q7 rfl rfl rfl rfl rfl rfl ?_)|(apply Qb;first|(have z:=e1;apply QQ;intro h2 e2 c2;have d1:=c1.ext e2)|(apply QQ;intro h1 e1 c1)|refine QG rfl lc ?_|refine Qn rfl ?_)
 have n1:=e1.len
 have n2:=c1.lt
 refine YK (I20 h0 h0.length h1.length low c xs) (cK [0,4,5,8,9,10] xs.length 10) (R20 h0 h0.length h1.length low xs) ⟨0,[],.nilS,Gs _,rfl,⟨e1.trans e2,d1,c2,.inl ⟨rfl,rfl⟩,Ge _,n1,by omega⟩,rfl⟩ (Qij h0 _ _ low hlow c xs hn hc hw) ?_
 rintro ex E' h3 (⟨rfl,r,s,a,b,c,d,e,hr,st,rfl⟩|⟨rfl,r,s,hr,st,rfl⟩)
 ·have c5:=st.c5
  have c4:=st.c4
  repeat' first|apply Qh|apply Qc|apply Q8|apply Qs|apply Qf|(apply Qe;refine Qp rfl ?_)|(apply Qb;first|refine Qv rfl c5 ?_|(refine QZ rfl rfl c4 ?_;intro h4 w4))
  refine⟨.inr rfl,QY rfl w4.cel.read ⟨w4.ext st.e st.l4,s,?_,?_⟩⟩
  ·unfold ofP;rw[hr]
  ·unfold ofP;rw[hr]
   exact(st.o.wrC w4).is
 ·repeat' first|apply QD|apply Xn
  refine⟨.inr rfl,QY rfl st.c4.read ⟨st.e,.nilS,?_,?_⟩⟩
  ·unfold ofP;rw[hr]
  ·unfold ofP;rw[hr]
   exact IsD.nil _
def I60(h0:Qa)(s t:SV)(a b:List Tm)(E:Env)(h:Qa):Prop:=h=h0/\∃ i:Nat,i<=a.length/\a.take i=b.take i ∧
 E.keep [0,1,12,13]=[(0,some (.sc s)),(1,some (.sc t)),(12,some (.sc (.int .i64 (a.length:Nat)))),(13,some (.sc (.int .i64 (i:Nat))))]
def R60(h0:Qa)(a b:List Tm)(ex:Ex)(E:Env)(h:Qa):Prop:=h=h0/\((ex = .ex 0/\a=b)∨(ex = .rt/\a≠b/\E=[(4,some (.sc (.bool false)))]))
theorem Qif(h0:Qa)(s t:SV)(a b:List Tm)(hs:IsD h0 s (tms a))(ht:IsD h0 t (tms b))(hl:a.length=b.length)(hn:a.length<=3000000)(E:Env)(h:Qa)(hI:I60 h0 s t a b E h) :
  wA FT HKt QjY (E.keep [0,1,12,13]) h (QC (I60 h0 s t a b) (cK [0,1,12,13] a.length 13) (cK [0,1,12,13] a.length 13 E h) (R60 h0 a b)):=by
 obtain⟨rfl,i,hi,he,hE⟩:=hI
 have hm:cK [0,1,12,13] a.length 13 E h=a.length-i:=by unfold cK;rw[hE];rfl
 rw[hm,hE]
 by_cases hlt:i<a.length
 ·obtain⟨x,hx⟩:∃ x,a[i]?=some x:=⟨_,Gc hlt⟩
  obtain⟨y,hy⟩:∃ y,b[i]?=some y:=⟨_,Gc (by omega)⟩
  obtain⟨id1,o1,c1,e1,r1⟩:=hs.at (i:=i) (p:=tmP x) (by simp[hx])
  obtain⟨id2,o2,c2,e2,r2⟩:=ht.at (i:=i) (p:=tmP y) (by simp[hy])
  rw[QL]at e1 e2
  subst e1 e2
  have b0:(0:Int)<=(i:Nat)/\((i:Nat):Int)<(b.length:Nat):=by omega
  by_cases hxy:x=y
  ·subst hxy
   have e3:(x.1==x.1&&x.2==x.2)=true:=by simp
   repeat' first|apply Qh|apply Qc|apply Qz|apply QV|apply Qm|apply Qf|apply QU|apply Xl|apply Xm|(apply Qg;first|refine Qi rfl ?_|refine Qj rfl ?_)|(apply Qe;first|apply QR|refine QA rfl rfl rfl rfl ?_|refine QM rfl rfl rfl rfl rfl ?_)|(apply Qb;first|refine QJ (esz:=2) rfl rfl (by omega) ?_|refine XN rfl r1 ?_|refine XN rfl r2 ?_|(refine Qgt rfl rfl ?_;rw[e3])|refine Qn rfl ?_|refine Q1 rfl rfl (by omega) ?_|refine QH rfl rfl (by omega) ?_)
   refine Xg ⟨rfl,i+1,by omega,?_,rfl⟩ (by simp[cK,Env.keep,Env.get];omega)
   rw[G1,G1,he,hx,hy]
  ·have e3:(x.1==y.1&&x.2==y.2)=false:=by
    rw[Bool.and_eq_false_iff]
    by_cases h1:x.1=y.1
    ·exact .inr (by simpa using fun h2=>hxy (Prod.ext h1 h2))
    ·exact .inl (by simpa using h1)
   repeat' first|apply Qh|apply Qc|apply QD|apply Qz|apply Xn|apply Qm|apply Qs|apply Qf|apply QU|apply Xl|apply Xm|(apply Qg;refine Qi rfl ?_)|(apply Qe;first|apply QR|refine Qp rfl ?_|refine QM rfl rfl rfl rfl rfl ?_)|(apply Qb;first|refine QJ (esz:=2) rfl rfl (by omega) ?_|refine XN rfl r1 ?_|refine XN rfl r2 ?_|(refine Qgt rfl rfl ?_;rw[e3])|refine Qn rfl ?_|refine QH rfl rfl (by omega) ?_)
   exact YJ ⟨rfl,.inr ⟨rfl,fun h=>hxy (by rw[h,hy]at hx;exact(Option.some.inj hx).symm),rfl⟩⟩
 ·have:i=a.length:=by omega
  subst this
  repeat' first|apply Qh|apply Qc|apply Xc|apply Q5|apply Qf|(apply Qg;refine Qj rfl ?_)|(apply Qe;refine QM rfl rfl rfl rfl rfl ?_)|(apply Qb;refine QW rfl rfl (by omega) ?_)
  rw[GH,hl,GH]at he
  exact XA ⟨rfl,.inl ⟨rfl,he⟩⟩
theorem QlC(h0:Qa)(s t:SV)(a b:List Tm)(hs:IsD h0 s (tms a))(ht:IsD h0 t (tms b))(hn:a.length<=3000000):∃ r h',Cal FT HKt 60 [.sc s,.sc t] h0 r h'/\r = .sc (.bool (decide (a=b)))/\h'=h0:=by
 refine Cal.of (F:=a60) rfl rfl rfl ?_
 have ls:=hs.len
 have lt:=ht.len
 rw[QL]at ls lt
 by_cases hl:a.length=b.length
 ·repeat' first|apply Qh|apply Qc|apply Qz|apply Qm|apply Qf|(apply Qg;refine Qj rfl ?_)|(apply Qe;first|refine Qx rfl rfl ?_|refine Qq rfl rfl rfl ?_|refine QA rfl rfl rfl rfl ?_)|(apply Qb;first|refine QG rfl ls ?_|refine QG rfl lt ?_|refine Qn rfl ?_|refine X2 rfl rfl (by omega) ?_)
  refine YK (I60 h0 s t a b) (cK [0,1,12,13] a.length 13) (R60 h0 a b) ⟨rfl,0,Gs _,rfl,rfl⟩ (Qif h0 s t a b hs ht hl hn) ?_
  rintro ex E' h1 ⟨rfl,⟨rfl,he⟩|⟨rfl,he,rfl⟩⟩
  ·rw[decide_eq_true he]
   repeat' first|apply Qh|apply Qc|apply Q8|apply Qs|apply Qf|(apply Qe;refine Qp rfl ?_)|(apply Qb;refine Qn rfl ?_)
   exact⟨.inr rfl,rfl,rfl⟩
  ·rw[decide_eq_false he]
   repeat' first|apply QD|apply Xn
   exact⟨.inr rfl,rfl,rfl⟩
 ·rw[decide_eq_false fun h=>hl (by rw[h])]
  repeat' first|apply Qh|apply Qc|apply QD|apply Qs|apply Qf|(apply Qg;refine Qi rfl ?_)|(apply Qe;first|refine Qp rfl ?_|refine Qx rfl rfl ?_|refine Qq rfl rfl rfl ?_)|(apply Qb;first|refine QG rfl ls ?_|refine QG rfl lt ?_|refine Qn rfl ?_|refine Zh rfl rfl (by omega) ?_)
  exact⟨.inr rfl,rfl,rfl⟩
theorem QlJ(h0:Qa)(s t:SV)(p q:Pol)(hs:IsD h0 s (tms p.ts))(ht:IsD h0 t (tms q.ts))(hn:p.ts.length<=3000000):∃ r h',Cal FT HKt 23 [.agg [.bool p.big,s],.agg [.bool q.big,t]] h0 r h'/\Ext h0 h'/\r = .sc (.bool (decide (p=q))):=by
 refine Cal.of (F:=a23) rfl rfl rfl ?_
 have k46:=fun H (e:Ext h0 H)=>QlC H s t p.ts q.ts (hs.ext e) (ht.ext e) hn
 obtain⟨pb,pt⟩:=p
 obtain⟨qb,qt⟩:=q
 simp only[Pol.mk.injEq]at *
 by_cases hb:pb=qb
 ·subst hb
  simp only[true_and]
  have e3:(pb==pb)=true:=by simp
  repeat' first|apply Qh|apply Qc|apply Qs|apply Qf|(apply Qe;first|refine Qp rfl ?_|refine Qx rfl rfl ?_)|(apply Qb;first|(have z:=e1;refine Qr rfl ?_;intro h2 e2 c2;have d1:=c1.ext e2)|(refine Qr rfl ?_;intro h1 e1 c1)|refine QB rfl d1 ?_|refine QB rfl c2 ?_|refine Qt rfl d1 ?_|refine Qt rfl c2 ?_|(refine qI rfl rfl ?_;simp only[Bool.false_eq_true,if_false,e3])|(refine Qd rfl (k46 h2 (e1.trans e2)) ?_;rintro r _ ⟨rfl,rfl⟩)|refine QE rfl ?_|refine Qn rfl ?_|refine QK rfl rfl ?_|refine Xt rfl rfl ?_)
  exact⟨.inr rfl,e1.trans e2,rfl⟩
 ·have e3:(pb==qb)=false:=by simpa using hb
  rw[decide_eq_false fun h=>hb h.1]
  repeat' first|apply Qh|apply Qc|apply Qs|apply Qf|(apply Qe;first|refine Qp rfl ?_|refine Qx rfl rfl ?_)|(apply Qb;first|(have z:=e1;refine Qr rfl ?_;intro h2 e2 c2;have d1:=c1.ext e2)|(refine Qr rfl ?_;intro h1 e1 c1)|refine QB rfl d1 ?_|refine QB rfl c2 ?_|(refine qI rfl rfl ?_;simp only[Bool.false_eq_true,if_false,e3])|refine Xa rfl ?_|refine Qn rfl ?_|refine Qy rfl rfl ?_|refine Xt rfl rfl ?_)
  exact⟨.inr rfl,e1.trans e2,rfl⟩
