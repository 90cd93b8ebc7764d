/- Proved is the g -/
import Derived.Test.YtofknpknogfijaaGreatDoorRows
import Derived.Test.YtofknpknogfijaaGreatDoorCards
import Derived.Test.YtofknpknogfijaaGreatDoorTie
import Derived.Test.YtofknpknogfijaaGreatDoorPL
import Derived.MakeChecks
import Derived.Lay
import Derived.Shelf.Vars
import Derived.WalkKit
import Derived.ProofKit
import Derived.OpenShut
import Derived.ShutString
import Derived.ChangeOld
import Derived.Below
import Derived.LaidMore
import Derived.Stop.Joined
import Derived.SevenTiedAt
namespace Go.Proofs.YtofknpknogfijaaGreatDoor.polymatrixProduct
open Go.ChangeShapes Go.WideShapes Go.ChangeAt Go.RowKit
open Go.ChangeMaps (open_string shut_string)
set_option linter.unusedVariables false
theorem own:ownKnob Tryz.prog.godebug=none:=by kernel_rfl
theorem Qeq:laidOutB Tryz.prog=true:=by kernel_rfl
theorem walk (a0:Option Addr) (len0 cap0:Nat) (d0:List (List Ent)) (a1:Option Addr) (len1 cap1:Nat) (d1:List (List Ent)) (w:World) (w0:Go.Ab.CsOK w (RMx d0) [.slice a0 len0 cap0]) (w1:Go.Ab.CsOK w (RMx d1) [.slice a1 len1 cap1]) (hF:Facts w) :
  Calls Tryz.prog 8 #[.slice a0 len0 cap0,.slice a1 len1 cap1] w fun e w'=>e = .returned (.bool true)∧Below w.heap.size w w':=by
 letI:Go.Ab.Base:=⟨w.heap.size,w⟩
 obtain ⟨Ls,H,ss,hl,hf,hb,hr⟩:=Go.Ab.CsOK.top (w0.app w1)
 obtain ⟨l0,m0,e0,r0,hr⟩:=hr
 have r1:=hr
 obtain ⟨s0,es0,x0⟩:=RMx.ok r0
 subst es0
 obtain ⟨s1,es1,x1⟩:=RMx.ok r1
 subst es1
 subst e0
 rcases hf with _|⟨q0,hf⟩
 rcases hf with _|⟨q1,hf⟩
 obtain ⟨v,h',⟨N,hN⟩,rfl⟩:=call8 H s0 d0 x0 s1 d1 x1
 exact Go.Ab.top_belowR yO (QpI w hF) (Ls:=Ls) (h:=H) hl ⟨Nat.le_refl _,fun _ _=>rfl⟩ hb (.cons (.sc q0) (.cons (.sc q1) .nil)) (hN N (Nat.le_refl _))
def V9:List (String×DataW Unit):=[("math/bits.deBruijn32tab", Rows.laid_math_bits_deBruijn32tab),("math/bits.deBruijn64tab", Rows.laid_math_bits_deBruijn64tab),("internal/strconv.uint64pow10", Rows.laid_internal_strconv_uint64pow10)]
theorem Qh2 (os:Os) (args:Array Value):laidMetH Tryz.prog V9 ((World.laidAll Tryz.prog os V9).forCall (fun _ _=>0) ⟨#[],args,[]⟩).memory:=by
 rw [MakeChecks.laidMetH_plain _ _ _ (by kernel_rfl)];exact laidMet_laidAll _ (by kernel_rfl) (by kernel_rfl)
theorem facts {W:World} (hsh:W.ShapedOpen Tryz.prog) (hL:laidMetH Tryz.prog V9 W):Facts W:=by
 rw [MakeChecks.laidMetH_plain _ _ _ (by kernel_rfl)] at hL
 have hl:laidMet Tryz.prog [("math/bits.deBruijn32tab", Rows.laid_math_bits_deBruijn32tab),("math/bits.deBruijn64tab", Rows.laid_math_bits_deBruijn64tab),("internal/strconv.uint64pow10", Rows.laid_internal_strconv_uint64pow10)] W:=hL
 refine ⟨?_,?_⟩
 ·have e:Rows.laid_internal_strconv_uint64pow10=(Lib.tabData .u64 Lib.pow10Tab:DataW Unit):=by kernel_rfl
  have h3:=hl.tail.tail
  rw [e] at h3
  exact Lib.tabIs_of_head (g:=2) (by kernel_rfl) (by kernel_rfl) Tryz.underlying193 Tryz.underlying99 (by kernel_rfl) (by kernel_rfl) h3
 ·have e:Rows.laid_math_bits_deBruijn64tab=(Lib.tabData .u8 Qe5:DataW Unit):=by kernel_rfl
  have h3:=hl.tail
  rw [e] at h3
  exact Lib.tabIs_of_head (g:=3) (by kernel_rfl) (by kernel_rfl) Tryz.underlying202 Tryz.underlying5 (by kernel_rfl) (by kernel_rfl) h3
set_option maxRecDepth 100000 in
theorem Qhl (os:Os) (started:os.Started) (H:Type) (enc:TypeId×Value→H) :
  ReturnsInHanded {} Tryz.checked os 8 .any (fun w args=>(Rows.polymatrixProductSpec.pre enc Tryz.prog Tryz.f8 [] false w args∧laidMetH Tryz.prog V9 w)∧sizedMet enc Tryz.prog Tryz.f8 (OpenSpec.ofChange Rows.polymatrixProductSpec) false w args)
   (Rows.polymatrixProductSpec.post enc Tryz.prog Tryz.f8 false true false false):=by
 refine returnsInHanded_of_calls (C:=Tryz.checked) own started (by kernel_rfl)
  (ChangeSpec.witness_shaped (enc:=enc) (C:=Tryz.checked) (os:=os) (X:=fun w _=>laidMetH Tryz.prog V9 w) false (World.laidAll Tryz.prog os V9) #[.slice none 0 0,.slice none 0 0] 8 (World.laidAll_os _ _ _) (World.shaped_of_ZipB (by kernel_rfl) (by kernel_rfl)) (by kernel_rfl) (by kernel_rfl) (by kernel_rfl) (Qh2 os _)) ?_
 intro w0 tape i0 _ hsh _ hok hpre _
 obtain ⟨_,_,_,fn',hfn',_,_,_,_,hval0⟩:=hok
 obtain rfl:fn'=Tryz.f8:=Option.some.inj (hfn'.symm.trans Tryz.func8)
 obtain ⟨⟨⟨ds,gs,before,hw0,hc⟩,hx⟩,hz⟩:=hpre
 have hW:=DataW.Whole.of_heap (w':=w0.forCall tape i0) (by rfl) hw0
 have hP:=facts hsh (laidMetH.of_heap (w':=w0.forCall tape i0) (by rfl) hx)
 generalize w0.heap.size=base at hval0
 clear hw0 hx hz hc hsh
 generalize w0.forCall tape i0=W at *
 generalize i0.args=args at *
 have hval:∀ (j:Nat) t v,Tryz.f8.params[j]?=some t→args[j]?=some v→Value.okWide Tryz.prog W .any base t v:=hval0
 have hW':=hW
 obtain ⟨p,q,hA0,hV,rfl,hfz,hnd⟩:=hW
 have hA:DataW.TrodAll enc Tryz.prog W 0 (fun _=>true) true Tryz.f8.params.toList args.toList ds p:=hA0
 rw [Tryz.params8] at hA hval
 obtain ⟨v0,vs0,d0,ds0,p0,q0,hargs,rfl,rfl,h0,r0⟩:=trodAll_cons hA
 obtain ⟨v1,vs1,d1,ds1,p1,q1,rfl,rfl,rfl,h1,r1⟩:=trodAll_cons r0
 obtain ⟨rfl,rfl,rfl⟩:=trodAll_nil r1
 obtain rfl:args=#[v0,v1]:=by cases args;simp_all
 obtain ⟨rfl,rfl⟩:=trodVars_none hV
 have k0:=h0
 have lt0:∀ x∈p0,x.block<W.heap.size:=by obtain ⟨m,hm⟩:=k0;exact DataW.trod_lt m _ _ _ hm
 obtain ⟨a0,len0,cap0,rfl⟩:=okWide_slice Tryz.underlying22 (hval 0 22 v0 rfl rfl)
 obtain ⟨d0,w0⟩:∃ d,Go.Ab.CsOK W (RMx d) [.slice a0 len0 cap0]:=by
  obtain ⟨fuel,hf⟩:=k0
  have:=((Qge Tryz.underlying22 (by kernel_rfl) (QdE Tryz.underlying52 (by kernel_rfl) (QdF Tryz.underlying44 ⟨rfl,rfl⟩ ⟨rfl,rfl⟩ Tryz.underlying3 Tryz.underlying42 (by kernel_rfl) (by kernel_rfl) (by kernel_rfl)))) fuel _ _ hf).2
  simpa [Value.cells] using this
 have k1:=h1
 have lt1:∀ x∈p1,x.block<W.heap.size:=by obtain ⟨m,hm⟩:=k1;exact DataW.trod_lt m _ _ _ hm
 obtain ⟨a1,len1,cap1,rfl⟩:=okWide_slice Tryz.underlying22 (hval 1 22 v1 rfl rfl)
 obtain ⟨d1,w1⟩:∃ d,Go.Ab.CsOK W (RMx d) [.slice a1 len1 cap1]:=by
  obtain ⟨fuel,hf⟩:=k1
  have:=((Qge Tryz.underlying22 (by kernel_rfl) (QdE Tryz.underlying52 (by kernel_rfl) (QdF Tryz.underlying44 ⟨rfl,rfl⟩ ⟨rfl,rfl⟩ Tryz.underlying3 Tryz.underlying42 (by kernel_rfl) (by kernel_rfl) (by kernel_rfl)))) fuel _ _ hf).2
  simpa [Value.cells] using this
 clear hA0 hval0
 refine (walk a0 len0 cap0 d0 a1 len1 cap1 d1 W w0 w1 hP).mono fun e W' ⟨he,bel⟩=>?_
 subst he
 refine ChangeSpec.post_blind ?_
 exact ⟨_,_,_,[],_,[],hW',trodAll_mk1 (shut_bool Tryz.underlying4 _),(trodAll_cons_mk (Below.trod Qeq (by kernel_rfl) (of_decide_eq_true (by kernel_rfl)) k0 bel lt0) (trodAll_cons_mk (Below.trod Qeq (by kernel_rfl) (of_decide_eq_true (by kernel_rfl)) k1 bel lt1) trodAll_mk0)),rfl,bel.frame _,fun h=>by cases h⟩
theorem QaM:Rows.polymatrixProductRow.holds Tryz.pinned (OpenSpec.ofChange Rows.polymatrixProductSpec) :=
 OpenClaim.holds_of_wide 8 Tryz.f8 rfl rfl rfl rfl rfl rfl rfl ⟨rfl,rfl,rfl,rfl,rfl⟩ rfl rfl rfl rfl rfl (by kernel_rfl) Tryz.func8 (by kernel_rfl)
  (of_decide_eq_true (by kernel_rfl)) (by unfold Func.isWrapper;first|(rw [if_pos (by decide +kernel)];kernel_rfl)|(rw [if_neg (by decide +kernel)];exact ⟨rfl,rfl⟩))
  (fun os started H enc _=>Qhl os started H enc)
theorem polymatrixProduct_proved:Rows.PolymatrixProductCardSaid :=
 Claim7.holds_tied_plain_at .later [] [.data,.data,.data] true (true, "3a1cc6b549df5b98f0eda777768ad5c0d60734d5a6a34ceb246611653118709d") false
  QaM (fun _ h=>by cases h) (by kernel_rfl) (fun _ h=>by cases h) polymatrixProduct_row_tie rfl ⟨rfl,rfl⟩ (by kernel_rfl) rfl
  (fun f fn hf hfn=>by
   obtain rfl:f=8:=Option.some.inj ((show Tryz.prog.funcNamed "unravel/unravellaw24.PolymatrixProduct" = some 8 by kernel_rfl).symm.trans hf) |>.symm
   obtain rfl:fn=Tryz.f8:=(Option.some.inj (Tryz.func8.symm.trans hfn)).symm
   exact ⟨by kernel_rfl,fun j t ht=>by
    rw [Tryz.params8] at ht
    have hm:t∈[22,22]:=by simpa using Array.mem_of_getElem? ht
    have hall:([22,22].all fun u=>!Tryz.prog.wantsStandIn u)=true:=by kernel_rfl
    exact (show Tryz.prog.wantsStandIn t=false by simpa using List.all_eq_true.1 hall t hm)⟩)
  (by kernel_rfl)
#print axioms polymatrixProduct_proved
end Go.Proofs.YtofknpknogfijaaGreatDoor.polymatrixProduct
