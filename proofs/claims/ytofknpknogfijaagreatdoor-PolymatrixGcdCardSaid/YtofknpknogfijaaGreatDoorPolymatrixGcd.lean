/- Proved is the g -/
import Derived.Test.YtofknpknogfijaaGreatDoorRows
import Derived.Test.YtofknpknogfijaaGreatDoorCards
import Derived.Test.YtofknpknogfijaaGreatDoorTie
import Derived.Test.YtofknpknogfijaaGreatDoorGL
import Derived.MakeChecks
import Derived.Lay
import Derived.Shelf.Vars
import Derived.ProofKit
import Derived.OpenShut
import Derived.ShutString
import Derived.ChangeOld
import Derived.LaidMore
import Derived.Stop.Joined
import Derived.SevenTiedAt
namespace Go.Proofs.YtofknpknogfijaaGreatDoor.polymatrixGcd
open Go.ChangeShapes Go.WideShapes Go.ChangeAt Go.RowKit
open Go.ChangeMaps (open_string shut_string)
set_option linter.unusedVariables false
theorem own:ownKnob Tryz.prog.godebug=none:=by kernel_rfl
theorem QaA:laidOutB Tryz.prog=true:=by kernel_rfl
theorem walk (n0a:Int) (a0:Option Addr) (len0 cap0:Nat) (d0:Ent) (n1a:Int) (a1:Option Addr) (len1 cap1:Nat) (d1:Ent) (n2a:Int) (a2:Option Addr) (len2 cap2:Nat) (d2:Ent) (w:World) (w0:Go.Ab.CsOK w (Qa0 d0) [.int .i64 n0a,.slice a0 len0 cap0]) (w1:Go.Ab.CsOK w (Qa0 d1) [.int .i64 n1a,.slice a1 len1 cap1]) (w2:Go.Ab.CsOK w (Qa0 d2) [.int .i64 n2a,.slice a2 len2 cap2]) (hF:Facts w) :
  Calls Tryz.prog 7 #[.agg #[.int .i64 n0a,.slice a0 len0 cap0],.agg #[.int .i64 n1a,.slice a1 len1 cap1],.agg #[.int .i64 n2a,.slice a2 len2 cap2]] w fun e w'=>e = .returned (.bool true)∧Below w.heap.size w w':=by
 letI:Go.Ab.Base:=⟨w.heap.size,w⟩
 obtain ⟨Ls,H,ss,hl,hf,hb,hr⟩:=Go.Ab.CsOK.top (w0.app (w1.app w2))
 obtain ⟨l0,m0,e0,r0,hr⟩:=hr
 obtain ⟨l1,m1,e1,r1,hr⟩:=hr
 have r2:=hr
 obtain ⟨la0,lb0,eb0,⟨ea0,wa0⟩,rb0⟩:=r0
 obtain ⟨s0,es0,x0⟩:=RIs.ok rb0
 subst ea0 es0 eb0
 obtain ⟨la1,lb1,eb1,⟨ea1,wa1⟩,rb1⟩:=r1
 obtain ⟨s1,es1,x1⟩:=RIs.ok rb1
 subst ea1 es1 eb1
 obtain ⟨la2,lb2,eb2,⟨ea2,wa2⟩,rb2⟩:=r2
 obtain ⟨s2,es2,x2⟩:=RIs.ok rb2
 subst ea2 es2 eb2
 subst e1
 subst e0
 rcases hf with _|⟨q0a,hf⟩
 rcases hf with _|⟨q0,hf⟩
 obtain rfl:n0a=d0.1:=by cases q0a;rfl
 rcases hf with _|⟨q1a,hf⟩
 rcases hf with _|⟨q1,hf⟩
 obtain rfl:n1a=d1.1:=by cases q1a;rfl
 rcases hf with _|⟨q2a,hf⟩
 rcases hf with _|⟨q2,hf⟩
 obtain rfl:n2a=d2.1:=by cases q2a;rfl
 obtain ⟨v,h',⟨N,hN⟩,rfl⟩:=call7 H s0 d0 x0 (Go.Ab.lit_i64 wa0) s1 d1 x1 (Go.Ab.lit_i64 wa1) s2 d2 x2 (Go.Ab.lit_i64 wa2)
 exact Go.Ab.top_belowR yD (Qmy w hF) (Ls:=Ls) (h:=H) hl ⟨Nat.le_refl _,fun _ _=>rfl⟩ hb (.cons (.agg (.cons (.int _ _) (.cons q0 .nil))) (.cons (.agg (.cons (.int _ _) (.cons q1 .nil))) (.cons (.agg (.cons (.int _ _) (.cons q2 .nil))) .nil))) (hN N (Nat.le_refl _))
def VN:List (String×DataW Unit):=[("math/bits.deBruijn32tab", Rows.laid_math_bits_deBruijn32tab),("math/bits.deBruijn64tab", Rows.laid_math_bits_deBruijn64tab),("internal/strconv.uint64pow10", Rows.laid_internal_strconv_uint64pow10)]
theorem QgV (os:Os) (args:Array Value):laidMetH Tryz.prog VN ((World.laidAll Tryz.prog os VN).forCall (fun _ _=>0) ⟨#[],args,[]⟩).memory:=by
 rw [MakeChecks.laidMetH_plain _ _ _ (by kernel_rfl)];exact laidMet_laidAll _ (by kernel_rfl) (by kernel_rfl)
theorem facts {W:World} (hsh:W.ShapedOpen Tryz.prog) (hL:laidMetH Tryz.prog VN W):Facts W:=by
 rw [MakeChecks.laidMetH_plain _ _ _ (by kernel_rfl)] at hL
 have hl:laidMet Tryz.prog [("math/bits.deBruijn32tab", Rows.laid_math_bits_deBruijn32tab),("math/bits.deBruijn64tab", Rows.laid_math_bits_deBruijn64tab),("internal/strconv.uint64pow10", Rows.laid_internal_strconv_uint64pow10)] W:=hL
 refine ⟨?_,?_⟩
 ·have e:Rows.laid_internal_strconv_uint64pow10=(Lib.tabData .u64 Lib.pow10Tab:DataW Unit):=by kernel_rfl
  have h3:=hl.tail.tail
  rw [e] at h3
  exact Lib.tabIs_of_head (g:=2) (by kernel_rfl) (by kernel_rfl) Tryz.underlying193 Tryz.underlying99 (by kernel_rfl) (by kernel_rfl) h3
 ·have e:Rows.laid_math_bits_deBruijn64tab=(Lib.tabData .u8 Qer:DataW Unit):=by kernel_rfl
  have h3:=hl.tail
  rw [e] at h3
  exact Lib.tabIs_of_head (g:=3) (by kernel_rfl) (by kernel_rfl) Tryz.underlying202 Tryz.underlying5 (by kernel_rfl) (by kernel_rfl) h3
set_option maxRecDepth 100000 in
theorem Qgm (os:Os) (started:os.Started) (H:Type) (enc:TypeId×Value→H) :
  ReturnsInHanded {} Tryz.checked os 7 .any (fun w args=>(Rows.polymatrixGcdSpec.pre enc Tryz.prog Tryz.f7 [] false w args∧laidMetH Tryz.prog VN w)∧sizedMet enc Tryz.prog Tryz.f7 (OpenSpec.ofChange Rows.polymatrixGcdSpec) false w args)
   (Rows.polymatrixGcdSpec.post enc Tryz.prog Tryz.f7 false true false false):=by
 refine returnsInHanded_of_calls (C:=Tryz.checked) own started (by kernel_rfl)
  (ChangeSpec.witness_shaped (enc:=enc) (C:=Tryz.checked) (os:=os) (X:=fun w _=>laidMetH Tryz.prog VN w) false (World.laidAll Tryz.prog os VN) #[.agg #[.int .i64 0,.slice none 0 0],.agg #[.int .i64 0,.slice none 0 0],.agg #[.int .i64 0,.slice none 0 0]] 8 (World.laidAll_os _ _ _) (World.shaped_of_ZipB (by kernel_rfl) (by kernel_rfl)) (by kernel_rfl) (by kernel_rfl) (by kernel_rfl) (QgV os _)) ?_
 intro w0 tape i0 _ hsh _ hok hpre _
 obtain ⟨_,_,_,fn',hfn',_,_,_,_,hval0⟩:=hok
 obtain rfl:fn'=Tryz.f7:=Option.some.inj (hfn'.symm.trans Tryz.func7)
 obtain ⟨⟨⟨ds,gs,before,hw0,hc⟩,hx⟩,hz⟩:=hpre
 have hW:=DataW.Whole.of_heap (w':=w0.forCall tape i0) (by rfl) hw0
 have hP:=facts hsh (laidMetH.of_heap (w':=w0.forCall tape i0) (by rfl) hx)
 generalize w0.heap.size=base at hval0
 clear hw0 hx hz hc hsh
 generalize w0.forCall tape i0=W at *
 generalize i0.args=args at *
 have hval:∀ (j:Nat) t v,Tryz.f7.params[j]?=some t→args[j]?=some v→Value.okWide Tryz.prog W .any base t v:=hval0
 have hW':=hW
 obtain ⟨p,q,hA0,hV,rfl,hfz,hnd⟩:=hW
 have hA:DataW.TrodAll enc Tryz.prog W 0 (fun _=>true) true Tryz.f7.params.toList args.toList ds p:=hA0
 rw [Tryz.params7] at hA hval
 obtain ⟨v0,vs0,d0,ds0,p0,q0,hargs,rfl,rfl,h0,r0⟩:=trodAll_cons hA
 obtain ⟨v1,vs1,d1,ds1,p1,q1,rfl,rfl,rfl,h1,r1⟩:=trodAll_cons r0
 obtain ⟨v2,vs2,d2,ds2,p2,q2,rfl,rfl,rfl,h2,r2⟩:=trodAll_cons r1
 obtain ⟨rfl,rfl,rfl⟩:=trodAll_nil r2
 obtain rfl:args=#[v0,v1,v2]:=by cases args;simp_all
 obtain ⟨rfl,rfl⟩:=trodVars_none hV
 have k0:=h0
 have lt0:∀ x∈p0,x.block<W.heap.size:=by obtain ⟨m,hm⟩:=k0;exact DataW.trod_lt m _ _ _ hm
 obtain ⟨u0a,u0b,y0a,y0b,m0,rfl,rfl,rfl,h0a,h0b⟩:=Go.Joins.open_agg2 Tryz.underlying44 (by kernel_rfl) (by kernel_rfl) (hval 0 44 v0 rfl rfl) h0
 obtain ⟨n0a,e0a,rfl,w0a⟩:=DataW.trod_int Tryz.underlying3 h0a
 simp at e0a
 subst e0a
 obtain ⟨a0,len0,cap0,rfl⟩:∃ a l c,u0b = .slice a l c:=by
  rcases DataW.trod_slice Tryz.underlying42 h0b with ⟨hcs,_⟩|⟨a,l,c,_,_,_,_,hcs,_⟩
  ·exact ⟨none,0,0,by simpa using hcs⟩
  ·exact ⟨some a,l,c,by simpa using hcs⟩
 obtain ⟨d0,w0⟩:∃ d,Go.Ab.CsOK W (Qa0 d) [.int .i64 n0a,.slice a0 len0 cap0]:=by
  obtain ⟨fuel,hf⟩:=k0
  have:=((V7 Tryz.underlying44 ⟨rfl,rfl⟩ ⟨rfl,rfl⟩ Tryz.underlying3 Tryz.underlying42 (by kernel_rfl) (by kernel_rfl) (by kernel_rfl)) fuel _ _ hf).2
  simpa [Value.cells] using this
 have k1:=h1
 have lt1:∀ x∈p1,x.block<W.heap.size:=by obtain ⟨m,hm⟩:=k1;exact DataW.trod_lt m _ _ _ hm
 obtain ⟨u1a,u1b,y1a,y1b,m1,rfl,rfl,rfl,h1a,h1b⟩:=Go.Joins.open_agg2 Tryz.underlying44 (by kernel_rfl) (by kernel_rfl) (hval 1 44 v1 rfl rfl) h1
 obtain ⟨n1a,e1a,rfl,w1a⟩:=DataW.trod_int Tryz.underlying3 h1a
 simp at e1a
 subst e1a
 obtain ⟨a1,len1,cap1,rfl⟩:∃ a l c,u1b = .slice a l c:=by
  rcases DataW.trod_slice Tryz.underlying42 h1b with ⟨hcs,_⟩|⟨a,l,c,_,_,_,_,hcs,_⟩
  ·exact ⟨none,0,0,by simpa using hcs⟩
  ·exact ⟨some a,l,c,by simpa using hcs⟩
 obtain ⟨d1,w1⟩:∃ d,Go.Ab.CsOK W (Qa0 d) [.int .i64 n1a,.slice a1 len1 cap1]:=by
  obtain ⟨fuel,hf⟩:=k1
  have:=((V7 Tryz.underlying44 ⟨rfl,rfl⟩ ⟨rfl,rfl⟩ Tryz.underlying3 Tryz.underlying42 (by kernel_rfl) (by kernel_rfl) (by kernel_rfl)) fuel _ _ hf).2
  simpa [Value.cells] using this
 have k2:=h2
 have lt2:∀ x∈p2,x.block<W.heap.size:=by obtain ⟨m,hm⟩:=k2;exact DataW.trod_lt m _ _ _ hm
 obtain ⟨u2a,u2b,y2a,y2b,m2,rfl,rfl,rfl,h2a,h2b⟩:=Go.Joins.open_agg2 Tryz.underlying44 (by kernel_rfl) (by kernel_rfl) (hval 2 44 v2 rfl rfl) h2
 obtain ⟨n2a,e2a,rfl,w2a⟩:=DataW.trod_int Tryz.underlying3 h2a
 simp at e2a
 subst e2a
 obtain ⟨a2,len2,cap2,rfl⟩:∃ a l c,u2b = .slice a l c:=by
  rcases DataW.trod_slice Tryz.underlying42 h2b with ⟨hcs,_⟩|⟨a,l,c,_,_,_,_,hcs,_⟩
  ·exact ⟨none,0,0,by simpa using hcs⟩
  ·exact ⟨some a,l,c,by simpa using hcs⟩
 obtain ⟨d2,w2⟩:∃ d,Go.Ab.CsOK W (Qa0 d) [.int .i64 n2a,.slice a2 len2 cap2]:=by
  obtain ⟨fuel,hf⟩:=k2
  have:=((V7 Tryz.underlying44 ⟨rfl,rfl⟩ ⟨rfl,rfl⟩ Tryz.underlying3 Tryz.underlying42 (by kernel_rfl) (by kernel_rfl) (by kernel_rfl)) fuel _ _ hf).2
  simpa [Value.cells] using this
 clear hA0 hval0
 refine (walk n0a a0 len0 cap0 d0 n1a a1 len1 cap1 d1 n2a a2 len2 cap2 d2 W w0 w1 w2 hP).mono fun e W' ⟨he,bel⟩=>?_
 subst he
 refine ChangeSpec.post_blind ?_
 exact ⟨_,_,_,[],_,[],hW',trodAll_mk1 (shut_bool Tryz.underlying4 _),(trodAll_cons_mk (Below.trod QaA (by kernel_rfl) (of_decide_eq_true (by kernel_rfl)) k0 bel lt0) (trodAll_cons_mk (Below.trod QaA (by kernel_rfl) (of_decide_eq_true (by kernel_rfl)) k1 bel lt1) (trodAll_cons_mk (Below.trod QaA (by kernel_rfl) (of_decide_eq_true (by kernel_rfl)) k2 bel lt2) trodAll_mk0))),rfl,bel.frame _,fun h=>by cases h⟩
theorem yV:Rows.polymatrixGcdRow.holds Tryz.pinned (OpenSpec.ofChange Rows.polymatrixGcdSpec) :=
 OpenClaim.holds_of_wide 7 Tryz.f7 rfl rfl rfl rfl rfl rfl rfl ⟨rfl,rfl,rfl,rfl,rfl⟩ rfl rfl rfl rfl rfl (by kernel_rfl) Tryz.func7 (by kernel_rfl)
  (of_decide_eq_true (by kernel_rfl)) (by unfold Func.isWrapper;first|(rw [if_pos (by decide +kernel)];kernel_rfl)|(rw [if_neg (by decide +kernel)];exact ⟨rfl,rfl⟩))
  (fun os started H enc _=>Qgm os started H enc)
theorem polymatrixGcd_proved:Rows.PolymatrixGcdCardSaid :=
 Claim7.holds_tied_plain_at .later [] [.data,.data,.data] true (true, "3a1cc6b549df5b98f0eda777768ad5c0d60734d5a6a34ceb246611653118709d") false
  yV (fun _ h=>by cases h) (by kernel_rfl) (fun _ h=>by cases h) polymatrixGcd_row_tie rfl ⟨rfl,rfl⟩ (by kernel_rfl) rfl
  (fun f fn hf hfn=>by
   obtain rfl:f=7:=Option.some.inj ((show Tryz.prog.funcNamed "unravel/unravellaw24.PolymatrixGcd" = some 7 by kernel_rfl).symm.trans hf) |>.symm
   obtain rfl:fn=Tryz.f7:=(Option.some.inj (Tryz.func7.symm.trans hfn)).symm
   exact ⟨by kernel_rfl,fun j t ht=>by
    rw [Tryz.params7] at ht
    have hm:t∈[44,44,44]:=by simpa using Array.mem_of_getElem? ht
    have hall:([44,44,44].all fun u=>!Tryz.prog.wantsStandIn u)=true:=by kernel_rfl
    exact (show Tryz.prog.wantsStandIn t=false by simpa using List.all_eq_true.1 hall t hm)⟩)
  (by kernel_rfl)
#print axioms polymatrixGcd_proved
end Go.Proofs.YtofknpknogfijaaGreatDoor.polymatrixGcd
