import Derived.Test.YtofknpknogfijaaGreatDoorAb41
import Derived.Maps.RangeRun
/- What holds whatever order a map is run through in: rules for code that ranges over maps. -/
namespace Go.Ab
set_option linter.all false
section
variable [Base]
def Top(β:Bt)(h:Qa):Prop:=∀ id,h.length<=id->β id=none
def RPost(β:Bt)(h:Qa)(w:World)(n:Nat)(ds:List Deferred)(Q:Ex->Env->Qa->Prop)(x:Exit)(a':Act)(w':World):Prop :=
 ∃ ex E' h' β',x=Qe7 ex/\Q ex E' h'/\Stp β h w β' h' w'/\Rep β' h' w'/\ERel β' E' a'.tmps/\a'.tmps.size=n/\a'.defers=ds
def RW(P:Program)(n:Nat)(c:AC)(E:Env)(h:Qa)(Q:Ex->Env->Qa->Prop):Prop :=
 ∀(d:Code),XW P n c d=true->∀(β:Bt) (w:World) (a:Act),Rep β h w->Top β h->ERel β E a.tmps->a.tmps.size=n->d.wp P (RPost β h w n a.defers Q) a w
variable {P:Program} {n:Nat} {c a b:AC} {E:Env} {h:Qa} {Q Q':Ex->Env->Qa->Prop}
theorem RW.mono(hw:RW P n c E h Q)(hq:∀ ex E' h',Q ex E' h'->Q' ex E' h'):RW P n c E h Q':=fun d hd β w a R t hE hn =>
 wp_mono (hw d hd β w a R t hE hn) fun x a' w' ⟨ex,E',h',β',h1,h2,h3⟩=>⟨ex,E',h',β',h1,hq _ _ _ h2,h3⟩
theorem RW.block{id:Nat}(hw:RW P n a E h (Xs id Q)):RW P n (.block id a) E h Q:=fun d hd β w ac R t hE hn=>by
 cases d <;> simp[XW]at hd
 obtain⟨rfl,k2⟩:=hd
 refine wp_block (wp_mono (hw _ k2 β w ac R t hE hn) ?_)
 rintro x a' w' ⟨ex,E',h',β',rfl,hq,s1,s2,s3,s4,s5⟩
 cases ex with
 | nm=>exact⟨.nm,E',h',β',rfl,hq,s1,s2,s3,s4,s5⟩
 | rt=>exact⟨.rt,E',h',β',rfl,hq,s1,s2,s3,s4,s5⟩
 | ex i =>
  simp only[Xs]at hq
  rw[V2]at hq
  split at hq
  ·rename_i hi
   simp only[Qe7,Exit.inBlock,hi,if_true]
   exact⟨.nm,E',h',β',rfl,hq,s1,s2,s3,s4,s5⟩
  ·rename_i hi
   simp only[Qe7,Exit.inBlock,hi,if_false]
   exact⟨.ex i,E',h',β',rfl,hq,s1,s2,s3,s4,s5⟩
end
