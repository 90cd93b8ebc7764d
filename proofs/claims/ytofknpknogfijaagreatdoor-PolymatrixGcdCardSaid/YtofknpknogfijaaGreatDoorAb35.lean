import Derived.Test.YtofknpknogfijaaGreatDoorAb29
/- Queues: a slice of one's own that no longer begins where its block begins. -/
namespace Go.Ab
set_option linter.all false
def Qkc(off n:Nat)(cs:List SV):Option Nat->Prop
 | none=>off+n<=cs.length
 | some c=>cs.length=off+c/\n<=c
def OwnQ(h0 h:Qa)(s:SV)(vs:List SV):Prop :=
 (s = .nilS/\vs=[])∨∃ id off cap cs,s = .slc id off vs.length cap/\h0.length<=id/\h[id]?=some (.cells cs true 1)/\(cs.drop off).take vs.length=vs/\Qkc off vs.length cs cap
theorem Own.q{h0 h:Qa}{s:SV}{vs:List SV}(ho:Own h0 h s vs):OwnQ h0 h s vs:=by
 rcases ho with h|⟨id,cap,cs,e1,e2,e3,e4,e5⟩
 ·exact .inl h
 ·exact .inr ⟨id,0,cap,cs,e1,e2,e3,by simpa using e4,by cases cap <;> simpa [Qkc,Qcj]using e5⟩
theorem OwnQ.len{h0 h:Qa}{s:SV}{vs:List SV}(ho:OwnQ h0 h s vs):Yv false s=some (vs.length:Int):=by
 rcases ho with ⟨rfl,rfl⟩|⟨id,off,cap,cs,rfl,_⟩ <;> rfl
section
variable {FT:zzA} {HK:zzH} {E:Env} {h:Qa} {K:Env->Qa->Prop} {r:List AOp}
end
end Go.Ab
namespace Go.Ab
section
variable {FT:zzA} {HK:zzH}
def Qu(I:Nat->Env->Qa->Prop)(k:Nat)(R:Ex->Env->Qa->Prop):Ex->Env->Qa->Prop
 | .nm,E,h=>∃ j,j<k/\I j E h
 | e,E,h=>R e E h
theorem Lp.ofI{ks:List Nat}{c:AC}(I:Nat->Env->Qa->Prop)(R:Ex->Env->Qa->Prop)(round:∀ k E h,I k E h->wA FT HK c (E.keep ks) h (Qu I k R)):∀ k E h,I k E h->∃ ex E' h',Lp FT HK ks c E h (ex,E',h')/\R ex E' h':=by
 intro n
 induction n using Nat.strongRecOn with
 | _ n ih =>
  intro E h hI
  obtain⟨ex,E',h',h1,h2⟩:=Qcn (round n E h hI)
  cases ex with
  | nm =>
   obtain⟨j,h3,h4⟩:=h2
   obtain⟨ex2,E2,h5,h6,h7⟩:=ih j h3 E' h' h4
   exact⟨ex2,E2,h5,Lp.step h1 h6,h7⟩
  | ex i=>exact⟨_,_,_,Lp.stop (by simp) h1,h2⟩
  | rt=>exact⟨_,_,_,Lp.stop (by simp) h1,h2⟩
theorem XJ{a:AC}{E:Env}{h:Qa}{Q:Ex->Env->Qa->Prop}{ks:List Nat}(I:Nat->Env->Qa->Prop)(k:Nat)(R:Ex->Env->Qa->Prop)(h0:I k E h)
  (round:∀ k E h,I k E h->wA FT HK a (E.keep ks) h (Qu I k R)) (hQ:∀ ex E' h',R ex E' h'->Q ex E' h'):wA FT HK (.loop ks a) E h Q :=
 Qa5 (Lp.ofI I R round k E h h0) hQ
theorem Xb{I:Nat->Env->Qa->Prop}{k j:Nat}{R:Ex->Env->Qa->Prop}{E:Env}{h:Qa}(h2:j<k)(h1:I j E h):Qu I k R .nm E h:=⟨j,h2,h1⟩
theorem Xj{I:Nat->Env->Qa->Prop}{k i:Nat}{R:Ex->Env->Qa->Prop}{E:Env}{h:Qa}(h1:R (.ex i) E h):Qu I k R (.ex i) E h:=h1
theorem Zf{I:Nat->Env->Qa->Prop}{k:Nat}{R:Ex->Env->Qa->Prop}{E:Env}{h:Qa}(h1:R .rt E h):Qu I k R .rt E h:=h1
end
section
variable {FT:zzA} {HK:zzH} {E:Env} {h:Qa} {K:Env->Qa->Prop} {d:Option Nat} {r:List AOp} {x y:AO}
theorem qI{neg a b:Bool}(hx:evS E x=some (.bool a))(hy:evS E y=some (.bool b))(hw:Qk FT HK r (Qw d (some (.sc (.bool (if neg then !(a==b) else a==b)))) E) h K):Qk FT HK (⟨d,.beq neg x y,none⟩::r) E h K :=
 Xi rfl rfl (by simp only[Ql,hx,hy]) hw
end
