/- Contracts of the library at this program,as the kit lays them: strconv_Itoa. -/
import Derived.Shelf.LaysM
import Derived.Shelf.Spec.TrailingZeros
import Derived.Shelf.Strconv.Itoa3
import Derived.Test.YtofknpknogfijaaGreatDoorProg
import Derived.Test.YtofknpknogfijaaGreatDoorW2
import Derived.Test.YtofknpknogfijaaGreatDoorAwake
import Derived.Test.YtofknpknogfijaaGreatDoorAb32
import Derived.Test.YtofknpknogfijaaGreatDoorO5
import Derived.Test.YtofknpknogfijaaGreatDoorQ0
import Derived.Test.YtofknpknogfijaaGreatDoorPD2
import Derived.Test.YtofknpknogfijaaGreatDoorC3
import Derived.Test.YtofknpknogfijaaGreatDoorEX9
namespace Go.Proofs.YtofknpknogfijaaGreatDoor
open Go.Shelf
def VC:Go.Shelf.Ren:=⟨fun | 171=>43 | 243=>79 | 246=>110 | 283=>132 | 284=>133 | 285=>134 | 286=>135 | 129=>139 | 317=>142 | 318=>143 | 319=>144 | 320=>145 | 337=>155 | 338=>138 | n=>n,fun | 3=>3 | 9=>9 | 2=>2 | 4=>4 | 171=>182 | 0=>0 | 53=>99 | 37=>75 | 5=>5 | 173=>184 | 212=>193 | 51=>190 | 20=>20 | 213=>194 | 46=>159 | 232=>209 | 233=>202 | n=>n,fun | 17=>2 | 18=>4 | 19=>3 | n=>n⟩
theorem QeU:Go.Proofs.LaysM.n171 Tryz.prog VC:={
  mixed:=by kernel_rfl
  f129:=Tryz.func139.trans (congrArg some (by kernel_rfl))
  f171:=Tryz.func43.trans (congrArg some (by kernel_rfl))
  f243:=Tryz.func79.trans (congrArg some (by kernel_rfl))
  f246:=Tryz.func110.trans (congrArg some (by kernel_rfl))
  f283:=Tryz.func132.trans (congrArg some (by kernel_rfl))
  f284:=Tryz.func133.trans (congrArg some (by kernel_rfl))
  f285:=Tryz.func134.trans (congrArg some (by kernel_rfl))
  f286:=Tryz.func135.trans (congrArg some (by kernel_rfl))
  f317:=Tryz.func142.trans (congrArg some (by kernel_rfl))
  f318:=Tryz.func143.trans (congrArg some (by kernel_rfl))
  f319:=Tryz.func144.trans (congrArg some (by kernel_rfl))
  f320:=Tryz.func145.trans (congrArg some (by kernel_rfl))
  f337:=Tryz.func155.trans (congrArg some (by kernel_rfl))
  f338:=Tryz.func138.trans (congrArg some (by kernel_rfl))
  t0:=Tryz.underlying0
  a0:=Tryz.isAgg0
  z0:=Tryz.sizeOf0
  v0:=Tryz.zeroValue0
  t2:=Tryz.underlying2
  a2:=Tryz.isAgg2
  z2:=Tryz.sizeOf2
  v2:=Tryz.zeroValue2
  t3:=Tryz.underlying3
  a3:=Tryz.isAgg3
  z3:=Tryz.sizeOf3
  v3:=Tryz.zeroValue3
  t4:=Tryz.underlying4
  a4:=Tryz.isAgg4
  z4:=Tryz.sizeOf4
  v4:=Tryz.zeroValue4
  t5:=Tryz.underlying5
  a5:=Tryz.isAgg5
  z5:=Tryz.sizeOf5
  v5:=Tryz.zeroValue5
  t9:=Tryz.underlying9
  a9:=Tryz.isAgg9
  z9:=Tryz.sizeOf9
  v9:=Tryz.zeroValue9
  t20:=Tryz.underlying20
  a20:=Tryz.isAgg20
  z20:=Tryz.sizeOf20
  v20:=Tryz.zeroValue20
  t37:=Tryz.underlying75
  a37:=Tryz.isAgg75
  z37:=Tryz.sizeOf75
  v37:=Tryz.zeroValue75
  t46:=Tryz.underlying159
  a46:=Tryz.isAgg159
  z46:=Tryz.sizeOf159
  v46:=Tryz.zeroValue159
  t51:=Tryz.underlying190
  a51:=Tryz.isAgg190
  z51:=Tryz.sizeOf190
  v51:=Tryz.zeroValue190
  t53:=Tryz.underlying99
  a53:=Tryz.isAgg99
  z53:=Tryz.sizeOf99
  v53:=Tryz.zeroValue99
  t171:=Tryz.underlying182
  a171:=Tryz.isAgg182
  z171:=Tryz.sizeOf182
  v171:=Tryz.zeroValue182
  t173:=Tryz.underlying184
  a173:=Tryz.isAgg184
  z173:=Tryz.sizeOf184
  v173:=Tryz.zeroValue184
  t212:=Tryz.underlying193
  a212:=Tryz.isAgg193
  z212:=Tryz.sizeOf193
  v212:=Tryz.zeroValue193
  t213:=Tryz.underlying194
  a213:=Tryz.isAgg194
  z213:=Tryz.sizeOf194
  t232:=Tryz.underlying209
  a232:=Tryz.isAgg209
  z232:=Tryz.sizeOf209
  v232:=Tryz.zeroValue209
  t233:=Tryz.underlying202
  a233:=Tryz.isAgg202
  z233:=Tryz.sizeOf202
  v233:=Tryz.zeroValue202
  g17:=by kernel_rfl
  g18:=by kernel_rfl
  g19:=by kernel_rfl
  i0:=by kernel_rfl
  i2:=by kernel_rfl
  i3:=by kernel_rfl
  i4:=by kernel_rfl
  i5:=by kernel_rfl
  i9:=by kernel_rfl
  i20:=by kernel_rfl
  i37:=by kernel_rfl
  i46:=by kernel_rfl
  i51:=by kernel_rfl
  i53:=by kernel_rfl
  i171:=by kernel_rfl
  i173:=by kernel_rfl
  i212:=by kernel_rfl
  i232:=by kernel_rfl
  i233:=by kernel_rfl
  m17:=by kernel_rfl
  m18:=by kernel_rfl
  m19:=by kernel_rfl }
open Go.RowKit Go.Sort Go.Lib in
theorem strconv_Itoa (n:Int) (h0 : -9223372036854775808≤n) (h1:n≤9223372036854775807) (w:World) (htab:Lib.TabIs Tryz.prog w "internal/strconv.uint64pow10" .u64 Lib.pow10Tab) :
    Calls Tryz.prog 43 #[.int .i64 n] w fun e w'=>e=.returned (.string ⟨(Lib.itoa n).toArray⟩)∧∃ k os,w'=grow (w.drewN k) os:=Any.strconv_Itoa QeU n h0 h1 w htab
def VD:Go.Shelf.Ren:=⟨fun | 29=>138 | n=>n,fun | 0=>0 | 3=>3 | 4=>4 | 5=>5 | 22=>99 | 25=>159 | 54=>202 | n=>n,fun | 1=>3 | n=>n⟩
theorem QeV:Go.Proofs.Lays7.n29 Tryz.prog VD:={
  mixed:=by kernel_rfl
  f29:=Tryz.func138.trans (congrArg some (by kernel_rfl))
  t0:=Tryz.underlying0
  a0:=Tryz.isAgg0
  z0:=Tryz.sizeOf0
  v0:=Tryz.zeroValue0
  i0:=by kernel_rfl
  t3:=Tryz.underlying3
  a3:=Tryz.isAgg3
  z3:=Tryz.sizeOf3
  v3:=Tryz.zeroValue3
  i3:=by kernel_rfl
  t4:=Tryz.underlying4
  a4:=Tryz.isAgg4
  z4:=Tryz.sizeOf4
  v4:=Tryz.zeroValue4
  i4:=by kernel_rfl
  t5:=Tryz.underlying5
  a5:=Tryz.isAgg5
  z5:=Tryz.sizeOf5
  v5:=Tryz.zeroValue5
  i5:=by kernel_rfl
  t22:=Tryz.underlying99
  a22:=Tryz.isAgg99
  z22:=Tryz.sizeOf99
  v22:=Tryz.zeroValue99
  i22:=by kernel_rfl
  t25:=Tryz.underlying159
  a25:=Tryz.isAgg159
  z25:=Tryz.sizeOf159
  v25:=Tryz.zeroValue159
  i25:=by kernel_rfl
  t54:=Tryz.underlying202
  a54:=Tryz.isAgg202
  z54:=Tryz.sizeOf202
  g1:=by kernel_rfl }
theorem bits_TrailingZeros64 (x:Nat) (hx:x < 18446744073709551616) (w:World) (hT:x≠0→TabAt 3 Lib.deBruijn64tab w) :
    Calls Tryz.prog 138 #[.int .u64 x] w fun e w'=>e=.returned (.int .i64 (Lib.ctz 64 x))∧w'=w:=Any7.bits_TrailingZeros64 QeV x hx w hT
end Go.Proofs.YtofknpknogfijaaGreatDoor


/- The hooks are sound,in every world that holds what the row lists. -/
namespace Go.Proofs.YtofknpknogfijaaGreatDoor
open Go.Ab
set_option linter.unusedVariables false
def Qc2:List Int:=List.map (fun n:Nat=>(n:Int)) Lib.deBruijn64tab
structure Facts (W:World):Prop where
  pow:Lib.TabIs Tryz.prog W "internal/strconv.uint64pow10" .u64 Lib.pow10Tab
  deb:Lib.TabIs Tryz.prog W "math/bits.deBruijn64tab" .u8 Qc2
abbrev BW (W:World):Base:=⟨W.heap.size,W⟩
theorem Qj0 {w:World} (h:Lib.TabIs Tryz.prog w "math/bits.deBruijn64tab" .u8 Qc2):TabAt 3 Lib.deBruijn64tab w:=fun j hj=>by
  have:=h.cell (g:=3) (by kernel_rfl) j (by unfold Qc2;rw [List.length_map];exact hj)
  rw [this]
  congr 2
  unfold Qc2
  rw [List.getD_eq_getElem?_getD,List.getD_eq_getElem?_getD,List.getElem?_map]
  cases Lib.deBruijn64tab[j]? <;> rfl
theorem Qc0 [Base] (hg:3 < Base.B) (htab:Lib.TabIs Tryz.prog Base.W "math/bits.deBruijn64tab" .u8 Qc2):HkOK Tryz.prog 138 J6 where
  fn:=by kernel_rfl
  len:=fun args h v h' hs=>by
    unfold J6 at hs
    split at hs
    · split at hs
      · rw [Yj] at hs;simp only [Option.some.injEq,Prod.mk.injEq] at hs;rw [← hs.2];exact Nat.le_refl _
      · simp at hs
    · simp at hs
  run:=fun args h v h' hs β w vs hvs R hf=>by
    unfold J6 at hs
    split at hs
    · rename_i a
      split at hs
      · rename_i hp
        rw [Yj] at hs
        simp only [Option.some.injEq,Prod.mk.injEq] at hs
        obtain ⟨rfl,rfl⟩:=hs
        cases hvs with
        | cons k1 hvs =>
          cases hvs
          cases k1 with
          | sc k1 =>
            cases k1
            have e:a=((a.toNat:Nat):Int):=by omega
            have hw:=Qj0 ((R.var (by kernel_rfl) hg).trans htab)
            have hc:=bits_TrailingZeros64 a.toNat (by omega) w fun _=>hw
            rw [← e] at hc
            refine hc.mono ?_
            rintro e w' ⟨rfl,rfl⟩
            exact ⟨β,_,rfl,.sc (.int _ _),Stp.refl _ _ _,R⟩
      · simp at hs
    · simp at hs
section
variable (W:World) (hF:Facts W)
include hF
theorem Vu:@HkOK (BW W) Tryz.prog 43 YX:=by
  letI:Base:=BW W
  exact QaM (g:=2) (nm := "internal/strconv.uint64pow10") (by kernel_rfl) (UW (by kernel_rfl) hF.pow) (by kernel_rfl) hF.pow fun n h1 h2 w h3=>strconv_Itoa n h1 h2 w h3
theorem QiJ:@HkOK (BW W) Tryz.prog 138 J6:=by
  letI:Base:=BW W
  exact Qc0 (UW (by kernel_rfl) hF.deb) hF.deb
theorem qx:@JZ (BW W) Tryz.prog (@HKt ⟨false⟩):=by
  letI:Base:=BW W
  intro f g h
  unfold HKt at h
  split at h
  · rename_i hf;simp only [Option.some.injEq] at h;subst hf h;exact Vu W hF
  split at h
  · rename_i hf;simp only [Option.some.injEq] at h;subst hf h;exact QiJ W hF
  split at h
  · cases h
  · exact QbW f g h
theorem Qmp:@JZ (BW W) Tryz.prog HKs:=by
  letI:Base:=BW W
  letI:HB:=⟨false⟩
  intro f g h
  unfold HKs at h
  split at h
  · rename_i hf;simp only [Option.some.injEq] at h;subst hf h;exact (Vu W hF).less Uj
  split at h
  · rename_i hf;simp only [Option.some.injEq] at h;subst hf h;exact QlD (qx W hF)
  split at h
  · rename_i hf;simp only [Option.some.injEq] at h;subst hf h;exact Qj2 (qx W hF)
  split at h
  · rename_i hf;simp only [Option.some.injEq] at h;subst hf h;exact of_ok (qx W hF)
  split at h
  · rename_i hf;simp only [Option.some.injEq] at h;subst hf h;exact QkR (qx W hF)
  split at h
  · rename_i hf;simp only [Option.some.injEq] at h;subst hf h;exact Qkv (qx W hF)
  split at h
  · rename_i hf;simp only [Option.some.injEq] at h;subst hf h;exact Qkm (qx W hF)
  split at h
  · rename_i hf;simp only [Option.some.injEq] at h;subst hf h;exact pr_ok (qx W hF)
  · exact QbW f g h
theorem Qmo:@JZ (BW W) Tryz.prog (@HKt ⟨true⟩):=by
  letI:Base:=BW W
  intro f g h
  unfold HKt at h
  split at h
  · rename_i hf;simp only [Option.some.injEq] at h;subst hf h;exact Vu W hF
  split at h
  · rename_i hf;simp only [Option.some.injEq] at h;subst hf h;exact QiJ W hF
  split at h
  · rename_i hf
    replace h:some (Y7 (.sc (.bool true)))=some g:=h
    simp only [Option.some.injEq] at h
    subst hf h
    exact Qgg (Qmp W hF)
  · exact QbW f g h
end
end Go.Proofs.YtofknpknogfijaaGreatDoor



namespace Go.Proofs.YtofknpknogfijaaGreatDoor
open Go.Ab
set_option linter.unusedVariables false
set_option linter.unusedSimpArgs false
set_option maxRecDepth 20000
set_option maxHeartbeats 4000000
attribute [local irreducible] Qj wA Xm Xk QI Qo QW QV
set_option linter.unusedSectionVars false
variable [HB]
def I16 (h0:Qa) (q2:Nat) (nm:List UInt8) (ts:List Tm) (E:Env) (h:Qa):Prop:=∃ i:Nat,i≤ts.length∧Ext h0 h ∧
  E.keep [1,2,5,6]=[(1,some (.sc (tb nm))),(2,some (.sc (.ptr q2 0))),(5,some (.sc (tb (qF nm ts i)))),(6,some (.sc (.int .i64 (i:Nat))))]
def R16 (h0:Qa) (nm:List UInt8) (ts:List Tm) (ex:Ex) (E:Env) (h:Qa):Prop:=Ext h0 h ∧
  ex=.ex 0∧∃ a b c d,E=[(1,a),(2,b),(5,some (.sc (tb (qF nm ts ts.length)))),(6,c),(19,d)]
theorem Qho (h0:Qa) (q2:Nat) (b:Bool) (s:SV) (nm:List UInt8) (hn:nm.length≤40) (ts:List Tm) (hs:IsD h0 s (tms ts)) (c2:Cel h0 q2 s (.bool b)) (hl:ts.length≤1000) (hc:∀ t∈ts,t.2.natAbs≤cM) (he:∀ t∈ts,t.1.natAbs≤eM) (E:Env) (h:Qa) (hI:I16 h0 q2 nm ts E h) :
    wA FT HKt Qjq (E.keep [1,2,5,6]) h (QI (I16 h0 q2 nm ts) (cK [1,2,5,6] ts.length 6) (cK [1,2,5,6] ts.length 6 E h) (R16 h0 nm ts)):=by
  obtain ⟨i,hi,e0,hE⟩:=hI
  have hm:cK [1,2,5,6] ts.length 6 E h=ts.length-i:=by unfold cK;rw [hE];rfl
  rw [hm,hE]
  have ls:=hs.len
  rw [Xg] at ls
  have d2:=c2.ext e0
  by_cases hlt:i < ts.length
  · obtain ⟨t,ht⟩:∃ t,ts[i]?=some t:=⟨_,List.getElem?_eq_getElem hlt⟩
    obtain ⟨id,off,cap,e1,r0⟩:=hs.at (i:=i) (p:=tmP t) (by simp [ht])
    rw [Xg] at e1
    subst e1
    have r1:=QA e0 r0
    have hc1:t.2.natAbs≤1125899906842624:=hc t (List.mem_of_getElem? ht)
    have he1:t.1.natAbs≤1048576:=he t (List.mem_of_getElem? ht)
    have l1:=qE hn hc he i hi
    have l2:=Jc hc1
    have l3:=Jc (x:=t.1) (by omega)
    have l4:=Jc (x := -t.2) (by omega)
    have hst:=yt (nm:=nm) ht
    have fin:∀ h2 L,Ext h0 h2→L=qF nm ts (i+1)→I16 h0 q2 nm ts [(1,some (.sc (tb nm))),(2,some (.sc (.ptr q2 0))),(5,some (.sc (tb L))),(6,some (.sc (.int .i64 ((i:Nat)+1))))] h2:=fun h2 L e2 eL=>⟨i+1,by omega,e2,by rw [eL];rfl⟩
    repeat' (first | refine Qg ?_ | refine Qb ?_ | refine Qt ?_ | refine QG ?_ | refine Qp ?_ | refine Qf ?_ | ((refine Qh ?_);first | refine Qk rfl ?_ | refine Qi rfl ?_) | ((refine Qe ?_);first | refine QS rfl rfl rfl rfl ?_ | refine QO rfl rfl rfl rfl rfl ?_ | refine QD rfl rfl rfl rfl rfl rfl ?_ | refine Q4 rfl rfl rfl rfl rfl rfl rfl ?_) | ((refine Qc ?_);first | refine QQ rfl ?_ | refine Q6 rfl d2 ?_ | refine Qu rfl ls ?_ | refine Qx (esz:=2) rfl rfl (by omega) ?_ | refine Yo rfl r1 ?_ | (refine Jb rfl ?_;intro h1 e2 c7) | refine Xc rfl c7 ?_ | refine Q6 rfl c7 ?_ | refine Ui rfl (show _=some (tb [45]) from rfl) (by simp only [List.length_append,List.length_cons,List.length_nil];omega) ?_ | refine Ui rfl (show _=some (tb [43]) from rfl) (by simp only [List.length_append,List.length_cons,List.length_nil];omega) ?_ | refine Ui rfl (show _=some (tb [94]) from rfl) (by simp only [List.length_append,List.length_cons,List.length_nil];omega) ?_ | refine Ui rfl rfl (by omega) ?_ | refine Ui rfl rfl (by simp only [List.length_append,List.length_cons,List.length_nil];omega) ?_ | (refine Qn rfl (Qfy _ t.1 (by omega)) ?_;rintro v _ ⟨rfl,rfl⟩) | (refine Qn rfl (Qfy _ t.2 (by omega)) ?_;rintro v _ ⟨rfl,rfl⟩) | (refine Qn rfl (Qfy _ (-t.2) (by omega)) ?_;rintro v _ ⟨rfl,rfl⟩) | refine Xo rfl ?_ | refine QX rfl ?_ | refine Qm rfl ?_ | refine QY rfl rfl ?_ | refine QU rfl rfl ?_ | refine QM rfl rfl (by omega) ?_ | refine Y1 rfl (by omega) ?_ | refine Qw rfl rfl (by omega) ?_ | refine JA rfl rfl (fun hc=>?_) (fun hc=>?_) | refine JC rfl rfl (fun hc=>?_) (fun hc=>?_) | refine JD rfl rfl (fun hc=>?_) (fun hc=>?_) | refine Yc rfl rfl (by omega) ?_ | refine X3 rfl rfl (by omega) ?_ | refine Jz rfl rfl (fun hc=>?_) (fun hc=>?_)))
    all_goals refine Ym (fin _ _ (e0.trans e2) ?_) (by simp [cK,Env.keep,Env.get];omega)
    all_goals (rw [hst];unfold tTx Us;repeat first | rw [if_pos (by omega)] | rw [if_neg (by omega)])
    all_goals simp only [List.append_assoc,List.append_nil,List.nil_append]
  · have:i=ts.length:=by omega
    subst this
    repeat' (first | refine Qg ?_ | refine Qb ?_ | refine QK ?_ | refine QH ?_ | refine Qf ?_ | ((refine Qh ?_);refine Qi rfl ?_) | ((refine Qe ?_);refine QO rfl rfl rfl rfl rfl ?_) | ((refine Qc ?_);first | refine QQ rfl ?_ | refine Q6 rfl d2 ?_ | refine Qu rfl ls ?_ | refine Qm rfl ?_ | refine QE rfl rfl (by omega) ?_))
    exact Yx ⟨e0,rfl,_,_,_,_,rfl⟩
theorem Qlo (h0:Qa) (b:Bool) (s:SV) (nm:List UInt8) (hn:nm.length≤40) (p:Pol) (hb:p.big=b) (hs:IsD h0 s (tms p.ts)) (hl:p.ts.length≤1000) (hc:∀ t∈p.ts,t.2.natAbs≤cM) (he:∀ t∈p.ts,t.1.natAbs≤eM) :
    ∃ r h',Cal FT HKt 16 [.agg [s,.bool b],.sc (tb nm)] h0 r h'∧Ext h0 h'∧r=.sc (tb (JX nm p)):=by
  refine Cal.of (F:=a16) rfl rfl rfl ?_
  have ls:=hs.len
  rw [Xg] at ls
  cases b with
  | true =>
    have e:JX nm p=[98,105,103]:=by unfold JX;rw [if_pos hb]
    repeat' (first | refine Qg ?_ | refine Qb ?_ | refine QL ?_ | refine Qv ?_ | refine Qf ?_ | ((refine Qh ?_);refine Qk rfl ?_) | ((refine Qe ?_);first | refine Qq rfl ?_ | refine Qy rfl rfl ?_ | refine QB rfl rfl rfl ?_) | ((refine Qc ?_);first | (refine Q3 rfl ?_;intro h1 e1 c1) | refine QQ rfl ?_ | refine Xc rfl c1 ?_ | refine Qm rfl ?_))
    exact ⟨.inr rfl,e1,by rw [e];rfl⟩
  | false =>
    by_cases hz:p.ts=[]
    · have e:JX nm p=[48]:=by unfold JX;rw [if_neg (by rw [hb];decide),if_pos hz]
      rw [hz,List.length_nil] at ls
      repeat' (first | refine Qg ?_ | refine Qb ?_ | refine QL ?_ | refine Qp ?_ | refine Qv ?_ | refine Qf ?_ | ((refine Qh ?_);first | refine Qk rfl ?_ | refine Qi rfl ?_) | ((refine Qe ?_);first | refine Qq rfl ?_ | refine Qy rfl rfl ?_ | refine QB rfl rfl rfl ?_) | ((refine Qc ?_);first | (refine Q3 rfl ?_;intro h1 e1 c1) | refine QQ rfl ?_ | refine Xc rfl c1 ?_ | refine Q6 rfl c1 ?_ | refine Qu rfl ls ?_ | refine Qm rfl ?_ | refine Xt rfl rfl (by omega) ?_))
      exact ⟨.inr rfl,e1,by rw [e];rfl⟩
    · have e:JX nm p=qF nm p.ts p.ts.length:=by unfold JX;rw [if_neg (by rw [hb];decide),if_neg hz]
      have hp:0 < p.ts.length:=List.length_pos_iff.2 hz
      repeat' (first | refine Qg ?_ | refine Qb ?_ | refine Qt ?_ | refine Qp ?_ | refine Qf ?_ | ((refine Qh ?_);refine Qi rfl ?_) | ((refine Qe ?_);first | refine Qy rfl rfl ?_ | refine QB rfl rfl rfl ?_ | refine QS rfl rfl rfl rfl ?_) | ((refine Qc ?_);first | (refine Q3 rfl ?_;intro h1 e1 c1) | refine QQ rfl ?_ | refine Xc rfl c1 ?_ | refine Q6 rfl c1 ?_ | refine Qu rfl ls ?_ | refine Qm rfl ?_ | refine Xh rfl rfl (by omega) ?_))
      refine Js (I16 h1 h0.length nm p.ts) (cK [1,2,5,6] p.ts.length 6) (R16 h1 nm p.ts) ⟨0,Nat.zero_le _,Ext.refl _,rfl⟩ (Qho h1 h0.length false s nm hn p.ts (hs.ext e1) c1 hl hc he) ?_
      rintro ex E' h2 ⟨e2,rfl,_,_,_,_,rfl⟩
      repeat' (first | refine Qg ?_ | refine Qb ?_ | refine QC ?_ | refine Qv ?_ | refine Qf ?_ | ((refine Qe ?_);refine Qq rfl ?_) | ((refine Qc ?_);refine Qm rfl ?_))
      exact ⟨.inr rfl,e1.trans e2,by rw [e];rfl⟩
end Go.Proofs.YtofknpknogfijaaGreatDoor


namespace Go.Proofs.YtofknpknogfijaaGreatDoor
open Go.Ab
set_option linter.unusedVariables false
set_option linter.unusedSimpArgs false
set_option maxRecDepth 20000
set_option maxHeartbeats 4000000
attribute [local irreducible] Qj wA Xm Xk QI Qo QW QV
set_option linter.unusedSectionVars false
variable [HB]
abbrev zP2:P2:=(.nilS,.nilS)
def revK (ps:List P2) (k:Nat):List P2:=(List.range ps.length).map fun t=>if t < k∨ps.length≤t+k then ps.getD (ps.length-1-t) zP2 else ps.getD t zP2
def I92 (h0 hb:Qa) (s:SV) (ps:List P2) (E:Env) (h:Qa):Prop:=∃ (k:Nat) (j:Int),2*k≤ps.length∧j=(ps.length:Int)-1-k∧OwnD h0 h s (revK ps k)∧Ext h0 h∧(∀ (i:Nat) (b:Blk),hb[i]?=some b→XS s i→h[i]?=some b) ∧
  E.keep [0,2,3]=[(0,some (.sc s)),(2,some (.sc (.int .i64 (k:Nat)))),(3,some (.sc (.int .i64 j)))]
def R92 (h0 hb:Qa) (s:SV) (ps:List P2) (ex:Ex) (E:Env) (h:Qa):Prop:=ex=.ex 0∧OwnD h0 h s ps.reverse∧Ext h0 h∧(∀ (i:Nat) (b:Blk),hb[i]?=some b→XS s i→h[i]?=some b)
end Go.Proofs.YtofknpknogfijaaGreatDoor


namespace Go.Proofs.YtofknpknogfijaaGreatDoor
open Go.Ab
set_option linter.unusedVariables false
set_option linter.unusedSimpArgs false
set_option maxRecDepth 20000
set_option maxHeartbeats 8000000
attribute [local irreducible] Qj wA Xm Xk QI Qo QW QV
set_option linter.unusedSectionVars false
variable [HB]
def Mover (h0:Qa) (g:FuncId) (caps:List (Nat × Nat)) (f:Int→Int):Prop:=∀ H,Ext h0 H→∀ e:Int,e.natAbs≤eM→∃ r h',Cal FT HKt g ([.sc (.int .i64 e)]++caps.map fun p=>AV.sc (.ptr p.1 p.2)) H r h'∧r=.sc (.int .i64 (f e))∧h'=H
abbrev mvT (f:Int→Int) (l:List Tm):List Tm:=l.map fun t=>(f t.1,t.2)
structure St63 (h0 h:Qa) (q4 q5:Nat) (s:SV) (r:List Tm):Prop where
  e:Ext h0 h
  c4:Cel h q4 (.bool false) .nilS
  c5:Cel h q5 (.bool false) s
  o:OwnD h0 h s (tms r)
def I63 (h0:Qa) (q4 q5:Nat) (fn sp:SV) (f:Int→Int) (ts:List Tm) (E:Env) (h:Qa):Prop:=∃ (i:Nat) (s:SV),i≤ts.length∧(∀ t∈ts.take i,(f t.1).natAbs≤eM)∧St63 h0 h q4 q5 s (mvT f (ts.take i)) ∧
  E.keep [1,4,5,18,19,20]=[(1,some (.sc fn)),(4,some (.sc (.ptr q4 0))),(5,some (.sc (.ptr q5 0))),(18,some (.sc sp)),(19,some (.sc (.int .i64 (ts.length:Nat)))),(20,some (.sc (.int .i64 (i:Nat))))]
def R63 (h0:Qa) (q4 q5:Nat) (f:Int→Int) (ts:List Tm) (ex:Ex) (E:Env) (h:Qa):Prop :=
  (ex=.ex 0∧∃ s,(∀ t∈ts,(f t.1).natAbs≤eM)∧St63 h0 h q4 q5 s (mvT f ts)∧∃ a b c d e,E=[(1,a),(4,some (.sc (.ptr q4 0))),(5,some (.sc (.ptr q5 0))),(18,b),(19,c),(20,d),(21,e)]) ∨
  (ex=.rt∧¬ (∀ t∈ts,(f t.1).natAbs≤eM)∧Ext h0 h∧Cel h q4 (.bool true) .nilS∧E=[(4,some (.sc (.ptr q4 0)))])
end Go.Proofs.YtofknpknogfijaaGreatDoor



namespace Go.Proofs.YtofknpknogfijaaGreatDoor
open Go.Ab
set_option linter.unusedVariables false
set_option linter.unusedSimpArgs false
set_option maxRecDepth 20000
set_option maxHeartbeats 8000000
attribute [local irreducible] Qj wA Xm Xk QI Qo QW QV
set_option linter.unusedSectionVars false
variable [HB]
end Go.Proofs.YtofknpknogfijaaGreatDoor


namespace Go.Proofs.YtofknpknogfijaaGreatDoor
open Go.Ab
set_option linter.unusedVariables false
set_option linter.unusedSimpArgs false
set_option maxRecDepth 20000
set_option maxHeartbeats 8000000
attribute [local irreducible] Qj wA Xm Xk QI Qo QW QV
set_option linter.unusedSectionVars false
variable [HB]
theorem QhH {a:Int} (h:a.natAbs≤1000):ofP a [1]=⟨false,[(a,1)]⟩:=by
  unfold ofP
  have e:ofN a [1] 1=some [(a,1)]:=by
    show (some []).bind _=_
    rw [Option.bind_some,if_neg (by decide),if_pos ⟨by decide,by simp only [eM];omega,by simp only [eM];omega⟩]
    simp
  show (match ofN a [1] 1 with | some r=>(⟨false,r⟩:Pol) | none=>JY)=_
  rw [e]
section
variable {FT:FuncId→Option AFun} {HK:FuncId→Option Xe} {E:Env} {h:Qa} {K:Env→Qa→Prop} {d:Option Nat} {r:List AOp} {xo:AO}
theorem QkM {x:Int} {z0:SV} (hx:ev E xo=some (.sc (.int .i64 x))) (hw:∀ h1,Ext h h1→IsInts h1 (.slc h.length 0 1 (some 1)) [x]→Qj FT HK r (Qr d (some (.sc (.slc h.length 0 1 (some 1)))) E) h1 K) :
    Qj FT HK (⟨d,.bsl 1 [z0] 1 [(0,xo)],none⟩::r) E h K :=
  Qe6 hx (hw _ ⟨_,rfl⟩ (IsInts.lit rfl rfl))
end
end Go.Proofs.YtofknpknogfijaaGreatDoor



namespace Go.Proofs.YtofknpknogfijaaGreatDoor
open Go.Ab
set_option linter.unusedVariables false
set_option linter.unusedSimpArgs false
set_option maxRecDepth 20000
set_option maxHeartbeats 8000000
attribute [local irreducible] Qj wA Xm Xk QI Qo QW QV
set_option linter.unusedSectionVars false
section
variable [HB]
def I6 (h0:Qa) (low:Int) (s:SV) (xs:List Int) (by_:Int) (k:Nat) (E:Env) (h:Qa):Prop:=∃ i:Nat,i≤xs.length∧k=xs.length-i∧(∀ x∈xs.take i,smC x)∧h=h0 ∧
  E.keep [0,1,2,7]=[(0,some (.sc (.int .i64 low))),(1,some (.sc s)),(2,some (.sc (.int .i8 by_))),(7,some (.sc (.int .i64 (i:Nat))))]
def R6 (h0:Qa) (low:Int) (s:SV) (xs:List Int) (by_:Int) (ex:Ex) (E:Env) (h:Qa):Prop:=h=h0 ∧
  ((ex=.ex 0∧(∀ x∈xs,smC x)∧∃ a b,E=[(0,some (.sc (.int .i64 low))),(1,some (.sc s)),(2,some (.sc (.int .i8 by_))),(7,a),(26,b)])∨(ex=.rt∧E=[(6,some (.sc (.bool true)))]))
end
end Go.Proofs.YtofknpknogfijaaGreatDoor




