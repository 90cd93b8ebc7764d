/- slices.Sorted(maps.Keys(m)) at this program,as the kit lays it: the contracts of the two calls. -/
import Derived.Shelf.SlIterI.Nil
import Derived.Shelf.SortM.Plain
import Derived.Shelf.SortM.SortNone
import Derived.Test.YtofknpknogfijaaGreatDoorProg
import Derived.Shelf.LaysM
import Derived.Shelf.Spec.TrailingZeros
import Derived.Shelf.Strconv.Itoa3
import Derived.Test.YtofknpknogfijaaGreatDoorW2
import Derived.Test.YtofknpknogfijaaGreatDoorAwake
import Derived.Test.YtofknpknogfijaaGreatDoorAb32
import Derived.Test.YtofknpknogfijaaGreatDoorSP1
import Derived.Test.YtofknpknogfijaaGreatDoorPZ
import Derived.Test.YtofknpknogfijaaGreatDoorRS1
import Derived.Test.YtofknpknogfijaaGreatDoorC3
import Derived.Lib.ItoaLen
import Derived.Lib.ItoaMem
import Derived.Test.YtofknpknogfijaaGreatDoorPE
namespace Go.Proofs.YtofknpknogfijaaGreatDoor
open Go.Shelf Go.RowKit Go.Maps Go.Sort
def VA:Go.Shelf.Ren:=⟨fun | 7=>86 | 10=>116 | n=>n,fun | 23=>135 | 26=>3 | 3=>101 | 28=>138 | 0=>0 | 27=>137 | 33=>172 | 4=>4 | n=>n,fun | n=>n⟩
theorem Qkh:Go.Proofs.SlLaysZI.n7 Tryz.prog VA:={
 mixed:=by kernel_rfl
 f7:=⟨Tryz.f86.name,by decide,Tryz.func86.trans (congrArg some (by kernel_rfl))⟩
 f10:=⟨Tryz.f116.name,by decide,Tryz.func116.trans (congrArg some (by kernel_rfl))⟩
 t0:=Tryz.underlying0
 a0:=Tryz.isAgg0
 z0:=Tryz.sizeOf0
 v0:=Tryz.zeroValue0
 t4:=Tryz.underlying4
 a4:=Tryz.isAgg4
 z4:=Tryz.sizeOf4
 v4:=Tryz.zeroValue4
 t23:=Tryz.underlying135
 a23:=Tryz.isAgg135
 z23:=Tryz.sizeOf135
 v23:=Tryz.zeroValue135
 t26:=Tryz.underlying3
 a26:=Tryz.isAgg3
 z26:=Tryz.sizeOf3
 v26:=Tryz.zeroValue3
 t27:=Tryz.underlying137
 a27:=Tryz.isAgg137
 z27:=Tryz.sizeOf137
 v27:=Tryz.zeroValue137
 t28:=Tryz.underlying138
 a28:=Tryz.isAgg138
 z28:=Tryz.sizeOf138
 v28:=Tryz.zeroValue138
 t33:=Tryz.underlying172
 a33:=Tryz.isAgg172
 z33:=Tryz.sizeOf172
 v33:=Tryz.zeroValue172 }
def zk:Go.Shelf.Ren:=⟨fun | 6=>85 | 8=>114 | 9=>115 | 11=>136 | 13=>128 | 12=>137 | 23=>140 | 24=>139 | 14=>146 | 15=>147 | 16=>148 | 17=>149 | 18=>150 | 19=>151 | 20=>152 | 21=>153 | 22=>154 | 25=>156 | 26=>157 | 27=>158 | 28=>159 | 29=>160 | 30=>117 | 31=>161 | n=>n,fun | 26=>3 | 28=>138 | 24=>42 | 0=>0 | 3=>3 | 37=>159 | 48=>190 | 50=>99 | 4=>4 | 40=>197 | 39=>196 | 45=>104 | 5=>5 | 9=>9 | 51=>203 | 55=>207 | 57=>210 | 58=>211 | 33=>172 | n=>n,fun | n=>n⟩
theorem QiD:Go.Proofs.SlLaysZI.n6 Tryz.prog zk:={
 mixed:=by kernel_rfl
 f6:=⟨Tryz.f85.name,by decide,Tryz.func85.trans (congrArg some (by kernel_rfl))⟩
 f8:=⟨Tryz.f114.name,by decide,Tryz.func114.trans (congrArg some (by kernel_rfl))⟩
 f11:=⟨Tryz.f136.name,by decide,Tryz.func136.trans (congrArg some (by kernel_rfl))⟩
 t0:=Tryz.underlying0
 a0:=Tryz.isAgg0
 z0:=Tryz.sizeOf0
 v0:=Tryz.zeroValue0
 t24:=Tryz.underlying42
 a24:=Tryz.isAgg42
 z24:=Tryz.sizeOf42
 v24:=Tryz.zeroValue42
 t26:=Tryz.underlying3
 a26:=Tryz.isAgg3
 z26:=Tryz.sizeOf3
 v26:=Tryz.zeroValue3
 t28:=Tryz.underlying138
 a28:=Tryz.isAgg138
 z28:=Tryz.sizeOf138
 v28:=Tryz.zeroValue138
 i26:=by kernel_rfl }
def Qef:Go.Shelf.Ren:=⟨fun | 5=>115 | 8=>128 | 7=>137 | 19=>140 | 20=>139 | 10=>146 | 11=>147 | 12=>148 | 13=>149 | 14=>150 | 15=>151 | 16=>152 | 17=>153 | 18=>154 | 30=>156 | 31=>157 | 32=>158 | 33=>159 | 34=>160 | 35=>117 | 40=>161 | n=>n,fun | 23=>42 | 25=>3 | 3=>3 | 32=>159 | 22=>42 | 0=>0 | 44=>190 | 46=>99 | 4=>4 | 36=>197 | 35=>196 | 41=>104 | 5=>5 | 9=>9 | 53=>203 | 57=>207 | 63=>210 | 64=>211 | n=>n,fun | n=>n⟩
theorem Qj6:Go.Proofs.SlLaysM.n5 Tryz.prog Qef:={
 mixed:=by kernel_rfl
 f5:=⟨Tryz.f115.name,by decide,Tryz.func115.trans (congrArg some (by kernel_rfl))⟩
 f7:=⟨Tryz.f137.name,by decide,Tryz.func137.trans (congrArg some (by kernel_rfl))⟩
 f8:=Tryz.func128.trans (congrArg some (by kernel_rfl))
 f10:=⟨Tryz.f146.name,by decide,Tryz.func146.trans (congrArg some (by kernel_rfl))⟩
 f11:=⟨Tryz.f147.name,by decide,Tryz.func147.trans (congrArg some (by kernel_rfl))⟩
 f12:=⟨Tryz.f148.name,by decide,Tryz.func148.trans (congrArg some (by kernel_rfl))⟩
 f13:=⟨Tryz.f149.name,by decide,Tryz.func149.trans (congrArg some (by kernel_rfl))⟩
 f14:=⟨Tryz.f150.name,by decide,Tryz.func150.trans (congrArg some (by kernel_rfl))⟩
 f15:=⟨Tryz.f151.name,by decide,Tryz.func151.trans (congrArg some (by kernel_rfl))⟩
 f16:=⟨Tryz.f152.name,by decide,Tryz.func152.trans (congrArg some (by kernel_rfl))⟩
 f17:=⟨Tryz.f153.name,by decide,Tryz.func153.trans (congrArg some (by kernel_rfl))⟩
 f18:=⟨Tryz.f154.name,by decide,Tryz.func154.trans (congrArg some (by kernel_rfl))⟩
 f19:=Tryz.func140.trans (congrArg some (by kernel_rfl))
 f20:=Tryz.func139.trans (congrArg some (by kernel_rfl))
 f30:=⟨Tryz.f156.name,by decide,Tryz.func156.trans (congrArg some (by kernel_rfl))⟩
 f31:=Tryz.func157.trans (congrArg some (by kernel_rfl))
 f32:=Tryz.func158.trans (congrArg some (by kernel_rfl))
 f33:=⟨Tryz.f159.name,by decide,Tryz.func159.trans (congrArg some (by kernel_rfl))⟩
 f34:=⟨Tryz.f160.name,by decide,Tryz.func160.trans (congrArg some (by kernel_rfl))⟩
 f35:=⟨Tryz.f117.name,by decide,Tryz.func117.trans (congrArg some (by kernel_rfl))⟩
 f40:=⟨Tryz.f161.name,by decide,Tryz.func161.trans (congrArg some (by kernel_rfl))⟩
 t0:=Tryz.underlying0
 a0:=Tryz.isAgg0
 z0:=Tryz.sizeOf0
 v0:=Tryz.zeroValue0
 t3:=Tryz.underlying3
 a3:=Tryz.isAgg3
 z3:=Tryz.sizeOf3
 v3:=Tryz.zeroValue3
 t4:=Tryz.underlying4
 a4:=Tryz.isAgg4
 z4:=Tryz.sizeOf4
 v4:=Tryz.zeroValue4
 t5:=Tryz.underlying5
 a5:=Tryz.isAgg5
 z5:=Tryz.sizeOf5
 v5:=Tryz.zeroValue5
 t9:=Tryz.underlying9
 a9:=Tryz.isAgg9
 z9:=Tryz.sizeOf9
 v9:=Tryz.zeroValue9
 t22:=Tryz.underlying42
 a22:=Tryz.isAgg42
 z22:=Tryz.sizeOf42
 v22:=Tryz.zeroValue42
 t23:=Tryz.underlying42
 a23:=Tryz.isAgg42
 z23:=Tryz.sizeOf42
 v23:=Tryz.zeroValue42
 t25:=Tryz.underlying3
 a25:=Tryz.isAgg3
 z25:=Tryz.sizeOf3
 v25:=Tryz.zeroValue3
 t32:=Tryz.underlying159
 a32:=Tryz.isAgg159
 z32:=Tryz.sizeOf159
 v32:=Tryz.zeroValue159
 t35:=Tryz.underlying196
 a35:=Tryz.isAgg196
 z35:=Tryz.sizeOf196
 v35:=Tryz.zeroValue196
 t36:=Tryz.underlying197
 a36:=Tryz.isAgg197
 z36:=Tryz.sizeOf197
 v36:=Tryz.zeroValue197
 t41:=Tryz.underlying104
 a41:=Tryz.isAgg104
 z41:=Tryz.sizeOf104
 v41:=Tryz.zeroValue104
 t44:=Tryz.underlying190
 a44:=Tryz.isAgg190
 z44:=Tryz.sizeOf190
 v44:=Tryz.zeroValue190
 t46:=Tryz.underlying99
 a46:=Tryz.isAgg99
 z46:=Tryz.sizeOf99
 v46:=Tryz.zeroValue99
 t53:=Tryz.underlying203
 a53:=Tryz.isAgg203
 z53:=Tryz.sizeOf203
 v53:=Tryz.zeroValue203
 t57:=Tryz.underlying207
 a57:=Tryz.isAgg207
 z57:=Tryz.sizeOf207
 v57:=Tryz.zeroValue207
 t63:=Tryz.underlying210
 a63:=Tryz.isAgg210
 z63:=Tryz.sizeOf210
 v63:=Tryz.zeroValue210
 t64:=Tryz.underlying211
 a64:=Tryz.isAgg211
 z64:=Tryz.sizeOf211
 v64:=Tryz.zeroValue211 }
theorem Qll (m:Nat):AnyZI.SortsIn Tryz.prog zk Fence.wide m :=
 ⟨fun blk off cap ss W hH hblk hsz => callsIn_wide.2 (AnyM.slices_Sort_int Qj6 blk off cap ss W hH hblk hsz),
  fun p cap W=>callsIn_wide.2 (AnyM.slices_Sort_int_none Qj6 p cap W)⟩
theorem Vz (mb:Option Nat) (w:World):Calls Tryz.prog 86 #[.map mb] w fun e w'=>e=.returned (.func (.func 116) #[] #[.pointer (some ⟨w.heap.size,0,none⟩)])∧w'=w.alloc (.cells #[.map mb] 135) :=
 (callsIn_wide (n:=5)).1 (AnyZI.keys_in Qkh Fence.wide 5 trivial rfl mb w)
theorem zj (b Bm nn:Nat) (D0:DataW Unit) (R:Value→Option (DataW Unit × List MemPlace)) (w:World) (h1:Bm < w.heap.size) (h2:w.cell? ⟨Bm,0,none⟩=some (.map (some b))) (hown:w.ownsMap Tryz.prog 3 R b nn D0) (hmax:Go.Maps.size D0≤maxLen) (hbytes:Go.Maps.size D0*8≤140737488355328) :
  Calls Tryz.prog 85 #[.func (.func 116) #[] #[.pointer (some ⟨Bm,0,none⟩)]] w fun e w'=>∃ (v:Value) (ss:List Int),e=.returned v∧ss.Perm (intKeys D0) ∧
   w'.ownsRow w.heap.size 3 1 v ss.length ((ss.mergeSort fun x y=>decide (x≤y)).map (Value.int .i64))∧(v=.slice none 0 0↔ss=[])∧Below w.heap.size w w':=by
 have hseq:SeqGives Fence.wide 2 Tryz.prog 116 #[.pointer (some ⟨Bm,0,none⟩)] encZ (fun ss=>ss.Perm (intKeys D0)) (Go.Maps.size D0) w :=
  AnyZI.keys_gives (ρ:=VA) { Qkh with } Fence.wide _ trivial rfl (by omega) Bm b nn D0 w h1 h2 hown
 have cS:=AnyZI.sorted_in QiD Fence.wide 5 trivial trivial trivial trivial rfl (by omega) (Qll _) (enters_of Tryz.func115 (by kernel_rfl) rfl) 116 #[.pointer (some ⟨Bm,0,none⟩)] trivial (enters_of Tryz.func116 (by kernel_rfl) rfl) _ _ hmax hbytes w hseq
 exact (callsIn_wide (n:=5)).1 cS
end Go.Proofs.YtofknpknogfijaaGreatDoor
namespace Go.Proofs.YtofknpknogfijaaGreatDoor
open Go.Shelf
def Qao:Go.Shelf.Ren:=⟨fun | 171=>43 | 243=>79 | 246=>110 | 283=>132 | 284=>133 | 285=>134 | 286=>135 | 129=>139 | 317=>142 | 318=>143 | 319=>144 | 320=>145 | 337=>155 | 338=>138 | n=>n,fun | 3=>3 | 9=>9 | 2=>2 | 4=>4 | 171=>182 | 0=>0 | 53=>99 | 37=>75 | 5=>5 | 173=>184 | 212=>193 | 51=>190 | 20=>20 | 213=>194 | 46=>159 | 232=>209 | 233=>202 | n=>n,fun | 17=>2 | 18=>4 | 19=>3 | n=>n⟩
theorem Qgk:Go.Proofs.LaysM.n171 Tryz.prog Qao:={
 mixed:=by kernel_rfl
 f129:=Tryz.func139.trans (congrArg some (by kernel_rfl))
 f171:=Tryz.func43.trans (congrArg some (by kernel_rfl))
 f243:=Tryz.func79.trans (congrArg some (by kernel_rfl))
 f246:=Tryz.func110.trans (congrArg some (by kernel_rfl))
 f283:=Tryz.func132.trans (congrArg some (by kernel_rfl))
 f284:=Tryz.func133.trans (congrArg some (by kernel_rfl))
 f285:=Tryz.func134.trans (congrArg some (by kernel_rfl))
 f286:=Tryz.func135.trans (congrArg some (by kernel_rfl))
 f317:=Tryz.func142.trans (congrArg some (by kernel_rfl))
 f318:=Tryz.func143.trans (congrArg some (by kernel_rfl))
 f319:=Tryz.func144.trans (congrArg some (by kernel_rfl))
 f320:=Tryz.func145.trans (congrArg some (by kernel_rfl))
 f337:=Tryz.func155.trans (congrArg some (by kernel_rfl))
 f338:=Tryz.func138.trans (congrArg some (by kernel_rfl))
 t0:=Tryz.underlying0
 a0:=Tryz.isAgg0
 z0:=Tryz.sizeOf0
 v0:=Tryz.zeroValue0
 t2:=Tryz.underlying2
 a2:=Tryz.isAgg2
 z2:=Tryz.sizeOf2
 v2:=Tryz.zeroValue2
 t3:=Tryz.underlying3
 a3:=Tryz.isAgg3
 z3:=Tryz.sizeOf3
 v3:=Tryz.zeroValue3
 t4:=Tryz.underlying4
 a4:=Tryz.isAgg4
 z4:=Tryz.sizeOf4
 v4:=Tryz.zeroValue4
 t5:=Tryz.underlying5
 a5:=Tryz.isAgg5
 z5:=Tryz.sizeOf5
 v5:=Tryz.zeroValue5
 t9:=Tryz.underlying9
 a9:=Tryz.isAgg9
 z9:=Tryz.sizeOf9
 v9:=Tryz.zeroValue9
 t20:=Tryz.underlying20
 a20:=Tryz.isAgg20
 z20:=Tryz.sizeOf20
 v20:=Tryz.zeroValue20
 t37:=Tryz.underlying75
 a37:=Tryz.isAgg75
 z37:=Tryz.sizeOf75
 v37:=Tryz.zeroValue75
 t46:=Tryz.underlying159
 a46:=Tryz.isAgg159
 z46:=Tryz.sizeOf159
 v46:=Tryz.zeroValue159
 t51:=Tryz.underlying190
 a51:=Tryz.isAgg190
 z51:=Tryz.sizeOf190
 v51:=Tryz.zeroValue190
 t53:=Tryz.underlying99
 a53:=Tryz.isAgg99
 z53:=Tryz.sizeOf99
 v53:=Tryz.zeroValue99
 t171:=Tryz.underlying182
 a171:=Tryz.isAgg182
 z171:=Tryz.sizeOf182
 v171:=Tryz.zeroValue182
 t173:=Tryz.underlying184
 a173:=Tryz.isAgg184
 z173:=Tryz.sizeOf184
 v173:=Tryz.zeroValue184
 t212:=Tryz.underlying193
 a212:=Tryz.isAgg193
 z212:=Tryz.sizeOf193
 v212:=Tryz.zeroValue193
 t213:=Tryz.underlying194
 a213:=Tryz.isAgg194
 z213:=Tryz.sizeOf194
 t232:=Tryz.underlying209
 a232:=Tryz.isAgg209
 z232:=Tryz.sizeOf209
 v232:=Tryz.zeroValue209
 t233:=Tryz.underlying202
 a233:=Tryz.isAgg202
 z233:=Tryz.sizeOf202
 v233:=Tryz.zeroValue202
 g17:=by kernel_rfl
 g18:=by kernel_rfl
 g19:=by kernel_rfl
 i0:=by kernel_rfl
 i2:=by kernel_rfl
 i3:=by kernel_rfl
 i4:=by kernel_rfl
 i5:=by kernel_rfl
 i9:=by kernel_rfl
 i20:=by kernel_rfl
 i37:=by kernel_rfl
 i46:=by kernel_rfl
 i51:=by kernel_rfl
 i53:=by kernel_rfl
 i171:=by kernel_rfl
 i173:=by kernel_rfl
 i212:=by kernel_rfl
 i232:=by kernel_rfl
 i233:=by kernel_rfl
 m17:=by kernel_rfl
 m18:=by kernel_rfl
 m19:=by kernel_rfl }
open Go.RowKit Go.Sort Go.Lib in
theorem strconv_Itoa (n:Int) (h0 : -9223372036854775808≤n) (h1:n≤9223372036854775807) (w:World) (htab:Lib.TabIs Tryz.prog w "internal/strconv.uint64pow10" .u64 Lib.pow10Tab) :
 Calls Tryz.prog 43 #[.int .i64 n] w fun e w'=>e=.returned (.string ⟨(Lib.itoa n).toArray⟩)∧∃ k os,w'=grow (w.drewN k) os:=Any.strconv_Itoa Qgk n h0 h1 w htab
def Qap:Go.Shelf.Ren:=⟨fun | 29=>138 | n=>n,fun | 0=>0 | 3=>3 | 4=>4 | 5=>5 | 22=>99 | 25=>159 | 54=>202 | n=>n,fun | 1=>3 | n=>n⟩
theorem Qgl:Go.Proofs.Lays7.n29 Tryz.prog Qap:={
 mixed:=by kernel_rfl
 f29:=Tryz.func138.trans (congrArg some (by kernel_rfl))
 t0:=Tryz.underlying0
 a0:=Tryz.isAgg0
 z0:=Tryz.sizeOf0
 v0:=Tryz.zeroValue0
 i0:=by kernel_rfl
 t3:=Tryz.underlying3
 a3:=Tryz.isAgg3
 z3:=Tryz.sizeOf3
 v3:=Tryz.zeroValue3
 i3:=by kernel_rfl
 t4:=Tryz.underlying4
 a4:=Tryz.isAgg4
 z4:=Tryz.sizeOf4
 v4:=Tryz.zeroValue4
 i4:=by kernel_rfl
 t5:=Tryz.underlying5
 a5:=Tryz.isAgg5
 z5:=Tryz.sizeOf5
 v5:=Tryz.zeroValue5
 i5:=by kernel_rfl
 t22:=Tryz.underlying99
 a22:=Tryz.isAgg99
 z22:=Tryz.sizeOf99
 v22:=Tryz.zeroValue99
 i22:=by kernel_rfl
 t25:=Tryz.underlying159
 a25:=Tryz.isAgg159
 z25:=Tryz.sizeOf159
 v25:=Tryz.zeroValue159
 i25:=by kernel_rfl
 t54:=Tryz.underlying202
 a54:=Tryz.isAgg202
 z54:=Tryz.sizeOf202
 g1:=by kernel_rfl }
theorem bits_TrailingZeros64 (x:Nat) (hx:x < 18446744073709551616) (w:World) (hT:x≠0→TabAt 3 Lib.deBruijn64tab w) :
 Calls Tryz.prog 138 #[.int .u64 x] w fun e w'=>e=.returned (.int .i64 (Lib.ctz 64 x))∧w'=w:=Any7.bits_TrailingZeros64 Qgl x hx w hT
end Go.Proofs.YtofknpknogfijaaGreatDoor
namespace Go.Proofs.YtofknpknogfijaaGreatDoor
open Go.Ab
set_option linter.all false
def Qea:List Int:=List.map (fun n:Nat=>(n:Int)) Lib.deBruijn64tab
structure Facts (W:World):Prop where
 pow:Lib.TabIs Tryz.prog W "internal/strconv.uint64pow10" .u64 Lib.pow10Tab
 deb:Lib.TabIs Tryz.prog W "math/bits.deBruijn64tab" .u8 Qea
abbrev BW (W:World):Base:=⟨W.heap.size,W⟩
theorem Qlf {w:World} (h:Lib.TabIs Tryz.prog w "math/bits.deBruijn64tab" .u8 Qea):TabAt 3 Lib.deBruijn64tab w:=fun j hj=>by
 have:=h.cell (g:=3) (by kernel_rfl) j (by unfold Qea;rw [Gt];exact hj)
 rw [this]
 congr 2
 unfold Qea
 rw [Ge,Ge,Gi]
 cases Lib.deBruijn64tab[j]? <;> rfl
theorem Qd7 [Base] (hg:3 < Base.B) (htab:Lib.TabIs Tryz.prog Base.W "math/bits.deBruijn64tab" .u8 Qea):HkOK Tryz.prog 138 qu where
 fn:=by kernel_rfl
 len:=fun args h v h' hs=>by
  unfold qu at hs
  split at hs
  ·split at hs
   ·rw [Yn] at hs;simp only [Option.some.injEq,Prod.mk.injEq] at hs;rw [← hs.2];exact Gf _
   ·simp at hs
  ·simp at hs
 run:=fun args h v h' hs β w vs hvs R hf=>by
  unfold qu at hs
  split at hs
  ·rename_i a
   split at hs
   ·rename_i hp
    rw [Yn] at hs
    simp only [Option.some.injEq,Prod.mk.injEq] at hs
    obtain ⟨rfl,rfl⟩:=hs
    cases hvs with
    | cons k1 hvs =>
     cases hvs
     cases k1 with
     | sc k1 =>
      cases k1
      have e:a=((a.toNat:Nat):Int):=by omega
      have hw:=Qlf ((R.var (by kernel_rfl) hg).trans htab)
      have hc:=bits_TrailingZeros64 a.toNat (by omega) w fun _=>hw
      rw [← e] at hc
      refine hc.mono ?_
      rintro e w' ⟨rfl,rfl⟩
      exact ⟨β,_,rfl,.sc (.int _ _),Stp.refl _ _ _,R⟩
   ·simp at hs
  ·simp at hs
section
variable (W:World) (hF:Facts W)
include hF
theorem Qad:@HkOK (BW W) Tryz.prog 43 ZA:=by
 letI:Base:=BW W
 exact QbF (g:=2) (nm := "internal/strconv.uint64pow10") (by kernel_rfl) (Vx (by kernel_rfl) hF.pow) (by kernel_rfl) hF.pow fun n h1 h2 w h3=>strconv_Itoa n h1 h2 w h3
theorem Qke:@HkOK (BW W) Tryz.prog 138 qu:=by
 letI:Base:=BW W
 exact Qd7 (Vx (by kernel_rfl) hF.deb) hF.deb
theorem qK:@qd (BW W) Tryz.prog (@HKt ⟨false⟩):=by
 letI:Base:=BW W
 intro f g h
 unfold HKt at h
 split at h
 ·rename_i hf;simp only [Option.some.injEq] at h;subst hf h;exact Qad W hF
 split at h
 ·rename_i hf;simp only [Option.some.injEq] at h;subst hf h;exact Qke W hF
 split at h
 ·cases h
 split at h
 ·rename_i hf;simp only [Option.some.injEq] at h;subst hf h;exact zw (by kernel_rfl) Vz
 split at h
 ·rename_i hf;simp only [Option.some.injEq] at h;subst hf h;exact qe (by kernel_rfl) Tryz.underlying3 zj
 ·exact QcM f g h
theorem QnC:@qd (BW W) Tryz.prog HKs:=by
 letI:Base:=BW W
 letI:HB:=⟨false⟩
 intro f g h
 unfold HKs at h
 split at h
 ·rename_i hf;simp only [Option.some.injEq] at h;subst hf h;exact (Qad W hF).less UJ
 split at h
 ·rename_i hf;simp only [Option.some.injEq] at h;subst hf h;exact QmV (qK W hF)
 split at h
 ·rename_i hf;simp only [Option.some.injEq] at h;subst hf h;exact Qli (qK W hF)
 split at h
 ·rename_i hf;simp only [Option.some.injEq] at h;subst hf h;exact of_ok (qK W hF)
 split at h
 ·rename_i hf;simp only [Option.some.injEq] at h;subst hf h;exact Qmb (qK W hF)
 split at h
 ·rename_i hf;simp only [Option.some.injEq] at h;subst hf h;exact QlT (qK W hF)
 split at h
 ·rename_i hf;simp only [Option.some.injEq] at h;subst hf h;exact QlJ (qK W hF)
 split at h
 ·rename_i hf;simp only [Option.some.injEq] at h;subst hf h;exact pr_ok (qK W hF)
 ·exact QcM f g h
theorem QnB:@qd (BW W) Tryz.prog (@HKt ⟨true⟩):=by
 letI:Base:=BW W
 intro f g h
 unfold HKt at h
 split at h
 ·rename_i hf;simp only [Option.some.injEq] at h;subst hf h;exact Qad W hF
 split at h
 ·rename_i hf;simp only [Option.some.injEq] at h;subst hf h;exact Qke W hF
 split at h
 ·rename_i hf
  replace h:some (Y5 (.sc (.bool true)))=some g:=h
  simp only [Option.some.injEq] at h
  subst hf h
  exact QhL (QnC W hF)
 split at h
 ·rename_i hf;simp only [Option.some.injEq] at h;subst hf h;exact zw (by kernel_rfl) Vz
 split at h
 ·rename_i hf;simp only [Option.some.injEq] at h;subst hf h;exact qe (by kernel_rfl) Tryz.underlying3 zj
 ·exact QcM f g h
end
set_option maxHeartbeats 16000000
set_option maxRecDepth 20000
attribute [local irreducible] Ql wA Xr Xp QA Qp QW QY
variable [HB]
abbrev zP2:P2:=(.nilS,.nilS)
def revK (ps:List P2) (k:Nat):List P2:=(List.range ps.length).map fun t=>if t < k∨ps.length≤t+k then ps.getD (ps.length-1-t) zP2 else ps.getD t zP2
def I92 (h0 hb:Qa) (s:SV) (ps:List P2) (E:Env) (h:Qa):Prop:=∃ (k:Nat) (j:Int),2*k≤ps.length∧j=(ps.length:Int)-1-k∧OwnD h0 h s (revK ps k)∧Ext h0 h∧(∀ (i:Nat) (b:Blk),hb[i]?=some b→X1 s i→h[i]?=some b) ∧
 E.keep [0,2,3]=[(0,some (.sc s)),(2,some (.sc (.int .i64 (k:Nat)))),(3,some (.sc (.int .i64 j)))]
def R92 (h0 hb:Qa) (s:SV) (ps:List P2) (ex:Ex) (E:Env) (h:Qa):Prop:=ex=.ex 0∧OwnD h0 h s ps.reverse∧Ext h0 h∧(∀ (i:Nat) (b:Blk),hb[i]?=some b→X1 s i→h[i]?=some b)
def Mover (h0:Qa) (g:FuncId) (caps:List (Nat × Nat)) (f:Int→Int):Prop:=∀ H,Ext h0 H→∀ e:Int,e.natAbs≤eM→∃ r h',Cal FT HKt g ([.sc (.int .i64 e)]++caps.map fun p=>AV.sc (.ptr p.1 p.2)) H r h'∧r=.sc (.int .i64 (f e))∧h'=H
abbrev mvT (f:Int→Int) (l:List Tm):List Tm:=l.map fun t=>(f t.1,t.2)
structure St63 (h0 h:Qa) (q4 q5:Nat) (s:SV) (r:List Tm):Prop where
 e:Ext h0 h
 c4:Cel h q4 (.bool false) .nilS
 c5:Cel h q5 (.bool false) s
 o:OwnD h0 h s (tms r)
def I63 (h0:Qa) (q4 q5:Nat) (fn sp:SV) (f:Int→Int) (ts:List Tm) (E:Env) (h:Qa):Prop:=∃ (i:Nat) (s:SV),i≤ts.length∧(∀ t∈ts.take i,(f t.1).natAbs≤eM)∧St63 h0 h q4 q5 s (mvT f (ts.take i)) ∧
 E.keep [1,4,5,18,19,20]=[(1,some (.sc fn)),(4,some (.sc (.ptr q4 0))),(5,some (.sc (.ptr q5 0))),(18,some (.sc sp)),(19,some (.sc (.int .i64 (ts.length:Nat)))),(20,some (.sc (.int .i64 (i:Nat))))]
def R63 (h0:Qa) (q4 q5:Nat) (f:Int→Int) (ts:List Tm) (ex:Ex) (E:Env) (h:Qa):Prop :=
 (ex=.ex 0∧∃ s,(∀ t∈ts,(f t.1).natAbs≤eM)∧St63 h0 h q4 q5 s (mvT f ts)∧∃ a b c d e,E=[(1,a),(4,some (.sc (.ptr q4 0))),(5,some (.sc (.ptr q5 0))),(18,b),(19,c),(20,d),(21,e)]) ∨
 (ex=.rt∧¬ (∀ t∈ts,(f t.1).natAbs≤eM)∧Ext h0 h∧Cel h q4 (.bool true) .nilS∧E=[(4,some (.sc (.ptr q4 0)))])
section
variable {FT:FuncId→Option AFun} {HK:FuncId→Option Xj} {E:Env} {h:Qa} {K:Env→Qa→Prop} {d:Option Nat} {r:List AOp} {xo:AO}
end
def Qhj (nm:List UInt8) (c e:Int):List UInt8:=(if c≠1∨e=0 then Lib.itoa c else [])++((if e≠0 then nm else [])++(if e≠0∧e≠1 then [94]++Lib.itoa e else []))
def tTx (nm:List UInt8) (i:Nat) (t:Tm):List UInt8:=if t.2 < 0 then [45]++Qhj nm (-t.2) t.1 else if 0 < i then [43]++Qhj nm t.2 t.1 else Qhj nm t.2 t.1
def Qd8 (nm:List UInt8) (ts:List Tm):Nat→List UInt8
 | 0=>[]
 | i+1=>Qd8 nm ts i++tTx nm i (ts.getD i (0,0))
def txtP (nm:List UInt8) (p:Pol):List UInt8:=if p.big then [98,105,103] else if p.ts=[] then [48] else Qd8 nm p.ts p.ts.length
def I15 (hb:Qa) (B:Nat) (nm:List UInt8) (s:SV) (ts:List Tm) (E:Env) (h:Qa):Prop:=∃ i:Nat,i≤ts.length∧BL hb h B (Qd8 nm ts i) ∧
 E.keep [1,5,18,19,20]=[(1,some (.sc (tb nm))),(5,some (.sc (.ptr B 0))),(18,some (.sc s)),(19,some (.sc (.int .i64 (ts.length:Nat)))),(20,some (.sc (.int .i64 (i:Nat))))]
def R15 (hb:Qa) (B:Nat) (nm:List UInt8) (ts:List Tm) (ex:Ex) (E:Env) (h:Qa):Prop:=BL hb h B (Qd8 nm ts ts.length) ∧
 ex=.ex 1∧∃ a b c d e,E=[(1,a),(5,some (.sc (.ptr B 0))),(18,b),(19,c),(20,d),(21,e)]
def I16 (h0:Qa) (q2:Nat) (nm:List UInt8) (ts:List Tm) (E:Env) (h:Qa):Prop:=∃ i:Nat,i≤ts.length∧Ext h0 h ∧
 E.keep [1,2,5,6]=[(1,some (.sc (tb nm))),(2,some (.sc (.ptr q2 0))),(5,some (.sc (tb (Qd8 nm ts i)))),(6,some (.sc (.int .i64 (i:Nat))))]
def R16 (h0:Qa) (nm:List UInt8) (ts:List Tm) (ex:Ex) (E:Env) (h:Qa):Prop:=Ext h0 h ∧
 ex=.ex 0∧∃ a b c d,E=[(1,a),(2,b),(5,some (.sc (tb (Qd8 nm ts ts.length)))),(6,c),(19,d)]
end Go.Proofs.YtofknpknogfijaaGreatDoor
namespace Go.Proofs.YtofknpknogfijaaGreatDoor
open Go.Ab
set_option linter.all false
set_option maxHeartbeats 16000000
set_option maxRecDepth 20000
attribute [local irreducible] Ql wA Xr Xp QA Qp QW QY
section
variable [HB]
def I6 (h0:Qa) (low:Int) (s:SV) (xs:List Int) (by_:Int) (k:Nat) (E:Env) (h:Qa):Prop:=∃ i:Nat,i≤xs.length∧k=xs.length-i∧(∀ x∈xs.take i,smC x)∧h=h0 ∧
 E.keep [0,1,2,7]=[(0,some (.sc (.int .i64 low))),(1,some (.sc s)),(2,some (.sc (.int .i8 by_))),(7,some (.sc (.int .i64 (i:Nat))))]
def R6 (h0:Qa) (low:Int) (s:SV) (xs:List Int) (by_:Int) (ex:Ex) (E:Env) (h:Qa):Prop:=h=h0 ∧
 ((ex=.ex 0∧(∀ x∈xs,smC x)∧∃ a b,E=[(0,some (.sc (.int .i64 low))),(1,some (.sc s)),(2,some (.sc (.int .i8 by_))),(7,a),(26,b)])∨(ex=.rt∧E=[(6,some (.sc (.bool true)))]))
end
