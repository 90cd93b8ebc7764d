/- Contracts of the library at this program, as the kit lays them: strings_Join, strings_Join_none, strconv_Itoa, strconv_Atoi_ok, strconv_Atoi_bad, strconv_Atoi_bad, strconv_Atoi_range, strings_Fields_any. -/
import Derived.Shelf.Lays
import Derived.Shelf.LaysC
import Derived.Shelf.LaysM
import Derived.Shelf.Strconv.AtoiAll
import Derived.Shelf.Strconv.Itoa3
import Derived.Shelf.Strings.FieldsAny
import Derived.Shelf.Strings.OnBuilder
import Derived.Test.YtleoalcbgpjieaaDoorProg
import Derived.Test.YtleoalcbgpjieaaDoorH3
import Derived.Test.YtleoalcbgpjieaaDoorAwake
import Derived.Test.YtleoalcbgpjieaaDoorAb32
namespace Go.Proofs.YtleoalcbgpjieaaDoor
open Go.Shelf
def lays156_ren : Go.Shelf.Ren := ⟨fun | 156 => 48 | 165 => 62 | 166 => 45 | 169 => 47 | 240 => 60 | 241 => 70 | 276 => 68 | 277 => 78 | n => n, fun | 31 => 76 | 9 => 9 | 3 => 3 | 4 => 4 | 0 => 0 | 20 => 20 | 72 => 80 | 76 => 84 | 70 => 77 | 37 => 78 | 75 => 82 | 127 => 101 | 164 => 107 | 5 => 5 | 80 => 87 | n => n, fun | n => n⟩
theorem lays156 : Go.Proofs.Lays.n156 Tryd.prog lays156_ren := {
  mixed := by kernel_rfl
  f156 := Tryd.func48.trans (congrArg some (by kernel_rfl))
  f165 := Tryd.func62.trans (congrArg some (by kernel_rfl))
  f166 := Tryd.func45.trans (congrArg some (by kernel_rfl))
  f169 := Tryd.func47.trans (congrArg some (by kernel_rfl))
  f240 := Tryd.func60.trans (congrArg some (by kernel_rfl))
  f241 := Tryd.func70.trans (congrArg some (by kernel_rfl))
  f276 := Tryd.func68.trans (congrArg some (by kernel_rfl))
  f277 := Tryd.func78.trans (congrArg some (by kernel_rfl))
  t0 := Tryd.underlying0
  a0 := Tryd.isAgg0
  z0 := Tryd.sizeOf0
  v0 := Tryd.zeroValue0
  t3 := Tryd.underlying3
  a3 := Tryd.isAgg3
  z3 := Tryd.sizeOf3
  v3 := Tryd.zeroValue3
  t4 := Tryd.underlying4
  a4 := Tryd.isAgg4
  z4 := Tryd.sizeOf4
  v4 := Tryd.zeroValue4
  t9 := Tryd.underlying9
  a9 := Tryd.isAgg9
  z9 := Tryd.sizeOf9
  v9 := Tryd.zeroValue9
  t20 := Tryd.underlying20
  a20 := Tryd.isAgg20
  z20 := Tryd.sizeOf20
  v20 := Tryd.zeroValue20
  t31 := Tryd.underlying76
  a31 := Tryd.isAgg76
  z31 := Tryd.sizeOf76
  v31 := Tryd.zeroValue76
  t37 := Tryd.underlying78
  a37 := Tryd.isAgg78
  z37 := Tryd.sizeOf78
  v37 := Tryd.zeroValue78
  t70 := Tryd.underlying77
  a70 := Tryd.isAgg77
  z70 := Tryd.sizeOf77
  v70 := Tryd.zeroValue77
  t72 := Tryd.underlying80
  a72 := Tryd.isAgg80
  z72 := Tryd.sizeOf80
  v72 := Tryd.zeroValue80
  t75 := Tryd.underlying82
  a75 := Tryd.isAgg82
  z75 := Tryd.sizeOf82
  v75 := Tryd.zeroValue82
  t76 := Tryd.underlying84
  a76 := Tryd.isAgg84
  z76 := Tryd.sizeOf84
  v76 := Tryd.zeroValue84
  t127 := Tryd.underlying101
  a127 := Tryd.isAgg101
  z127 := Tryd.sizeOf101
  v127 := Tryd.zeroValue101
  t164 := Tryd.underlying107
  a164 := Tryd.isAgg107
  z164 := Tryd.sizeOf107
  v164 := Tryd.zeroValue107 }
theorem Builder_Extra_156 : Builder.Extra Tryd.prog lays156_ren := {
  sizeBuilder := by kernel_rfl
  liesBuilder := by kernel_rfl
  t5 := Tryd.underlying5
  a5 := Tryd.isAgg5
  z5 := Tryd.sizeOf5
  v5 := Tryd.zeroValue5
  infoByte := by kernel_rfl
  cellsByte := by kernel_rfl
  sizeByte := by kernel_rfl
  neB5 := by decide }
open Go.RowKit in
theorem strings_Join_none (a : Option Addr) (c : Nat) (sep : ByteArray) (w : World) :
    Calls Tryd.prog 48 #[.slice a 0 c, .string sep] w fun e w' => e = .returned (.string ⟨#[]⟩) ∧ w' = w := Any.strings_Join_none lays156 Builder_Extra_156 a c sep w
open Go.RowKit in
theorem strings_Join (bk o c : Nat) (xs : List ByteArray) (sep : ByteArray) (w : World) (hcells : ∀ (j : Nat) x, xs[j]? = some x → w.cell? ⟨bk, o + j, none⟩ = some (.string x)) (hbk : bk < w.heap.size) (hN : xs.length ≤ 140737488355328) (hcap : xs.length ≤ c) (hlen : (Lib.join (xs.map (·.data.toList)) sep.data.toList).length ≤ 140737488355328) :
    Calls Tryd.prog 48 #[.slice (some ⟨bk, o, none⟩) xs.length c, .string sep] w fun e w' => e = .returned (.string ⟨(Lib.join (xs.map (·.data.toList)) sep.data.toList).toArray⟩) ∧ Below w.heap.size w w' := Any.strings_Join lays156 Builder_Extra_156 bk o c xs sep w hcells hbk hN hcap hlen
def laysM171_ren : Go.Shelf.Ren := ⟨fun | 171 => 46 | 243 => 61 | 246 => 69 | 283 => 74 | 284 => 75 | 285 => 76 | 286 => 77 | 129 => 87 | 317 => 86 | 318 => 88 | 319 => 89 | 320 => 90 | 337 => 94 | 338 => 95 | n => n, fun | 3 => 3 | 9 => 9 | 2 => 2 | 4 => 4 | 171 => 117 | 0 => 0 | 53 => 118 | 37 => 78 | 5 => 5 | 173 => 121 | 212 => 142 | 51 => 113 | 20 => 20 | 213 => 143 | 46 => 144 | 232 => 160 | 233 => 161 | n => n, fun | 17 => 2 | 18 => 6 | 19 => 7 | n => n⟩
theorem laysM171 : Go.Proofs.LaysM.n171 Tryd.prog laysM171_ren := {
  mixed := by kernel_rfl
  f129 := Tryd.func87.trans (congrArg some (by kernel_rfl))
  f171 := Tryd.func46.trans (congrArg some (by kernel_rfl))
  f243 := Tryd.func61.trans (congrArg some (by kernel_rfl))
  f246 := Tryd.func69.trans (congrArg some (by kernel_rfl))
  f283 := Tryd.func74.trans (congrArg some (by kernel_rfl))
  f284 := Tryd.func75.trans (congrArg some (by kernel_rfl))
  f285 := Tryd.func76.trans (congrArg some (by kernel_rfl))
  f286 := Tryd.func77.trans (congrArg some (by kernel_rfl))
  f317 := Tryd.func86.trans (congrArg some (by kernel_rfl))
  f318 := Tryd.func88.trans (congrArg some (by kernel_rfl))
  f319 := Tryd.func89.trans (congrArg some (by kernel_rfl))
  f320 := Tryd.func90.trans (congrArg some (by kernel_rfl))
  f337 := Tryd.func94.trans (congrArg some (by kernel_rfl))
  f338 := Tryd.func95.trans (congrArg some (by kernel_rfl))
  t0 := Tryd.underlying0
  a0 := Tryd.isAgg0
  z0 := Tryd.sizeOf0
  v0 := Tryd.zeroValue0
  t2 := Tryd.underlying2
  a2 := Tryd.isAgg2
  z2 := Tryd.sizeOf2
  v2 := Tryd.zeroValue2
  t3 := Tryd.underlying3
  a3 := Tryd.isAgg3
  z3 := Tryd.sizeOf3
  v3 := Tryd.zeroValue3
  t4 := Tryd.underlying4
  a4 := Tryd.isAgg4
  z4 := Tryd.sizeOf4
  v4 := Tryd.zeroValue4
  t5 := Tryd.underlying5
  a5 := Tryd.isAgg5
  z5 := Tryd.sizeOf5
  v5 := Tryd.zeroValue5
  t9 := Tryd.underlying9
  a9 := Tryd.isAgg9
  z9 := Tryd.sizeOf9
  v9 := Tryd.zeroValue9
  t20 := Tryd.underlying20
  a20 := Tryd.isAgg20
  z20 := Tryd.sizeOf20
  v20 := Tryd.zeroValue20
  t37 := Tryd.underlying78
  a37 := Tryd.isAgg78
  z37 := Tryd.sizeOf78
  v37 := Tryd.zeroValue78
  t46 := Tryd.underlying144
  a46 := Tryd.isAgg144
  z46 := Tryd.sizeOf144
  v46 := Tryd.zeroValue144
  t51 := Tryd.underlying113
  a51 := Tryd.isAgg113
  z51 := Tryd.sizeOf113
  v51 := Tryd.zeroValue113
  t53 := Tryd.underlying118
  a53 := Tryd.isAgg118
  z53 := Tryd.sizeOf118
  v53 := Tryd.zeroValue118
  t171 := Tryd.underlying117
  a171 := Tryd.isAgg117
  z171 := Tryd.sizeOf117
  v171 := Tryd.zeroValue117
  t173 := Tryd.underlying121
  a173 := Tryd.isAgg121
  z173 := Tryd.sizeOf121
  v173 := Tryd.zeroValue121
  t212 := Tryd.underlying142
  a212 := Tryd.isAgg142
  z212 := Tryd.sizeOf142
  v212 := Tryd.zeroValue142
  t213 := Tryd.underlying143
  a213 := Tryd.isAgg143
  z213 := Tryd.sizeOf143
  t232 := Tryd.underlying160
  a232 := Tryd.isAgg160
  z232 := Tryd.sizeOf160
  v232 := Tryd.zeroValue160
  t233 := Tryd.underlying161
  a233 := Tryd.isAgg161
  z233 := Tryd.sizeOf161
  v233 := Tryd.zeroValue161
  g17 := by kernel_rfl
  g18 := by kernel_rfl
  g19 := by kernel_rfl
  i0 := by kernel_rfl
  i2 := by kernel_rfl
  i3 := by kernel_rfl
  i4 := by kernel_rfl
  i5 := by kernel_rfl
  i9 := by kernel_rfl
  i20 := by kernel_rfl
  i37 := by kernel_rfl
  i46 := by kernel_rfl
  i51 := by kernel_rfl
  i53 := by kernel_rfl
  i171 := by kernel_rfl
  i173 := by kernel_rfl
  i212 := by kernel_rfl
  i232 := by kernel_rfl
  i233 := by kernel_rfl
  m17 := by kernel_rfl
  m18 := by kernel_rfl
  m19 := by kernel_rfl }
open Go.RowKit Go.Sort Go.Lib in
theorem strconv_Itoa (n : Int) (h0 : -9223372036854775808 ≤ n) (h1 : n ≤ 9223372036854775807) (w : World) (htab : Lib.TabIs Tryd.prog w "internal/strconv.uint64pow10" .u64 Lib.pow10Tab) :
    Calls Tryd.prog 46 #[.int .i64 n] w fun e w' => e = .returned (.string ⟨(Lib.itoa n).toArray⟩) ∧ ∃ k os, w' = grow (w.drewN k) os := Any.strconv_Itoa laysM171 n h0 h1 w htab
def laysC172_ren : Go.Shelf.Ren := ⟨fun | 172 => 65 | 244 => 72 | 245 => 73 | 247 => 81 | 279 => 82 | 280 => 83 | 281 => 84 | 282 => 85 | 287 => 91 | 316 => 92 | 171 => 46 | 205 => 93 | 321 => 96 | 322 => 97 | 243 => 61 | 246 => 69 | 283 => 74 | 284 => 75 | 285 => 76 | 286 => 77 | 129 => 87 | 317 => 86 | 318 => 88 | 319 => 89 | 320 => 90 | 337 => 94 | 338 => 95 | n => n, fun | 9 => 9 | 3 => 3 | 75 => 82 | 76 => 84 | 4 => 4 | 5 => 5 | 167 => 135 | 37 => 78 | 0 => 0 | 85 => 136 | 2 => 2 | 168 => 138 | 53 => 118 | 175 => 148 | 46 => 144 | 210 => 152 | 127 => 101 | 145 => 159 | 143 => 157 | 21 => 21 | 171 => 117 | 173 => 121 | 212 => 142 | 51 => 113 | 20 => 20 | 213 => 143 | 232 => 160 | 233 => 161 | 80 => 87 | n => n, fun | 15 => 4 | 16 => 5 | 17 => 2 | 18 => 6 | 19 => 7 | n => n⟩
theorem laysC172 : Go.Proofs.LaysC.n172 Tryd.prog laysC172_ren := {
  mixed := by kernel_rfl
  f129 := Tryd.func87.trans (congrArg some (by kernel_rfl))
  f171 := Tryd.func46.trans (congrArg some (by kernel_rfl))
  f172 := Tryd.func65.trans (congrArg some (by kernel_rfl))
  f205 := Tryd.func93.trans (congrArg some (by kernel_rfl))
  f243 := Tryd.func61.trans (congrArg some (by kernel_rfl))
  f244 := Tryd.func72.trans (congrArg some (by kernel_rfl))
  f245 := Tryd.func73.trans (congrArg some (by kernel_rfl))
  f246 := Tryd.func69.trans (congrArg some (by kernel_rfl))
  f247 := Tryd.func81.trans (congrArg some (by kernel_rfl))
  f279 := Tryd.func82.trans (congrArg some (by kernel_rfl))
  f280 := Tryd.func83.trans (congrArg some (by kernel_rfl))
  f281 := Tryd.func84.trans (congrArg some (by kernel_rfl))
  f282 := Tryd.func85.trans (congrArg some (by kernel_rfl))
  f283 := Tryd.func74.trans (congrArg some (by kernel_rfl))
  f284 := Tryd.func75.trans (congrArg some (by kernel_rfl))
  f285 := Tryd.func76.trans (congrArg some (by kernel_rfl))
  f286 := Tryd.func77.trans (congrArg some (by kernel_rfl))
  f287 := Tryd.func91.trans (congrArg some (by kernel_rfl))
  f316 := Tryd.func92.trans (congrArg some (by kernel_rfl))
  f317 := Tryd.func86.trans (congrArg some (by kernel_rfl))
  f318 := Tryd.func88.trans (congrArg some (by kernel_rfl))
  f319 := Tryd.func89.trans (congrArg some (by kernel_rfl))
  f320 := Tryd.func90.trans (congrArg some (by kernel_rfl))
  f321 := Tryd.func96.trans (congrArg some (by kernel_rfl))
  f322 := Tryd.func97.trans (congrArg some (by kernel_rfl))
  f337 := Tryd.func94.trans (congrArg some (by kernel_rfl))
  f338 := Tryd.func95.trans (congrArg some (by kernel_rfl))
  t0 := Tryd.underlying0
  a0 := Tryd.isAgg0
  z0 := Tryd.sizeOf0
  v0 := Tryd.zeroValue0
  t2 := Tryd.underlying2
  a2 := Tryd.isAgg2
  z2 := Tryd.sizeOf2
  v2 := Tryd.zeroValue2
  t3 := Tryd.underlying3
  a3 := Tryd.isAgg3
  z3 := Tryd.sizeOf3
  v3 := Tryd.zeroValue3
  t4 := Tryd.underlying4
  a4 := Tryd.isAgg4
  z4 := Tryd.sizeOf4
  v4 := Tryd.zeroValue4
  t5 := Tryd.underlying5
  a5 := Tryd.isAgg5
  z5 := Tryd.sizeOf5
  v5 := Tryd.zeroValue5
  t9 := Tryd.underlying9
  a9 := Tryd.isAgg9
  z9 := Tryd.sizeOf9
  v9 := Tryd.zeroValue9
  t20 := Tryd.underlying20
  a20 := Tryd.isAgg20
  z20 := Tryd.sizeOf20
  v20 := Tryd.zeroValue20
  t21 := Tryd.underlying21
  a21 := Tryd.isAgg21
  z21 := Tryd.sizeOf21
  v21 := Tryd.zeroValue21
  t37 := Tryd.underlying78
  a37 := Tryd.isAgg78
  z37 := Tryd.sizeOf78
  v37 := Tryd.zeroValue78
  t46 := Tryd.underlying144
  a46 := Tryd.isAgg144
  z46 := Tryd.sizeOf144
  v46 := Tryd.zeroValue144
  t51 := Tryd.underlying113
  a51 := Tryd.isAgg113
  z51 := Tryd.sizeOf113
  v51 := Tryd.zeroValue113
  t53 := Tryd.underlying118
  a53 := Tryd.isAgg118
  z53 := Tryd.sizeOf118
  v53 := Tryd.zeroValue118
  t75 := Tryd.underlying82
  a75 := Tryd.isAgg82
  z75 := Tryd.sizeOf82
  v75 := Tryd.zeroValue82
  t76 := Tryd.underlying84
  a76 := Tryd.isAgg84
  z76 := Tryd.sizeOf84
  v76 := Tryd.zeroValue84
  t85 := Tryd.underlying136
  a85 := Tryd.isAgg136
  z85 := Tryd.sizeOf136
  v85 := Tryd.zeroValue136
  t127 := Tryd.underlying101
  a127 := Tryd.isAgg101
  z127 := Tryd.sizeOf101
  v127 := Tryd.zeroValue101
  t143 := Tryd.underlying157
  a143 := Tryd.isAgg157
  z143 := Tryd.sizeOf157
  v143 := Tryd.zeroValue157
  t145 := Tryd.underlying159
  a145 := Tryd.isAgg159
  z145 := Tryd.sizeOf159
  v145 := Tryd.zeroValue159
  t167 := Tryd.underlying135
  a167 := Tryd.isAgg135
  z167 := Tryd.sizeOf135
  v167 := Tryd.zeroValue135
  t168 := Tryd.underlying138
  a168 := Tryd.isAgg138
  z168 := Tryd.sizeOf138
  v168 := Tryd.zeroValue138
  t171 := Tryd.underlying117
  a171 := Tryd.isAgg117
  z171 := Tryd.sizeOf117
  v171 := Tryd.zeroValue117
  t173 := Tryd.underlying121
  a173 := Tryd.isAgg121
  z173 := Tryd.sizeOf121
  v173 := Tryd.zeroValue121
  t175 := Tryd.underlying148
  a175 := Tryd.isAgg148
  z175 := Tryd.sizeOf148
  v175 := Tryd.zeroValue148
  t210 := Tryd.underlying152
  a210 := Tryd.isAgg152
  z210 := Tryd.sizeOf152
  v210 := Tryd.zeroValue152
  t212 := Tryd.underlying142
  a212 := Tryd.isAgg142
  z212 := Tryd.sizeOf142
  v212 := Tryd.zeroValue142
  t213 := Tryd.underlying143
  a213 := Tryd.isAgg143
  z213 := Tryd.sizeOf143
  t232 := Tryd.underlying160
  a232 := Tryd.isAgg160
  z232 := Tryd.sizeOf160
  v232 := Tryd.zeroValue160
  t233 := Tryd.underlying161
  a233 := Tryd.isAgg161
  z233 := Tryd.sizeOf161
  v233 := Tryd.zeroValue161
  g15 := by kernel_rfl
  g16 := by kernel_rfl
  g17 := by kernel_rfl
  g18 := by kernel_rfl
  g19 := by kernel_rfl
  t80 := Tryd.underlying87
  a80 := Tryd.isAgg87
  z80 := Tryd.sizeOf87
  v80 := Tryd.zeroValue87
  i0 := by kernel_rfl
  i2 := by kernel_rfl
  i3 := by kernel_rfl
  i4 := by kernel_rfl
  i5 := by kernel_rfl
  i9 := by kernel_rfl
  i20 := by kernel_rfl
  i21 := by kernel_rfl
  i37 := by kernel_rfl
  i46 := by kernel_rfl
  i51 := by kernel_rfl
  i53 := by kernel_rfl
  i75 := by kernel_rfl
  i76 := by kernel_rfl
  i80 := by kernel_rfl
  i85 := by kernel_rfl
  i127 := by kernel_rfl
  i143 := by kernel_rfl
  i145 := by kernel_rfl
  i167 := by kernel_rfl
  i168 := by kernel_rfl
  i171 := by kernel_rfl
  i173 := by kernel_rfl
  i175 := by kernel_rfl
  i210 := by kernel_rfl
  i212 := by kernel_rfl
  i232 := by kernel_rfl
  i233 := by kernel_rfl
  m15 := by kernel_rfl
  m16 := by kernel_rfl
  m17 := by kernel_rfl
  m18 := by kernel_rfl
  m19 := by kernel_rfl
  c0 := by kernel_rfl
  c2 := by kernel_rfl
  c3 := by kernel_rfl
  c4 := by kernel_rfl
  c5 := by kernel_rfl
  c9 := by kernel_rfl
  c20 := by kernel_rfl
  c21 := by kernel_rfl
  c37 := by kernel_rfl
  c46 := by kernel_rfl
  c51 := by kernel_rfl
  c53 := by kernel_rfl
  c75 := by kernel_rfl
  c76 := by kernel_rfl
  c80 := by kernel_rfl
  c85 := by kernel_rfl
  c127 := by kernel_rfl
  c143 := by kernel_rfl
  c145 := by kernel_rfl
  c167 := by kernel_rfl
  c168 := by kernel_rfl
  c171 := by kernel_rfl
  c173 := by kernel_rfl
  c175 := by kernel_rfl
  c210 := by kernel_rfl
  c212 := by kernel_rfl
  c213 := by kernel_rfl
  c232 := by kernel_rfl
  c233 := by kernel_rfl }
open Go.RowKit in
theorem strconv_Atoi_ok (s : ByteArray) (hmax : s.size ≤ 9223372036854775806) (v : Int) (h : Lib.atoiAll s.data.toList = .ok v) (w : World) :
    Calls Tryd.prog 65 #[.string s] w fun e w' => e = .returned (.tuple #[.int .i64 v, .nilIface]) ∧ (w' = w ∨ ∃ t, w' = Lib.bytesWorld w 5 t) := Any.strconv_Atoi_ok laysC172 s hmax v h w
open Go.RowKit in
theorem strconv_Atoi_bad (s : ByteArray) (hlim : s.size ≤ 281474976710656) (h : Lib.atoiAll s.data.toList = Lib.atoiAll []) (ev : Value) (w : World) (hv : w.cell? ⟨4, 0, none⟩ = some ev) (hev : ev = .nilIface ∨ ∃ te pe, ev = .iface te pe) :
    Calls Tryd.prog 65 #[.string s] w fun e w' => ∃ N, e = .returned (.tuple #[.int .i64 (0), .iface 138 (.pointer (some ⟨N, 0, none⟩))]) ∧ w.heap.size ≤ N ∧ w'.heap[N]? = some (.cells #[.string ⟨#[65, 116, 111, 105]⟩, .string s, ev] 152 (0, 0)) ∧ Below w.heap.size w w' := Any.strconv_Atoi_syntax laysC172 s hlim h ev w hv hev
open Go.RowKit in
theorem strconv_Atoi_range (s : ByteArray) (hlim : s.size ≤ 281474976710656) (h : Lib.atoiAll s.data.toList = .range) (ev : Value) (w : World) (hv : w.cell? ⟨5, 0, none⟩ = some ev) (hev : ev = .nilIface ∨ ∃ te pe, ev = .iface te pe) :
    Calls Tryd.prog 65 #[.string s] w fun e w' => ∃ N, e = .returned (.tuple #[.int .i64 (Lib.atoiSat s.data.toList), .iface 138 (.pointer (some ⟨N, 0, none⟩))]) ∧ w.heap.size ≤ N ∧ w'.heap[N]? = some (.cells #[.string ⟨#[65, 116, 111, 105]⟩, .string s, ev] 152 (0, 0)) ∧ Below w.heap.size w w' := Any.strconv_Atoi_range laysC172 s hlim h ev w hv hev
def lays157_ren : Go.Shelf.Ren := ⟨fun | 157 => 49 | 229 => 63 | 199 => 64 | 261 => 71 | 311 => 79 | 312 => 80 | n => n, fun | 9 => 9 | 31 => 76 | 3 => 3 | 5 => 5 | 4 => 4 | 119 => 103 | 0 => 0 | 40 => 105 | 152 => 110 | 21 => 21 | 154 => 112 | 51 => 113 | 141 => 115 | 196 => 127 | 193 => 124 | 198 => 130 | 49 => 128 | 194 => 125 | 201 => 133 | 226 => 146 | 46 => 144 | 227 => 147 | n => n, fun | 0 => 0 | 6 => 1 | n => n⟩
theorem lays157 : Go.Proofs.Lays.n157 Tryd.prog lays157_ren := {
  mixed := by kernel_rfl
  f157 := Tryd.func49.trans (congrArg some (by kernel_rfl))
  f199 := Tryd.func64.trans (congrArg some (by kernel_rfl))
  f229 := Tryd.func63.trans (congrArg some (by kernel_rfl))
  f261 := Tryd.func71.trans (congrArg some (by kernel_rfl))
  f311 := Tryd.func79.trans (congrArg some (by kernel_rfl))
  f312 := Tryd.func80.trans (congrArg some (by kernel_rfl))
  t0 := Tryd.underlying0
  a0 := Tryd.isAgg0
  z0 := Tryd.sizeOf0
  v0 := Tryd.zeroValue0
  t3 := Tryd.underlying3
  a3 := Tryd.isAgg3
  z3 := Tryd.sizeOf3
  v3 := Tryd.zeroValue3
  t4 := Tryd.underlying4
  a4 := Tryd.isAgg4
  z4 := Tryd.sizeOf4
  v4 := Tryd.zeroValue4
  t5 := Tryd.underlying5
  a5 := Tryd.isAgg5
  z5 := Tryd.sizeOf5
  v5 := Tryd.zeroValue5
  t9 := Tryd.underlying9
  a9 := Tryd.isAgg9
  z9 := Tryd.sizeOf9
  v9 := Tryd.zeroValue9
  t21 := Tryd.underlying21
  a21 := Tryd.isAgg21
  z21 := Tryd.sizeOf21
  v21 := Tryd.zeroValue21
  t31 := Tryd.underlying76
  a31 := Tryd.isAgg76
  z31 := Tryd.sizeOf76
  v31 := Tryd.zeroValue76
  t40 := Tryd.underlying105
  a40 := Tryd.isAgg105
  z40 := Tryd.sizeOf105
  v40 := Tryd.zeroValue105
  t46 := Tryd.underlying144
  a46 := Tryd.isAgg144
  z46 := Tryd.sizeOf144
  v46 := Tryd.zeroValue144
  t49 := Tryd.underlying128
  a49 := Tryd.isAgg128
  z49 := Tryd.sizeOf128
  v49 := Tryd.zeroValue128
  t51 := Tryd.underlying113
  a51 := Tryd.isAgg113
  z51 := Tryd.sizeOf113
  v51 := Tryd.zeroValue113
  t119 := Tryd.underlying103
  a119 := Tryd.isAgg103
  z119 := Tryd.sizeOf103
  t141 := Tryd.underlying115
  a141 := Tryd.isAgg115
  z141 := Tryd.sizeOf115
  v141 := Tryd.zeroValue115
  t152 := Tryd.underlying110
  a152 := Tryd.isAgg110
  z152 := Tryd.sizeOf110
  v152 := Tryd.zeroValue110
  t154 := Tryd.underlying112
  a154 := Tryd.isAgg112
  z154 := Tryd.sizeOf112
  v154 := Tryd.zeroValue112
  t193 := Tryd.underlying124
  a193 := Tryd.isAgg124
  z193 := Tryd.sizeOf124
  v193 := Tryd.zeroValue124
  t194 := Tryd.underlying125
  a194 := Tryd.isAgg125
  z194 := Tryd.sizeOf125
  v194 := Tryd.zeroValue125
  t196 := Tryd.underlying127
  a196 := Tryd.isAgg127
  z196 := Tryd.sizeOf127
  v196 := Tryd.zeroValue127
  t198 := Tryd.underlying130
  a198 := Tryd.isAgg130
  z198 := Tryd.sizeOf130
  v198 := Tryd.zeroValue130
  t201 := Tryd.underlying133
  a201 := Tryd.isAgg133
  z201 := Tryd.sizeOf133
  v201 := Tryd.zeroValue133
  t226 := Tryd.underlying146
  a226 := Tryd.isAgg146
  z226 := Tryd.sizeOf146
  v226 := Tryd.zeroValue146
  t227 := Tryd.underlying147
  a227 := Tryd.isAgg147
  z227 := Tryd.sizeOf147
  v227 := Tryd.zeroValue147
  g0 := by kernel_rfl
  g6 := by kernel_rfl }
open Go.RowKit Go.Lib in
theorem strings_Fields_any (s : ByteArray) (w : World) (hs : s.size < 4294967281) (htab : Lib.TabIs Tryd.prog w "strings.asciiSpace" .u8 Lib.asciiSpaceTab) (hW : Lib.WhiteTab 1 w) :
    Calls Tryd.prog 49 #[.string s] w fun e w' => ∃ A, e = .returned (.slice (some ⟨A, 0, none⟩) (Lib.fieldsD s.data.toList).length (Lib.fieldsD s.data.toList).length) ∧ w.heap.size ≤ A ∧
      w'.ownsRow w.heap.size 9 1 (.slice (some ⟨A, 0, none⟩) (Lib.fieldsD s.data.toList).length (Lib.fieldsD s.data.toList).length) (Lib.fieldsD s.data.toList).length ((Lib.fieldsD s.data.toList).map fun x => Value.string ⟨x.toArray⟩) ∧ Below w.heap.size w w' := Any.strings_Fields_any lays157 (by kernel_rfl) (by kernel_rfl) (by kernel_rfl) s w hs htab hW
end Go.Proofs.YtleoalcbgpjieaaDoor



/- The hooks are sound, in every world that holds what the row lists. -/
namespace Go.Proofs.YtleoalcbgpjieaaDoor
open Go.Ab
set_option linter.unusedVariables false

/-- What the package variables hold. -/
structure Facts (W : World) : Prop where
  syn : ∃ t v, W.cell? ⟨4, 0, none⟩ = some (.iface t v)
  rng : ∃ t v, W.cell? ⟨5, 0, none⟩ = some (.iface t v)
  pow : Lib.TabIs Tryd.prog W "internal/strconv.uint64pow10" .u64 Lib.pow10Tab
  asc : Lib.TabIs Tryd.prog W "strings.asciiSpace" .u8 Lib.asciiSpaceTab
  wht : Lib.WhiteTab 1 W

theorem white_agree {g : Nat} {W w : World} (h : Agree W w) (hw : Lib.WhiteTab g W) : Lib.WhiteTab g w := by
  obtain ⟨T, oT, R, oR, h1, h2, h3, h4, h5⟩ := hw
  exact ⟨T, oT, R, oR, h.cell h1, h.cell h2, h.cell h3, h.cell h4, fun i hi => h.cell (h5 i hi)⟩

abbrev BW (W : World) : Base := ⟨W.heap.size, W⟩
theorem ok_join (W : World) : @HkOK (BW W) Tryd.prog 48 joinHook := by
  letI : Base := BW W
  exact joinHook_ok (by kernel_rfl) strings_Join_none strings_Join
section
variable (W : World) (hF : Facts W)
include hF
theorem ok_fields : @HkOK (BW W) Tryd.prog 49 fieldsHook := by
  letI : Base := BW W
  exact fieldsHook_ok (t := 9) (Q := fun w => Agree W w) (by kernel_rfl) (fun w hw => hw) fun s w hs ha => strings_Fields_any s w hs (ha.tab hF.asc) (white_agree ha hF.wht)
theorem ok_atoi : @HkOK (BW W) Tryd.prog 65 atoiHook := by
  letI : Base := BW W
  have hs := hF.syn
  have hr := hF.rng
  refine atoiHook_ok (te := 138) (ty := 5) (by kernel_rfl) ⟨?_, hs⟩ ⟨?_, hr⟩ (fun s h1 v h2 w => strconv_Atoi_ok s h1 v h2 w) (fun s h1 h2 ev w h3 h4 => ⟨fun _ _ _ => True, (strconv_Atoi_bad s h1 h2 ev w h3 h4).mono fun e w' ⟨N, a, b, _, d⟩ => ⟨N, a, b, trivial, d⟩⟩) (fun s h1 h2 ev w h3 h4 => ⟨fun _ _ _ => True, (strconv_Atoi_range s h1 h2 ev w h3 h4).mono fun e w' ⟨N, a, b, _, d⟩ => ⟨N, a, b, trivial, d⟩⟩)
  · obtain ⟨t, v, hc⟩ := hs; exact lt_of_cell hc
  · obtain ⟨t, v, hc⟩ := hr; exact lt_of_cell hc
theorem ok_itoa : @HkOK (BW W) Tryd.prog 46 itoaHook := by
  letI : Base := BW W
  exact itoaHook_ok (g := 2) (nm := "internal/strconv.uint64pow10") (by kernel_rfl) (lt_of_tab (by kernel_rfl) hF.pow) (by kernel_rfl) hF.pow fun n h1 h2 w h3 => strconv_Itoa n h1 h2 w h3
theorem HKs_ok : @HKok (BW W) Tryd.prog HKs := by
  letI : Base := BW W
  intro f g h
  unfold HKs at h
  split at h
  · rename_i hf; simp only [Option.some.injEq] at h; subst hf h; exact ok_join W
  split at h
  · rename_i hf; simp only [Option.some.injEq] at h; subst hf h; exact (ok_fields W hF).less fieldsHookA_less
  split at h
  · rename_i hf; simp only [Option.some.injEq] at h; subst hf h; exact ok_atoi W hF
  split at h
  · rename_i hf; simp only [Option.some.injEq] at h; subst hf h; exact (ok_itoa W hF).less itoaHookA_less
  · exact HK0_ok f g h
theorem HKt_ok : @HKok (BW W) Tryd.prog HKt := by
  letI : Base := BW W
  intro f g h
  unfold HKt at h
  split at h
  · rename_i hf; simp only [Option.some.injEq] at h; subst hf h; exact awake_ok (HKs_ok W hF)
  · exact HK0_ok f g h
end
end Go.Proofs.YtleoalcbgpjieaaDoor

