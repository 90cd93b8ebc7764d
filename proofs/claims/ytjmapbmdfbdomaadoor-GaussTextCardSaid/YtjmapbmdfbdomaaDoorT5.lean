/- Contracts of the library at this program, as the kit lays them: strings_Fields_any, strings_Join, strings_Join_none, strconv_Itoa, strconv_Atoi_ok, strconv_Atoi_bad, strconv_Atoi_range. -/
import Derived.Shelf.Lays
import Derived.Shelf.LaysC
import Derived.Shelf.LaysM
import Derived.Shelf.Strconv.AtoiAll
import Derived.Shelf.Strconv.Itoa3
import Derived.Shelf.Strings.FieldsAny
import Derived.Shelf.Strings.OnBuilder
import Derived.Test.YtjmapbmdfbdomaaDoorProg
import Derived.Test.YtjmapbmdfbdomaaDoorT1
import Derived.Test.YtjmapbmdfbdomaaDoorAwake
import Derived.Test.YtjmapbmdfbdomaaDoorAb32
namespace Go.Proofs.YtjmapbmdfbdomaaDoor
open Go.Shelf
def lays156_ren : Go.Shelf.Ren := ⟨fun | 156 => 22 | 165 => 35 | 166 => 19 | 169 => 21 | 240 => 33 | 241 => 49 | 276 => 47 | 277 => 59 | n => n, fun | 31 => 49 | 9 => 9 | 3 => 3 | 4 => 4 | 0 => 0 | 20 => 20 | 72 => 53 | 76 => 59 | 70 => 50 | 37 => 51 | 75 => 57 | 127 => 78 | 164 => 90 | 5 => 5 | 80 => 62 | n => n, fun | n => n⟩
theorem lays156 : Go.Proofs.Lays.n156 Tryd.prog lays156_ren := {
  mixed := by kernel_rfl
  f156 := Tryd.func22.trans (congrArg some (by kernel_rfl))
  f165 := Tryd.func35.trans (congrArg some (by kernel_rfl))
  f166 := Tryd.func19.trans (congrArg some (by kernel_rfl))
  f169 := Tryd.func21.trans (congrArg some (by kernel_rfl))
  f240 := Tryd.func33.trans (congrArg some (by kernel_rfl))
  f241 := Tryd.func49.trans (congrArg some (by kernel_rfl))
  f276 := Tryd.func47.trans (congrArg some (by kernel_rfl))
  f277 := Tryd.func59.trans (congrArg some (by kernel_rfl))
  t0 := Tryd.underlying0
  a0 := Tryd.isAgg0
  z0 := Tryd.sizeOf0
  v0 := Tryd.zeroValue0
  t3 := Tryd.underlying3
  a3 := Tryd.isAgg3
  z3 := Tryd.sizeOf3
  v3 := Tryd.zeroValue3
  t4 := Tryd.underlying4
  a4 := Tryd.isAgg4
  z4 := Tryd.sizeOf4
  v4 := Tryd.zeroValue4
  t9 := Tryd.underlying9
  a9 := Tryd.isAgg9
  z9 := Tryd.sizeOf9
  v9 := Tryd.zeroValue9
  t20 := Tryd.underlying20
  a20 := Tryd.isAgg20
  z20 := Tryd.sizeOf20
  v20 := Tryd.zeroValue20
  t31 := Tryd.underlying49
  a31 := Tryd.isAgg49
  z31 := Tryd.sizeOf49
  v31 := Tryd.zeroValue49
  t37 := Tryd.underlying51
  a37 := Tryd.isAgg51
  z37 := Tryd.sizeOf51
  v37 := Tryd.zeroValue51
  t70 := Tryd.underlying50
  a70 := Tryd.isAgg50
  z70 := Tryd.sizeOf50
  v70 := Tryd.zeroValue50
  t72 := Tryd.underlying53
  a72 := Tryd.isAgg53
  z72 := Tryd.sizeOf53
  v72 := Tryd.zeroValue53
  t75 := Tryd.underlying57
  a75 := Tryd.isAgg57
  z75 := Tryd.sizeOf57
  v75 := Tryd.zeroValue57
  t76 := Tryd.underlying59
  a76 := Tryd.isAgg59
  z76 := Tryd.sizeOf59
  v76 := Tryd.zeroValue59
  t127 := Tryd.underlying78
  a127 := Tryd.isAgg78
  z127 := Tryd.sizeOf78
  v127 := Tryd.zeroValue78
  t164 := Tryd.underlying90
  a164 := Tryd.isAgg90
  z164 := Tryd.sizeOf90
  v164 := Tryd.zeroValue90 }
theorem Builder_Extra_156 : Builder.Extra Tryd.prog lays156_ren := {
  sizeBuilder := by kernel_rfl
  liesBuilder := by kernel_rfl
  t5 := Tryd.underlying5
  a5 := Tryd.isAgg5
  z5 := Tryd.sizeOf5
  v5 := Tryd.zeroValue5
  infoByte := by kernel_rfl
  cellsByte := by kernel_rfl
  sizeByte := by kernel_rfl
  neB5 := by decide }
open Go.RowKit in
theorem strings_Join_none (a : Option Addr) (c : Nat) (sep : ByteArray) (w : World) :
    Calls Tryd.prog 22 #[.slice a 0 c, .string sep] w fun e w' => e = .returned (.string ⟨#[]⟩) ∧ w' = w := Any.strings_Join_none lays156 Builder_Extra_156 a c sep w
open Go.RowKit in
theorem strings_Join (bk o c : Nat) (xs : List ByteArray) (sep : ByteArray) (w : World) (hcells : ∀ (j : Nat) x, xs[j]? = some x → w.cell? ⟨bk, o + j, none⟩ = some (.string x)) (hbk : bk < w.heap.size) (hN : xs.length ≤ 140737488355328) (hcap : xs.length ≤ c) (hlen : (Lib.join (xs.map (·.data.toList)) sep.data.toList).length ≤ 140737488355328) :
    Calls Tryd.prog 22 #[.slice (some ⟨bk, o, none⟩) xs.length c, .string sep] w fun e w' => e = .returned (.string ⟨(Lib.join (xs.map (·.data.toList)) sep.data.toList).toArray⟩) ∧ Below w.heap.size w w' := Any.strings_Join lays156 Builder_Extra_156 bk o c xs sep w hcells hbk hN hcap hlen
def laysM171_ren : Go.Shelf.Ren := ⟨fun | 171 => 20 | 243 => 34 | 246 => 48 | 283 => 55 | 284 => 56 | 285 => 57 | 286 => 58 | 129 => 68 | 317 => 67 | 318 => 69 | 319 => 70 | 320 => 71 | 337 => 75 | 338 => 76 | n => n, fun | 3 => 3 | 9 => 9 | 2 => 2 | 4 => 4 | 171 => 103 | 0 => 0 | 53 => 104 | 37 => 51 | 5 => 5 | 173 => 107 | 212 => 128 | 51 => 96 | 20 => 20 | 213 => 129 | 46 => 130 | 232 => 145 | 233 => 146 | n => n, fun | 17 => 2 | 18 => 6 | 19 => 7 | n => n⟩
theorem laysM171 : Go.Proofs.LaysM.n171 Tryd.prog laysM171_ren := {
  mixed := by kernel_rfl
  f129 := Tryd.func68.trans (congrArg some (by kernel_rfl))
  f171 := Tryd.func20.trans (congrArg some (by kernel_rfl))
  f243 := Tryd.func34.trans (congrArg some (by kernel_rfl))
  f246 := Tryd.func48.trans (congrArg some (by kernel_rfl))
  f283 := Tryd.func55.trans (congrArg some (by kernel_rfl))
  f284 := Tryd.func56.trans (congrArg some (by kernel_rfl))
  f285 := Tryd.func57.trans (congrArg some (by kernel_rfl))
  f286 := Tryd.func58.trans (congrArg some (by kernel_rfl))
  f317 := Tryd.func67.trans (congrArg some (by kernel_rfl))
  f318 := Tryd.func69.trans (congrArg some (by kernel_rfl))
  f319 := Tryd.func70.trans (congrArg some (by kernel_rfl))
  f320 := Tryd.func71.trans (congrArg some (by kernel_rfl))
  f337 := Tryd.func75.trans (congrArg some (by kernel_rfl))
  f338 := Tryd.func76.trans (congrArg some (by kernel_rfl))
  t0 := Tryd.underlying0
  a0 := Tryd.isAgg0
  z0 := Tryd.sizeOf0
  v0 := Tryd.zeroValue0
  t2 := Tryd.underlying2
  a2 := Tryd.isAgg2
  z2 := Tryd.sizeOf2
  v2 := Tryd.zeroValue2
  t3 := Tryd.underlying3
  a3 := Tryd.isAgg3
  z3 := Tryd.sizeOf3
  v3 := Tryd.zeroValue3
  t4 := Tryd.underlying4
  a4 := Tryd.isAgg4
  z4 := Tryd.sizeOf4
  v4 := Tryd.zeroValue4
  t5 := Tryd.underlying5
  a5 := Tryd.isAgg5
  z5 := Tryd.sizeOf5
  v5 := Tryd.zeroValue5
  t9 := Tryd.underlying9
  a9 := Tryd.isAgg9
  z9 := Tryd.sizeOf9
  v9 := Tryd.zeroValue9
  t20 := Tryd.underlying20
  a20 := Tryd.isAgg20
  z20 := Tryd.sizeOf20
  v20 := Tryd.zeroValue20
  t37 := Tryd.underlying51
  a37 := Tryd.isAgg51
  z37 := Tryd.sizeOf51
  v37 := Tryd.zeroValue51
  t46 := Tryd.underlying130
  a46 := Tryd.isAgg130
  z46 := Tryd.sizeOf130
  v46 := Tryd.zeroValue130
  t51 := Tryd.underlying96
  a51 := Tryd.isAgg96
  z51 := Tryd.sizeOf96
  v51 := Tryd.zeroValue96
  t53 := Tryd.underlying104
  a53 := Tryd.isAgg104
  z53 := Tryd.sizeOf104
  v53 := Tryd.zeroValue104
  t171 := Tryd.underlying103
  a171 := Tryd.isAgg103
  z171 := Tryd.sizeOf103
  v171 := Tryd.zeroValue103
  t173 := Tryd.underlying107
  a173 := Tryd.isAgg107
  z173 := Tryd.sizeOf107
  v173 := Tryd.zeroValue107
  t212 := Tryd.underlying128
  a212 := Tryd.isAgg128
  z212 := Tryd.sizeOf128
  v212 := Tryd.zeroValue128
  t213 := Tryd.underlying129
  a213 := Tryd.isAgg129
  z213 := Tryd.sizeOf129
  t232 := Tryd.underlying145
  a232 := Tryd.isAgg145
  z232 := Tryd.sizeOf145
  v232 := Tryd.zeroValue145
  t233 := Tryd.underlying146
  a233 := Tryd.isAgg146
  z233 := Tryd.sizeOf146
  v233 := Tryd.zeroValue146
  g17 := by kernel_rfl
  g18 := by kernel_rfl
  g19 := by kernel_rfl
  i0 := by kernel_rfl
  i2 := by kernel_rfl
  i3 := by kernel_rfl
  i4 := by kernel_rfl
  i5 := by kernel_rfl
  i9 := by kernel_rfl
  i20 := by kernel_rfl
  i37 := by kernel_rfl
  i46 := by kernel_rfl
  i51 := by kernel_rfl
  i53 := by kernel_rfl
  i171 := by kernel_rfl
  i173 := by kernel_rfl
  i212 := by kernel_rfl
  i232 := by kernel_rfl
  i233 := by kernel_rfl
  m17 := by kernel_rfl
  m18 := by kernel_rfl
  m19 := by kernel_rfl }
open Go.RowKit Go.Sort Go.Lib in
theorem strconv_Itoa (n : Int) (h0 : -9223372036854775808 ≤ n) (h1 : n ≤ 9223372036854775807) (w : World) (htab : Lib.TabIs Tryd.prog w "internal/strconv.uint64pow10" .u64 Lib.pow10Tab) :
    Calls Tryd.prog 20 #[.int .i64 n] w fun e w' => e = .returned (.string ⟨(Lib.itoa n).toArray⟩) ∧ ∃ k os, w' = grow (w.drewN k) os := Any.strconv_Itoa laysM171 n h0 h1 w htab
def laysC172_ren : Go.Shelf.Ren := ⟨fun | 172 => 38 | 244 => 51 | 245 => 52 | 247 => 62 | 279 => 63 | 280 => 64 | 281 => 65 | 282 => 66 | 287 => 72 | 316 => 73 | 171 => 20 | 205 => 74 | 321 => 77 | 322 => 78 | 243 => 34 | 246 => 48 | 283 => 55 | 284 => 56 | 285 => 57 | 286 => 58 | 129 => 68 | 317 => 67 | 318 => 69 | 319 => 70 | 320 => 71 | 337 => 75 | 338 => 76 | n => n, fun | 9 => 9 | 3 => 3 | 75 => 57 | 76 => 59 | 4 => 4 | 5 => 5 | 167 => 121 | 37 => 51 | 0 => 0 | 85 => 122 | 2 => 2 | 168 => 124 | 53 => 104 | 175 => 134 | 46 => 130 | 210 => 138 | 127 => 78 | 145 => 144 | 143 => 142 | 21 => 21 | 171 => 103 | 173 => 107 | 212 => 128 | 51 => 96 | 20 => 20 | 213 => 129 | 232 => 145 | 233 => 146 | 80 => 62 | n => n, fun | 15 => 4 | 16 => 5 | 17 => 2 | 18 => 6 | 19 => 7 | n => n⟩
theorem laysC172 : Go.Proofs.LaysC.n172 Tryd.prog laysC172_ren := {
  mixed := by kernel_rfl
  f129 := Tryd.func68.trans (congrArg some (by kernel_rfl))
  f171 := Tryd.func20.trans (congrArg some (by kernel_rfl))
  f172 := Tryd.func38.trans (congrArg some (by kernel_rfl))
  f205 := Tryd.func74.trans (congrArg some (by kernel_rfl))
  f243 := Tryd.func34.trans (congrArg some (by kernel_rfl))
  f244 := Tryd.func51.trans (congrArg some (by kernel_rfl))
  f245 := Tryd.func52.trans (congrArg some (by kernel_rfl))
  f246 := Tryd.func48.trans (congrArg some (by kernel_rfl))
  f247 := Tryd.func62.trans (congrArg some (by kernel_rfl))
  f279 := Tryd.func63.trans (congrArg some (by kernel_rfl))
  f280 := Tryd.func64.trans (congrArg some (by kernel_rfl))
  f281 := Tryd.func65.trans (congrArg some (by kernel_rfl))
  f282 := Tryd.func66.trans (congrArg some (by kernel_rfl))
  f283 := Tryd.func55.trans (congrArg some (by kernel_rfl))
  f284 := Tryd.func56.trans (congrArg some (by kernel_rfl))
  f285 := Tryd.func57.trans (congrArg some (by kernel_rfl))
  f286 := Tryd.func58.trans (congrArg some (by kernel_rfl))
  f287 := Tryd.func72.trans (congrArg some (by kernel_rfl))
  f316 := Tryd.func73.trans (congrArg some (by kernel_rfl))
  f317 := Tryd.func67.trans (congrArg some (by kernel_rfl))
  f318 := Tryd.func69.trans (congrArg some (by kernel_rfl))
  f319 := Tryd.func70.trans (congrArg some (by kernel_rfl))
  f320 := Tryd.func71.trans (congrArg some (by kernel_rfl))
  f321 := Tryd.func77.trans (congrArg some (by kernel_rfl))
  f322 := Tryd.func78.trans (congrArg some (by kernel_rfl))
  f337 := Tryd.func75.trans (congrArg some (by kernel_rfl))
  f338 := Tryd.func76.trans (congrArg some (by kernel_rfl))
  t0 := Tryd.underlying0
  a0 := Tryd.isAgg0
  z0 := Tryd.sizeOf0
  v0 := Tryd.zeroValue0
  t2 := Tryd.underlying2
  a2 := Tryd.isAgg2
  z2 := Tryd.sizeOf2
  v2 := Tryd.zeroValue2
  t3 := Tryd.underlying3
  a3 := Tryd.isAgg3
  z3 := Tryd.sizeOf3
  v3 := Tryd.zeroValue3
  t4 := Tryd.underlying4
  a4 := Tryd.isAgg4
  z4 := Tryd.sizeOf4
  v4 := Tryd.zeroValue4
  t5 := Tryd.underlying5
  a5 := Tryd.isAgg5
  z5 := Tryd.sizeOf5
  v5 := Tryd.zeroValue5
  t9 := Tryd.underlying9
  a9 := Tryd.isAgg9
  z9 := Tryd.sizeOf9
  v9 := Tryd.zeroValue9
  t20 := Tryd.underlying20
  a20 := Tryd.isAgg20
  z20 := Tryd.sizeOf20
  v20 := Tryd.zeroValue20
  t21 := Tryd.underlying21
  a21 := Tryd.isAgg21
  z21 := Tryd.sizeOf21
  v21 := Tryd.zeroValue21
  t37 := Tryd.underlying51
  a37 := Tryd.isAgg51
  z37 := Tryd.sizeOf51
  v37 := Tryd.zeroValue51
  t46 := Tryd.underlying130
  a46 := Tryd.isAgg130
  z46 := Tryd.sizeOf130
  v46 := Tryd.zeroValue130
  t51 := Tryd.underlying96
  a51 := Tryd.isAgg96
  z51 := Tryd.sizeOf96
  v51 := Tryd.zeroValue96
  t53 := Tryd.underlying104
  a53 := Tryd.isAgg104
  z53 := Tryd.sizeOf104
  v53 := Tryd.zeroValue104
  t75 := Tryd.underlying57
  a75 := Tryd.isAgg57
  z75 := Tryd.sizeOf57
  v75 := Tryd.zeroValue57
  t76 := Tryd.underlying59
  a76 := Tryd.isAgg59
  z76 := Tryd.sizeOf59
  v76 := Tryd.zeroValue59
  t85 := Tryd.underlying122
  a85 := Tryd.isAgg122
  z85 := Tryd.sizeOf122
  v85 := Tryd.zeroValue122
  t127 := Tryd.underlying78
  a127 := Tryd.isAgg78
  z127 := Tryd.sizeOf78
  v127 := Tryd.zeroValue78
  t143 := Tryd.underlying142
  a143 := Tryd.isAgg142
  z143 := Tryd.sizeOf142
  v143 := Tryd.zeroValue142
  t145 := Tryd.underlying144
  a145 := Tryd.isAgg144
  z145 := Tryd.sizeOf144
  v145 := Tryd.zeroValue144
  t167 := Tryd.underlying121
  a167 := Tryd.isAgg121
  z167 := Tryd.sizeOf121
  v167 := Tryd.zeroValue121
  t168 := Tryd.underlying124
  a168 := Tryd.isAgg124
  z168 := Tryd.sizeOf124
  v168 := Tryd.zeroValue124
  t171 := Tryd.underlying103
  a171 := Tryd.isAgg103
  z171 := Tryd.sizeOf103
  v171 := Tryd.zeroValue103
  t173 := Tryd.underlying107
  a173 := Tryd.isAgg107
  z173 := Tryd.sizeOf107
  v173 := Tryd.zeroValue107
  t175 := Tryd.underlying134
  a175 := Tryd.isAgg134
  z175 := Tryd.sizeOf134
  v175 := Tryd.zeroValue134
  t210 := Tryd.underlying138
  a210 := Tryd.isAgg138
  z210 := Tryd.sizeOf138
  v210 := Tryd.zeroValue138
  t212 := Tryd.underlying128
  a212 := Tryd.isAgg128
  z212 := Tryd.sizeOf128
  v212 := Tryd.zeroValue128
  t213 := Tryd.underlying129
  a213 := Tryd.isAgg129
  z213 := Tryd.sizeOf129
  t232 := Tryd.underlying145
  a232 := Tryd.isAgg145
  z232 := Tryd.sizeOf145
  v232 := Tryd.zeroValue145
  t233 := Tryd.underlying146
  a233 := Tryd.isAgg146
  z233 := Tryd.sizeOf146
  v233 := Tryd.zeroValue146
  g15 := by kernel_rfl
  g16 := by kernel_rfl
  g17 := by kernel_rfl
  g18 := by kernel_rfl
  g19 := by kernel_rfl
  t80 := Tryd.underlying62
  a80 := Tryd.isAgg62
  z80 := Tryd.sizeOf62
  v80 := Tryd.zeroValue62
  i0 := by kernel_rfl
  i2 := by kernel_rfl
  i3 := by kernel_rfl
  i4 := by kernel_rfl
  i5 := by kernel_rfl
  i9 := by kernel_rfl
  i20 := by kernel_rfl
  i21 := by kernel_rfl
  i37 := by kernel_rfl
  i46 := by kernel_rfl
  i51 := by kernel_rfl
  i53 := by kernel_rfl
  i75 := by kernel_rfl
  i76 := by kernel_rfl
  i80 := by kernel_rfl
  i85 := by kernel_rfl
  i127 := by kernel_rfl
  i143 := by kernel_rfl
  i145 := by kernel_rfl
  i167 := by kernel_rfl
  i168 := by kernel_rfl
  i171 := by kernel_rfl
  i173 := by kernel_rfl
  i175 := by kernel_rfl
  i210 := by kernel_rfl
  i212 := by kernel_rfl
  i232 := by kernel_rfl
  i233 := by kernel_rfl
  m15 := by kernel_rfl
  m16 := by kernel_rfl
  m17 := by kernel_rfl
  m18 := by kernel_rfl
  m19 := by kernel_rfl
  c0 := by kernel_rfl
  c2 := by kernel_rfl
  c3 := by kernel_rfl
  c4 := by kernel_rfl
  c5 := by kernel_rfl
  c9 := by kernel_rfl
  c20 := by kernel_rfl
  c21 := by kernel_rfl
  c37 := by kernel_rfl
  c46 := by kernel_rfl
  c51 := by kernel_rfl
  c53 := by kernel_rfl
  c75 := by kernel_rfl
  c76 := by kernel_rfl
  c80 := by kernel_rfl
  c85 := by kernel_rfl
  c127 := by kernel_rfl
  c143 := by kernel_rfl
  c145 := by kernel_rfl
  c167 := by kernel_rfl
  c168 := by kernel_rfl
  c171 := by kernel_rfl
  c173 := by kernel_rfl
  c175 := by kernel_rfl
  c210 := by kernel_rfl
  c212 := by kernel_rfl
  c213 := by kernel_rfl
  c232 := by kernel_rfl
  c233 := by kernel_rfl }
open Go.RowKit in
theorem strconv_Atoi_ok (s : ByteArray) (hmax : s.size ≤ 9223372036854775806) (v : Int) (h : Lib.atoiAll s.data.toList = .ok v) (w : World) :
    Calls Tryd.prog 38 #[.string s] w fun e w' => e = .returned (.tuple #[.int .i64 v, .nilIface]) ∧ (w' = w ∨ ∃ t, w' = Lib.bytesWorld w 5 t) := Any.strconv_Atoi_ok laysC172 s hmax v h w
open Go.RowKit in
theorem strconv_Atoi_bad (s : ByteArray) (hlim : s.size ≤ 281474976710656) (h : Lib.atoiAll s.data.toList = Lib.atoiAll []) (ev : Value) (w : World) (hv : w.cell? ⟨4, 0, none⟩ = some ev) (hev : ev = .nilIface ∨ ∃ te pe, ev = .iface te pe) :
    Calls Tryd.prog 38 #[.string s] w fun e w' => ∃ N, e = .returned (.tuple #[.int .i64 (0), .iface 124 (.pointer (some ⟨N, 0, none⟩))]) ∧ w.heap.size ≤ N ∧ w'.heap[N]? = some (.cells #[.string ⟨#[65, 116, 111, 105]⟩, .string s, ev] 138 (0, 0)) ∧ Below w.heap.size w w' := Any.strconv_Atoi_syntax laysC172 s hlim h ev w hv hev
open Go.RowKit in
theorem strconv_Atoi_range (s : ByteArray) (hlim : s.size ≤ 281474976710656) (h : Lib.atoiAll s.data.toList = .range) (ev : Value) (w : World) (hv : w.cell? ⟨5, 0, none⟩ = some ev) (hev : ev = .nilIface ∨ ∃ te pe, ev = .iface te pe) :
    Calls Tryd.prog 38 #[.string s] w fun e w' => ∃ N, e = .returned (.tuple #[.int .i64 (Lib.atoiSat s.data.toList), .iface 124 (.pointer (some ⟨N, 0, none⟩))]) ∧ w.heap.size ≤ N ∧ w'.heap[N]? = some (.cells #[.string ⟨#[65, 116, 111, 105]⟩, .string s, ev] 138 (0, 0)) ∧ Below w.heap.size w w' := Any.strconv_Atoi_range laysC172 s hlim h ev w hv hev
def lays157_ren : Go.Shelf.Ren := ⟨fun | 157 => 24 | 229 => 36 | 199 => 37 | 261 => 50 | 311 => 60 | 312 => 61 | n => n, fun | 9 => 9 | 31 => 49 | 3 => 3 | 5 => 5 | 4 => 4 | 119 => 80 | 0 => 0 | 40 => 82 | 152 => 93 | 21 => 21 | 154 => 95 | 51 => 96 | 141 => 98 | 196 => 113 | 193 => 110 | 198 => 116 | 49 => 114 | 194 => 111 | 201 => 119 | 226 => 132 | 46 => 130 | 227 => 133 | n => n, fun | 0 => 0 | 6 => 1 | n => n⟩
theorem lays157 : Go.Proofs.Lays.n157 Tryd.prog lays157_ren := {
  mixed := by kernel_rfl
  f157 := Tryd.func24.trans (congrArg some (by kernel_rfl))
  f199 := Tryd.func37.trans (congrArg some (by kernel_rfl))
  f229 := Tryd.func36.trans (congrArg some (by kernel_rfl))
  f261 := Tryd.func50.trans (congrArg some (by kernel_rfl))
  f311 := Tryd.func60.trans (congrArg some (by kernel_rfl))
  f312 := Tryd.func61.trans (congrArg some (by kernel_rfl))
  t0 := Tryd.underlying0
  a0 := Tryd.isAgg0
  z0 := Tryd.sizeOf0
  v0 := Tryd.zeroValue0
  t3 := Tryd.underlying3
  a3 := Tryd.isAgg3
  z3 := Tryd.sizeOf3
  v3 := Tryd.zeroValue3
  t4 := Tryd.underlying4
  a4 := Tryd.isAgg4
  z4 := Tryd.sizeOf4
  v4 := Tryd.zeroValue4
  t5 := Tryd.underlying5
  a5 := Tryd.isAgg5
  z5 := Tryd.sizeOf5
  v5 := Tryd.zeroValue5
  t9 := Tryd.underlying9
  a9 := Tryd.isAgg9
  z9 := Tryd.sizeOf9
  v9 := Tryd.zeroValue9
  t21 := Tryd.underlying21
  a21 := Tryd.isAgg21
  z21 := Tryd.sizeOf21
  v21 := Tryd.zeroValue21
  t31 := Tryd.underlying49
  a31 := Tryd.isAgg49
  z31 := Tryd.sizeOf49
  v31 := Tryd.zeroValue49
  t40 := Tryd.underlying82
  a40 := Tryd.isAgg82
  z40 := Tryd.sizeOf82
  v40 := Tryd.zeroValue82
  t46 := Tryd.underlying130
  a46 := Tryd.isAgg130
  z46 := Tryd.sizeOf130
  v46 := Tryd.zeroValue130
  t49 := Tryd.underlying114
  a49 := Tryd.isAgg114
  z49 := Tryd.sizeOf114
  v49 := Tryd.zeroValue114
  t51 := Tryd.underlying96
  a51 := Tryd.isAgg96
  z51 := Tryd.sizeOf96
  v51 := Tryd.zeroValue96
  t119 := Tryd.underlying80
  a119 := Tryd.isAgg80
  z119 := Tryd.sizeOf80
  t141 := Tryd.underlying98
  a141 := Tryd.isAgg98
  z141 := Tryd.sizeOf98
  v141 := Tryd.zeroValue98
  t152 := Tryd.underlying93
  a152 := Tryd.isAgg93
  z152 := Tryd.sizeOf93
  v152 := Tryd.zeroValue93
  t154 := Tryd.underlying95
  a154 := Tryd.isAgg95
  z154 := Tryd.sizeOf95
  v154 := Tryd.zeroValue95
  t193 := Tryd.underlying110
  a193 := Tryd.isAgg110
  z193 := Tryd.sizeOf110
  v193 := Tryd.zeroValue110
  t194 := Tryd.underlying111
  a194 := Tryd.isAgg111
  z194 := Tryd.sizeOf111
  v194 := Tryd.zeroValue111
  t196 := Tryd.underlying113
  a196 := Tryd.isAgg113
  z196 := Tryd.sizeOf113
  v196 := Tryd.zeroValue113
  t198 := Tryd.underlying116
  a198 := Tryd.isAgg116
  z198 := Tryd.sizeOf116
  v198 := Tryd.zeroValue116
  t201 := Tryd.underlying119
  a201 := Tryd.isAgg119
  z201 := Tryd.sizeOf119
  v201 := Tryd.zeroValue119
  t226 := Tryd.underlying132
  a226 := Tryd.isAgg132
  z226 := Tryd.sizeOf132
  v226 := Tryd.zeroValue132
  t227 := Tryd.underlying133
  a227 := Tryd.isAgg133
  z227 := Tryd.sizeOf133
  v227 := Tryd.zeroValue133
  g0 := by kernel_rfl
  g6 := by kernel_rfl }
open Go.RowKit Go.Lib in
theorem strings_Fields_any (s : ByteArray) (w : World) (hs : s.size < 4294967281) (htab : Lib.TabIs Tryd.prog w "strings.asciiSpace" .u8 Lib.asciiSpaceTab) (hW : Lib.WhiteTab 1 w) :
    Calls Tryd.prog 24 #[.string s] w fun e w' => ∃ A, e = .returned (.slice (some ⟨A, 0, none⟩) (Lib.fieldsD s.data.toList).length (Lib.fieldsD s.data.toList).length) ∧ w.heap.size ≤ A ∧
      w'.ownsRow w.heap.size 9 1 (.slice (some ⟨A, 0, none⟩) (Lib.fieldsD s.data.toList).length (Lib.fieldsD s.data.toList).length) (Lib.fieldsD s.data.toList).length ((Lib.fieldsD s.data.toList).map fun x => Value.string ⟨x.toArray⟩) ∧ Below w.heap.size w w' := Any.strings_Fields_any lays157 (by kernel_rfl) (by kernel_rfl) (by kernel_rfl) s w hs htab hW
end Go.Proofs.YtjmapbmdfbdomaaDoor



/- The hooks are sound, in every world that holds what the row lists. -/
namespace Go.Proofs.YtjmapbmdfbdomaaDoor
open Go.Ab
set_option linter.unusedVariables false

/-- What the package variables hold. -/
structure Facts (W : World) : Prop where
  syn : ∃ t v, W.cell? ⟨4, 0, none⟩ = some (.iface t v)
  rng : ∃ t v, W.cell? ⟨5, 0, none⟩ = some (.iface t v)
  pow : Lib.TabIs Tryd.prog W "internal/strconv.uint64pow10" .u64 Lib.pow10Tab
  asc : Lib.TabIs Tryd.prog W "strings.asciiSpace" .u8 Lib.asciiSpaceTab
  wht : Lib.WhiteTab 1 W

theorem white_agree {g : Nat} {W w : World} (h : Agree W w) (hw : Lib.WhiteTab g W) : Lib.WhiteTab g w := by
  obtain ⟨T, oT, R, oR, h1, h2, h3, h4, h5⟩ := hw
  exact ⟨T, oT, R, oR, h.cell h1, h.cell h2, h.cell h3, h.cell h4, fun i hi => h.cell (h5 i hi)⟩

abbrev BW (W : World) : Base := ⟨W.heap.size, W⟩
theorem ok_join (W : World) : @HkOK (BW W) Tryd.prog 22 joinHook := by
  letI : Base := BW W
  exact joinHook_ok (by kernel_rfl) strings_Join_none strings_Join
section
variable (W : World) (hF : Facts W)
include hF
theorem ok_fields : @HkOK (BW W) Tryd.prog 24 fieldsHook := by
  letI : Base := BW W
  exact fieldsHook_ok (t := 9) (Q := fun w => Agree W w) (by kernel_rfl) (fun w hw => hw) fun s w hs ha => strings_Fields_any s w hs (ha.tab hF.asc) (white_agree ha hF.wht)
theorem ok_atoi : @HkOK (BW W) Tryd.prog 38 atoiHook := by
  letI : Base := BW W
  have hs := hF.syn
  have hr := hF.rng
  refine atoiHook_ok (te := 124) (ty := 5) (by kernel_rfl) ⟨?_, hs⟩ ⟨?_, hr⟩ (fun s h1 v h2 w => strconv_Atoi_ok s h1 v h2 w) (fun s h1 h2 ev w h3 h4 => ⟨fun _ _ _ => True, (strconv_Atoi_bad s h1 h2 ev w h3 h4).mono fun e w' ⟨N, a, b, _, d⟩ => ⟨N, a, b, trivial, d⟩⟩) (fun s h1 h2 ev w h3 h4 => ⟨fun _ _ _ => True, (strconv_Atoi_range s h1 h2 ev w h3 h4).mono fun e w' ⟨N, a, b, _, d⟩ => ⟨N, a, b, trivial, d⟩⟩)
  · obtain ⟨t, v, hc⟩ := hs; exact lt_of_cell hc
  · obtain ⟨t, v, hc⟩ := hr; exact lt_of_cell hc
theorem ok_itoa : @HkOK (BW W) Tryd.prog 20 itoaHook := by
  letI : Base := BW W
  exact itoaHook_ok (g := 2) (nm := "internal/strconv.uint64pow10") (by kernel_rfl) (lt_of_tab (by kernel_rfl) hF.pow) (by kernel_rfl) hF.pow fun n h1 h2 w h3 => strconv_Itoa n h1 h2 w h3
theorem HKs_ok : @HKok (BW W) Tryd.prog HKs := by
  letI : Base := BW W
  intro f g h
  unfold HKs at h
  split at h
  · rename_i hf; simp only [Option.some.injEq] at h; subst hf h; exact ok_join W
  split at h
  · rename_i hf; simp only [Option.some.injEq] at h; subst hf h; exact (ok_fields W hF).less fieldsHookA_less
  split at h
  · rename_i hf; simp only [Option.some.injEq] at h; subst hf h; exact ok_atoi W hF
  split at h
  · rename_i hf; simp only [Option.some.injEq] at h; subst hf h; exact (ok_itoa W hF).less itoaHookA_less
  · exact HK0_ok f g h
theorem HKt_ok : @HKok (BW W) Tryd.prog HKt := by
  letI : Base := BW W
  intro f g h
  unfold HKt at h
  split at h
  · rename_i hf; simp only [Option.some.injEq] at h; subst hf h; exact ok_join W
  split at h
  · rename_i hf; simp only [Option.some.injEq] at h; subst hf h; exact ok_fields W hF
  split at h
  · rename_i hf; simp only [Option.some.injEq] at h; subst hf h; exact ok_atoi W hF
  split at h
  · rename_i hf; simp only [Option.some.injEq] at h; subst hf h; exact ok_itoa W hF
  split at h
  · rename_i hf; simp only [Option.some.injEq] at h; subst hf h; exact awake_ok (HKs_ok W hF)
  · exact HK0_ok f g h
end
end Go.Proofs.YtjmapbmdfbdomaaDoor

