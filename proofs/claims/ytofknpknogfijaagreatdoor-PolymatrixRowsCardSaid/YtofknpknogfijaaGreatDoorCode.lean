/- The annotated code of this seat,printed by program (mkseat.py). -/
import Derived.Test.YtofknpknogfijaaGreatDoorProg
import Derived.KernelRfl
import Derived.Test.YtofknpknogfijaaGreatDoorAb17
namespace Go.Proofs.YtofknpknogfijaaGreatDoor
open Go.Ab
abbrev zm (d s:Nat):AOp:=⟨some d,.mv (.t s),none⟩
abbrev zo (d:Nat) (k:AK):AOp:=⟨some d,k,none⟩
abbrev zK (n:Int):AO:=.k (.sc (.int .i64 n))
def b4L0:AC :=
 .seq (.seq (.reg [zm 101 20,zm 102 9,zo 103 (.bin .lss (.t 101) (.t 102))] [9,10,11,12,13,14,15,16,17,18,19,20,103])
 (.cond (.t 103)
 (.skip)
 (.exit 0)))
 (.seq (.block 1 (.seq (.regd [(zm 106 15,0,false),
 (zm 107 20,1,false),
 (zo 108 (.idxA 1 (.t 106) (.t 107)),2,false),
 (zo 109 (.ld 1 false (.t 108)),3,false),
 (zm 110 10,4,false),
 (zm 111 15,5,false),
 (zm 112 20,6,false),
 (zo 113 (.idxA 1 (.t 111) (.t 112)),7,false),
 (zo 114 (.ld 1 false (.t 113)),8,false),
 (zm 115 11,9,false),
 (zm 116 15,10,false),
 (zm 117 20,11,false),
 (zo 118 (.idxA 1 (.t 116) (.t 117)),12,false),
 (zo 119 (.ld 1 false (.t 118)),13,false),
 (zm 120 11,14,false),
 (zo 121 (.idxA 2 (.t 119) (.t 120)),15,false),
 (zo 122 (.ld 2 true (.t 121)),16,false),
 (zm 123 15,17,false),
 (zm 124 20,18,false),
 (zo 125 (.idxA 1 (.t 123) (.t 124)),19,false),
 (zo 126 (.ld 1 false (.t 125)),20,false),
 (zm 127 10,21,false),
 (zo 128 (.idxA 2 (.t 126) (.t 127)),22,false),
 (zo 129 (.ld 2 true (.t 128)),23,false),
 (zo 130 (.idxA 2 (.t 109) (.t 110)),24,false),
 (⟨none,.st 2 (.t 130) (.t 122),none⟩,25,true),
 (zo 131 (.idxA 2 (.t 114) (.t 115)),26,false),
 (⟨none,.st 2 (.t 131) (.t 129),none⟩,27,true)] [9,10,11,12,13,14,15,16,17,18,19,20])
 (.seq (.regd [(zm 132 16,0,false),
 (zm 133 10,1,false),
 (zo 134 (.idxA 1 (.t 132) (.t 133)),2,false),
 (zo 135 (.ld 1 false (.t 134)),3,false),
 (zm 136 20,4,false),
 (zm 137 16,5,false),
 (zm 138 10,6,false),
 (zo 139 (.idxA 1 (.t 137) (.t 138)),7,false),
 (zo 140 (.ld 1 false (.t 139)),8,false),
 (zm 141 20,9,false),
 (zo 142 (.idxA 2 (.t 140) (.t 141)),10,false),
 (zo 143 (.ld 2 true (.t 142)),11,false),
 (zm 144 16,12,false),
 (zm 145 11,13,false),
 (zo 146 (.idxA 1 (.t 144) (.t 145)),14,false),
 (zo 147 (.ld 1 false (.t 146)),15,false),
 (zm 148 20,16,false),
 (zo 149 (.idxA 2 (.t 147) (.t 148)),17,false),
 (zo 150 (.ld 2 true (.t 149)),18,false),
 (zo 151 (.call 21 [(.t 143),(.t 150)]),19,false),
 (zo 152 (.idxA 2 (.t 135) (.t 136)),20,false),
 (⟨none,.st 2 (.t 152) (.t 151),none⟩,21,true)] [9,10,11,12,13,14,15,16,17,18,19,20])
 (.seq (.regd [(zm 153 17,0,false),
 (zm 154 10,1,false),
 (zo 155 (.idxA 1 (.t 153) (.t 154)),2,false),
 (zo 156 (.ld 1 false (.t 155)),3,false),
 (zm 157 20,4,false),
 (zm 158 17,5,false),
 (zm 159 11,6,false),
 (zo 160 (.idxA 1 (.t 158) (.t 159)),7,false),
 (zo 161 (.ld 1 false (.t 160)),8,false),
 (zm 162 20,9,false),
 (zo 163 (.idxA 2 (.t 161) (.t 162)),10,false),
 (zo 164 (.ld 2 true (.t 163)),11,false),
 (zo 165 (.idxA 2 (.t 156) (.t 157)),12,false),
 (⟨none,.st 2 (.t 165) (.t 164),none⟩,13,true)] [9,10,11,12,13,14,15,16,17,18,19,20])
 (.regd [(zm 166 18,0,false),
 (zm 167 10,1,false),
 (zo 168 (.idxA 1 (.t 166) (.t 167)),2,false),
 (zo 169 (.ld 1 false (.t 168)),3,false),
 (zm 170 20,4,false),
 (zm 171 18,5,false),
 (zm 172 10,6,false),
 (zo 173 (.idxA 1 (.t 171) (.t 172)),7,false),
 (zo 174 (.ld 1 false (.t 173)),8,false),
 (zm 175 20,9,false),
 (zo 176 (.idxA 2 (.t 174) (.t 175)),10,false),
 (zo 177 (.ld 2 true (.t 176)),11,false),
 (zo 178 (.ld 2 true (.t 19)),12,false),
 (zo 179 (.call 22 [(.t 177),(.t 178)]),13,false),
 (zo 180 (.idxA 2 (.t 169) (.t 170)),14,false),
 (⟨none,.st 2 (.t 180) (.t 179),none⟩,15,true)] [9,10,11,12,13,14,15,16,17,18,19,20])))))
 (.reg [zm 104 20,zo 105 (.bin .add (.t 104) (zK 1)),zm 20 105] [9,10,11,12,13,14,15,16,17,18,19,20]))
def b4:AC :=
 .seq (.reg [zo 7 (.box (.t 3)),zo 8 (.mv (.k (.sc (.bool false))))] [0,1,2,7])
 (.seq (.seq (.reg [zo 31 (.call 9 []),zo 32 (.un .not (.t 31))] [0,1,2,7,32])
 (.cond (.t 32)
 (.seq (.reg [⟨some 8, .mv (.k (.sc (.bool false))), none⟩] [8])
 (.ret))
 (.skip)))
 (.seq (.reg [zm 33 0,zo 34 (.len false (.t 33)),zm 9 34] [0,1,2,7,9])
 (.seq (.seq (.reg [zm 35 0,zo 36 (.call 10 [(.t 35),(zK 4)]),zo 37 (.bin .eql (.t 36) (zK 0)),zm 38 37,⟨some 39,.mv (.t 0),(some (38,false))⟩,⟨some 40,.call 13 [(.t 39)],(some (38,false))⟩,⟨some 41,.un .not (.t 40),(some (38,false))⟩,zo 42 (.pick (.t 38) (.k (.sc (.bool true))) (.t 41)),zm 43 42,⟨some 44,.mv (.t 9),(some (43,false))⟩,⟨some 45,.bin .lss (.t 44) (zK 2),(some (43,false))⟩,zo 46 (.pick (.t 43) (.k (.sc (.bool true))) (.t 45)),zm 47 46,⟨some 48,.ld 2 true (.t 7),(some (47,false))⟩,⟨some 49,.call 19 [(.t 48)],(some (47,false))⟩,⟨some 50,.bin .eql (.t 49) (zK 0),(some (47,false))⟩,zo 51 (.pick (.t 47) (.k (.sc (.bool true))) (.t 50))] [0,1,2,7,9,51])
 (.cond (.t 51)
 (.seq (.reg [⟨some 8, .mv (.k (.sc (.bool true))), none⟩] [8])
 (.ret))
 (.skip)))
 (.seq (.reg [zm 52 1,zo 53 (.conv .i64 (.t 52)),zm 54 9,zo 55 (.bin .rem (.t 53) (.t 54)),zm 10 55] [0,2,7,9,10])
 (.seq (.reg [zm 56 10,zo 57 (.bin .add (.t 56) (zK 1)),zm 58 2,zo 59 (.conv .i64 (.t 58)),zm 60 9,zo 61 (.bin .sub (.t 60) (zK 1)),zo 62 (.bin .rem (.t 59) (.t 61)),zo 63 (.bin .add (.t 57) (.t 62)),zm 64 9,zo 65 (.bin .rem (.t 63) (.t 64)),zm 11 65] [0,7,9,10,11])
 (.seq (.reg [zm 67 0,zo 68 (.call 12 [(.t 67)]),zo 69 (.call 11 [(.t 68)]),zm 66 69,zo 70 (.ext (.t 66) 0),zo 71 (.ext (.t 66) 1),zo 12 (.new [.bool false,.nilS]),⟨none,.st 2 (.t 12) (.t 70),none⟩,zm 13 71] [0,7,9,10,11,12,13])
 (.seq (.reg [zm 72 0,zo 73 (.call 12 [(.t 72)]),zm 74 0,zo 75 (.call 12 [(.t 74)]),zm 76 0,zo 77 (.call 12 [(.t 76)]),zm 78 0,zo 79 (.call 12 [(.t 78)]),zm 80 0,zo 81 (.call 12 [(.t 80)]),zm 14 73,zm 15 75,zm 16 77,zm 17 79,zm 18 81] [7,9,10,11,12,13,14,15,16,17,18])
 (.seq (.regd [(zm 82 14,0,false),
 (zm 83 10,1,false),
 (zm 84 14,2,false),
 (zm 85 11,3,false),
 (zm 86 14,4,false),
 (zm 87 11,5,false),
 (zo 88 (.idxA 1 (.t 86) (.t 87)),6,false),
 (zo 89 (.ld 1 false (.t 88)),7,false),
 (zm 90 14,8,false),
 (zm 91 10,9,false),
 (zo 92 (.idxA 1 (.t 90) (.t 91)),10,false),
 (zo 93 (.ld 1 false (.t 92)),11,false),
 (zo 94 (.idxA 1 (.t 82) (.t 83)),12,false),
 (⟨none,.st 1 (.t 94) (.t 89),none⟩,13,true),
 (zo 95 (.idxA 1 (.t 84) (.t 85)),14,false),
 (⟨none,.st 1 (.t 95) (.t 93),none⟩,15,true)] [7,9,10,11,12,13,14,15,16,17,18])
 (.seq (.reg [zo 96 (.fldA 0 (.t 7)),zo 97 (.ld 1 false (.t 96)),zo 98 (.fldA 1 (.t 7)),zo 99 (.ld 1 false (.t 98)),zo 100 (.call 20 [(.t 97),(.t 99)]),zo 19 (.new [.bool false,.nilS]),⟨none,.st 2 (.t 19) (.t 100),none⟩] [9,10,11,12,13,14,15,16,17,18,19])
 (.seq (.seq (.reg [zo 20 (.mv (zK 0))] [9,10,11,12,13,14,15,16,17,18,19,20])
 (.block 0 (.loop [9,10,11,12,13,14,15,16,17,18,19,20] b4L0)))
 (.seq (.reg [zm 182 14,zo 183 (.call 11 [(.t 182)]),zm 181 183,zo 184 (.ext (.t 181) 0),zo 185 (.ext (.t 181) 1),zo 21 (.new [.bool false,.nilS]),⟨none,.st 2 (.t 21) (.t 184),none⟩,zm 22 185] [12,13,15,16,17,18,19,21,22])
 (.seq (.reg [zm 187 15,zo 188 (.call 11 [(.t 187)]),zm 186 188,zo 189 (.ext (.t 186) 0),zo 190 (.ext (.t 186) 1),zo 23 (.new [.bool false,.nilS]),⟨none,.st 2 (.t 23) (.t 189),none⟩,zm 24 190] [12,13,16,17,18,19,21,22,23,24])
 (.seq (.reg [zm 192 16,zo 193 (.call 11 [(.t 192)]),zm 191 193,zo 194 (.ext (.t 191) 0),zo 195 (.ext (.t 191) 1),zo 25 (.new [.bool false,.nilS]),⟨none,.st 2 (.t 25) (.t 194),none⟩,zm 26 195] [12,13,17,18,19,21,22,23,24,25,26])
 (.seq (.reg [zm 197 17,zo 198 (.call 11 [(.t 197)]),zm 196 198,zo 199 (.ext (.t 196) 0),zo 200 (.ext (.t 196) 1),zo 27 (.new [.bool false,.nilS]),⟨none,.st 2 (.t 27) (.t 199),none⟩,zm 28 200] [12,13,18,19,21,22,23,24,25,26,27,28])
 (.seq (.reg [zm 202 18,zo 203 (.call 11 [(.t 202)]),zm 201 203,zo 204 (.ext (.t 201) 0),zo 205 (.ext (.t 201) 1),zo 29 (.new [.bool false,.nilS]),⟨none,.st 2 (.t 29) (.t 204),none⟩,zm 30 205] [12,13,19,21,22,23,24,25,26,27,28,29,30])
 (.seq (.seq (.reg [zm 206 13,zo 207 (.bin .neq (.t 206) (zK 0)),zm 208 207,⟨some 209,.mv (.t 22),(some (208,false))⟩,⟨some 210,.bin .neq (.t 209) (zK 0),(some (208,false))⟩,zo 211 (.pick (.t 208) (.k (.sc (.bool true))) (.t 210)),zm 212 211,⟨some 213,.mv (.t 24),(some (212,false))⟩,⟨some 214,.bin .neq (.t 213) (zK 0),(some (212,false))⟩,zo 215 (.pick (.t 212) (.k (.sc (.bool true))) (.t 214)),zm 216 215,⟨some 217,.mv (.t 26),(some (216,false))⟩,⟨some 218,.bin .neq (.t 217) (zK 0),(some (216,false))⟩,zo 219 (.pick (.t 216) (.k (.sc (.bool true))) (.t 218)),zm 220 219,⟨some 221,.mv (.t 28),(some (220,false))⟩,⟨some 222,.bin .neq (.t 221) (zK 0),(some (220,false))⟩,zo 223 (.pick (.t 220) (.k (.sc (.bool true))) (.t 222))] [12,19,21,23,25,27,29,30,223])
 (.cond (.t 223)
 (.seq (.reg [⟨some 8, .mv (.k (.sc (.bool false))), none⟩] [8])
 (.ret))
 (.skip)))
 (.seq (.regd [(zo 224 (.ld 2 true (.t 21)),0,false),
 (zo 225 (.ld 2 true (.t 12)),1,false),
 (zo 226 (.call 24 [(.t 225)]),2,false),
 (zo 227 (.call 23 [(.t 224),(.t 226)]),3,true),
 (zm 228 227,4,false),
 (⟨some 229,.ld 2 true (.t 23),(some (228,true))⟩,5,false),
 (⟨some 230,.ld 2 true (.t 12),(some (228,true))⟩,6,false),
 (⟨some 231,.call 24 [(.t 230)],(some (228,true))⟩,7,false),
 (⟨some 232,.call 23 [(.t 229),(.t 231)],(some (228,true))⟩,8,true),
 (zo 233 (.pick (.t 228) (.t 232) (.k (.sc (.bool false)))),9,false),
 (zm 234 233,10,false),
 (⟨some 235,.ld 2 true (.t 25),(some (234,true))⟩,11,false),
 (⟨some 236,.ld 2 true (.t 12),(some (234,true))⟩,12,false),
 (⟨some 237,.call 23 [(.t 235),(.t 236)],(some (234,true))⟩,13,true),
 (zo 238 (.pick (.t 234) (.t 237) (.k (.sc (.bool false)))),14,false),
 (zm 239 238,15,false),
 (⟨some 240,.ld 2 true (.t 27),(some (239,true))⟩,16,true),
 (⟨some 241,.call 14 [(.t 240)],(some (239,true))⟩,17,true),
 (zo 242 (.pick (.t 239) (.t 241) (.k (.sc (.bool false)))),18,false),
 (zm 243 242,19,false),
 (⟨some 244,.mv (.t 30),(some (243,true))⟩,20,false),
 (⟨some 245,.bin .eql (.t 244) (zK 9),(some (243,true))⟩,21,false),
 (⟨some 246,.mv (.t 245),(some (243,true))⟩,22,false),
 (⟨some 247,.mv (.t 30),(some (246,false))⟩,23,false),
 (⟨some 248,.bin .eql (.t 247) (zK 0),(some (246,false))⟩,24,false),
 (⟨some 249,.mv (.t 248),(some (246,false))⟩,25,false),
 (⟨some 250,.ld 2 true (.t 29),(some (249,true))⟩,26,false),
 (⟨some 251,.ld 2 true (.t 12),(some (249,true))⟩,27,false),
 (⟨some 252,.ld 2 true (.t 19),(some (249,true))⟩,28,false),
 (⟨some 253,.call 22 [(.t 251),(.t 252)],(some (249,true))⟩,29,false),
 (⟨some 254,.call 23 [(.t 250),(.t 253)],(some (249,true))⟩,30,true),
 (⟨some 255,.pick (.t 249) (.t 254) (.k (.sc (.bool false))),(some (246,false))⟩,31,false),
 (⟨some 256,.pick (.t 246) (.k (.sc (.bool true))) (.t 255),(some (243,true))⟩,32,false),
 (zo 257 (.pick (.t 243) (.t 256) (.k (.sc (.bool false)))),33,false),
 (zm 8 257,34,false)] [8])
 (.ret))))))))))))))))))
def a4:AFun:=⟨4,b4,[.t 8]⟩
def b9:AC :=
 .seq (.reg [zo 0 (.mv (.k (.sc (.bool false))))] [])
 (.seq (.reg [zo 6 (.bsl 1 [.int .i64 0] 2 [(0,.k (.sc (.int .i64 1))),(1,.k (.sc (.int .i64 (-1))))]),zo 7 (.bld [.int .i64 0,.nilS] [(0,1,.k (.sc (.int .i64 0))),(1,1,.t 6)]),zo 8 (.bsl 1 [.int .i64 0] 1 [(0,.k (.sc (.int .i64 1)))]),zo 9 (.bld [.int .i64 0,.nilS] [(0,1,.k (.sc (.int .i64 1))),(1,1,.t 8)]),zo 10 (.bsl 2 [.int .i64 0,.nilS] 2 [(0,.t 7),(1,.t 9)]),zo 11 (.bsl 1 [.int .i64 0] 1 [(0,.k (.sc (.int .i64 (-1))))]),zo 12 (.bld [.int .i64 0,.nilS] [(0,1,.k (.sc (.int .i64 0))),(1,1,.t 11)]),zo 13 (.bsl 1 [.int .i64 0] 2 [(0,.k (.sc (.int .i64 1))),(1,.k (.sc (.int .i64 (-1))))]),zo 14 (.bld [.int .i64 0,.nilS] [(0,1,.k (.sc (.int .i64 0))),(1,1,.t 13)]),zo 15 (.bsl 2 [.int .i64 0,.nilS] 2 [(0,.t 12),(1,.t 14)]),zo 16 (.bsl 1 [.nilS] 2 [(0,.t 10),(1,.t 15)]),zo 17 (.call 12 [(.t 16)]),zm 1 17] [1])
 (.seq (.reg [zm 19 1,zo 20 (.call 11 [(.t 19)]),zm 18 20,zo 21 (.ext (.t 18) 0),zo 22 (.ext (.t 18) 1),zo 2 (.new [.bool false,.nilS]),⟨none,.st 2 (.t 2) (.t 21),none⟩,zm 3 22] [2,3])
 (.seq (.reg [zo 24 (.bsl 1 [.int .i64 0] 3 [(0,.k (.sc (.int .i64 2))),(1,.k (.sc (.int .i64 0))),(2,.k (.sc (.int .i64 (-2))))]),zo 25 (.call 20 [(zK 0),(.t 24)]),zo 26 (.bsl 1 [.int .i64 0] 2 [(0,.k (.sc (.int .i64 4))),(1,.k (.sc (.int .i64 4)))]),zo 27 (.call 20 [(zK 0),(.t 26)]),zo 28 (.call 29 [(.t 25),(.t 27)]),zm 23 28,zo 29 (.ext (.t 23) 0),zo 30 (.ext (.t 23) 1),zo 4 (.new [.bool false,.nilS]),⟨none,.st 2 (.t 4) (.t 29),none⟩,zm 5 30] [2,3,4,5])
 (.seq (.regd [(zm 31 3,0,false),
 (zo 32 (.bin .eql (.t 31) (zK 0)),1,false),
 (zm 33 32,2,false),
 (⟨some 34,.ld 2 true (.t 2),(some (33,true))⟩,3,true),
 (⟨some 35,.call 15 [(.t 34),(.k (.sc (.str ⟨#[116]⟩)))],(some (33,true))⟩,4,true),
 (⟨some 36,.bin .eql (.t 35) (.k (.sc (.str ⟨#[49,45,116,43,116,94,50]⟩))),(some (33,true))⟩,5,false),
 (zo 37 (.pick (.t 33) (.t 36) (.k (.sc (.bool false)))),6,false),
 (zm 38 37,7,false),
 (⟨some 39,.ld 2 true (.t 2),(some (38,true))⟩,8,false),
 (⟨some 40,.call 24 [(.t 39)],(some (38,true))⟩,9,false),
 (⟨some 41,.call 28 [(.t 40),(zK 3)],(some (38,true))⟩,10,false),
 (⟨some 42,.call 25 [(.t 41)],(some (38,true))⟩,11,false),
 (⟨some 43,.ld 2 true (.t 2),(some (38,true))⟩,12,false),
 (⟨some 44,.call 23 [(.t 42),(.t 43)],(some (38,true))⟩,13,true),
 (zo 45 (.pick (.t 38) (.t 44) (.k (.sc (.bool false)))),14,false),
 (zm 46 45,15,false),
 (⟨some 47,.mv (.t 5),(some (46,true))⟩,16,false),
 (⟨some 48,.bin .eql (.t 47) (zK 0),(some (46,true))⟩,17,false),
 (zo 49 (.pick (.t 46) (.t 48) (.k (.sc (.bool false)))),18,false),
 (zm 50 49,19,false),
 (⟨some 51,.ld 2 true (.t 4),(some (50,true))⟩,20,true),
 (⟨some 52,.call 15 [(.t 51),(.k (.sc (.str ⟨#[116]⟩)))],(some (50,true))⟩,21,true),
 (⟨some 53,.bin .eql (.t 52) (.k (.sc (.str ⟨#[50,43,50,116]⟩))),(some (50,true))⟩,22,false),
 (zo 54 (.pick (.t 50) (.t 53) (.k (.sc (.bool false)))),23,false),
 (zm 0 54,24,false)] [0])
 (.ret)))))
def a9:AFun:=⟨0,b9,[.t 0]⟩
def QkM:AC :=
 .seq (.seq (.reg [zm 24 6,zm 25 0,zm 26 5,zo 27 (.idxA 1 (.t 25) (.t 26)),zo 28 (.ld 1 false (.t 27)),zo 29 (.len false (.t 28)),zo 30 (.bin .lss (.t 24) (.t 29))] [0,1,5,6,30])
 (.cond (.t 30)
 (.skip)
 (.exit 2)))
 (.seq (.block 3 (.seq (.reg [zm 33 0,zm 34 5,zo 35 (.idxA 1 (.t 33) (.t 34)),zo 36 (.ld 1 false (.t 35)),zm 37 6,zo 38 (.idxA 2 (.t 36) (.t 37)),zo 39 (.ld 2 true (.t 38)),zo 40 (.call 19 [(.t 39)]),zo 41 (.bin .eql (.t 40) (zK 0))] [0,1,5,6,41])
 (.cond (.t 41)
 (.seq (.reg [⟨some 4, .mv (zK 0), none⟩] [4])
 (.ret))
 (.skip))))
 (.reg [zm 31 6,zo 32 (.bin .add (.t 31) (zK 1)),zm 6 32] [0,1,5,6]))
def QkN:AC :=
 .seq (.seq (.reg [zm 11 5,zm 12 0,zo 13 (.len false (.t 12)),zo 14 (.bin .lss (.t 11) (.t 13))] [0,1,5,14])
 (.cond (.t 14)
 (.skip)
 (.exit 0)))
 (.seq (.block 1 (.seq (.seq (.reg [⟨some 17, .mv (.t 0), none⟩,zm 18 5,zo 19 (.idxA 1 (.t 17) (.t 18)),zo 20 (.ld 1 false (.t 19)),zo 21 (.len false (.t 20)),zm 22 1,zo 23 (.bin .gtr (.t 21) (.t 22))] [0,1,5,23])
 (.cond (.t 23)
 (.seq (.reg [⟨some 4, .mv (zK 0), none⟩] [4])
 (.ret))
 (.skip)))
 (.seq (.reg [⟨some 6, .mv (zK 0), none⟩] [0, 1, 5, 6])
 (.block 2 (.loop [0,1,5,6] QkM)))))
 (.reg [zm 15 5,zo 16 (.bin .add (.t 15) (zK 1)),zm 5 16] [0,1,5]))
def b10:AC :=
 .seq (.reg [zo 4 (.mv (zK 0))] [0,1])
 (.seq (.seq (.reg [zm 7 0,zo 8 (.len false (.t 7)),zm 9 1,zo 10 (.bin .gtr (.t 8) (.t 9))] [0,1,10])
 (.cond (.t 10)
 (.seq (.reg [⟨some 4, .mv (zK 0), none⟩] [4])
 (.ret))
 (.skip)))
 (.seq (.seq (.reg [zo 5 (.mv (zK 0))] [0,1,5])
 (.block 0 (.loop [0,1,5] QkN)))
 (.seq (.reg [⟨some 4, .mv (zK 1), none⟩] [4])
 (.ret))))
def a10:AFun:=⟨2,b10,[.t 4]⟩
def QkL:AC :=
 .seq (.reg [zo 27 (.bin .lss (.t 26) (.t 25))] [0,2,24,25,26,27])
 (.seq (.cond (.t 27)
 (.skip)
 (.exit 1))
 (.seq (.block 2 (.seq (.reg [zo 28 (.idxA 1 (.t 24) (.t 26)),zo 29 (.ld 1 false (.t 28)),zm 5 29] [0,2,5,24,25,26])
 (.seq (.reg [zm 30 5,zo 31 (.call 38 [(.t 30),(.k (.sc (.fn 39 [])))])] [0,2,24,25,26,31])
 (.cond (.t 31)
 (.seq (.reg [zo 32 (.bld [.bool false,.nilS] []),⟨none,.st 2 (.t 2) (.t 32),none⟩,zo 3 (.mv (zK 9))] [2,3])
 (.ret))
 (.skip)))))
 (.reg [zo 33 (.bin .add (.t 26) (zK 1)),zm 26 33] [0,2,24,25,26])))
def b11:AC :=
 .seq (.reg [zo 2 (.new [.bool false,.nilS]),zo 3 (.mv (zK 0))] [0,2])
 (.seq (.block 0 (.seq (.reg [zm 9 0,zo 10 (.call 35 [(.t 9)]),zo 11 (.un .not (.t 10)),zm 8 11] [0,2,8])
 (.cond (.t 8)
 (.seq (.reg [zo 12 (.bld [.bool false,.nilS] []),⟨none,.st 2 (.t 2) (.t 12),none⟩,zo 3 (.mv (zK 3))] [2,3])
 (.ret))
 (.seq (.reg [zm 14 0,zo 15 (.call 36 [(.t 14)]),zm 13 15] [0,2,13])
 (.cond (.t 13)
 (.seq (.reg [zo 16 (.bld [.bool false,.nilS] []),⟨none,.st 2 (.t 2) (.t 16),none⟩,zo 3 (.mv (zK 5))] [2,3])
 (.ret))
 (.seq (.reg [zm 18 0,zo 19 (.len false (.t 18)),zm 20 0,zo 21 (.call 37 [(.t 20)]),zo 22 (.bin .neq (.t 19) (.t 21)),zm 17 22] [0,2,17])
 (.cond (.t 17)
 (.seq (.reg [zo 23 (.bld [.bool false,.nilS] []),⟨none,.st 2 (.t 2) (.t 23),none⟩,zo 3 (.mv (zK 3))] [2,3])
 (.ret))
 (.skip))))))))
 (.seq (.seq (.reg [zm 24 0,zo 25 (.len false (.t 24)),zo 26 (.mv (zK 0))] [0,2,24,25,26])
 (.block 1 (.loop [0,2,24,25,26] QkL)))
 (.seq (.reg [zm 35 0,zo 36 (.call 40 [(.t 35)]),zm 34 36,zo 37 (.ext (.t 34) 0),zo 38 (.ext (.t 34) 1),zo 6 (.new [.bool false,.nilS]),⟨none,.st 2 (.t 6) (.t 37),none⟩,zm 7 38] [2,6,7])
 (.seq (.seq (.reg [zm 39 7,zo 40 (.un .not (.t 39)),zm 41 40,⟨some 42,.ld 2 true (.t 6),(some (41,false))⟩,⟨some 43,.call 39 [(.t 42)],(some (41,false))⟩,zo 44 (.pick (.t 41) (.k (.sc (.bool true))) (.t 43))] [2,6,44])
 (.cond (.t 44)
 (.seq (.reg [zo 45 (.bld [.bool false,.nilS] []),⟨none,.st 2 (.t 2) (.t 45),none⟩,zo 3 (.mv (zK 9))] [2,3])
 (.ret))
 (.skip)))
 (.seq (.reg [zo 46 (.ld 2 true (.t 6)),⟨none,.st 2 (.t 2) (.t 46),none⟩,zo 3 (.mv (zK 0))] [2,3])
 (.ret))))))
def a11:AFun:=⟨1,b11,[.cell 2 2 true,.t 3]⟩
def QkJ:AC :=
 .seq (.seq (.reg [zm 15 6,zm 16 0,zm 17 4,zo 18 (.idxA 1 (.t 16) (.t 17)),zo 19 (.ld 1 false (.t 18)),zo 20 (.len false (.t 19)),zo 21 (.bin .lss (.t 15) (.t 20))] [0,3,4,5,6,21])
 (.cond (.t 21)
 (.skip)
 (.exit 2)))
 (.seq (.block 3 (.regd [(zm 24 5,0,false),
 (zm 25 0,1,false),
 (zm 26 4,2,false),
 (zo 27 (.idxA 1 (.t 25) (.t 26)),3,false),
 (zo 28 (.ld 1 false (.t 27)),4,false),
 (zm 29 6,5,false),
 (zo 30 (.idxA 2 (.t 28) (.t 29)),6,false),
 (zo 31 (.fldA 0 (.t 30)),7,false),
 (zo 32 (.ld 1 false (.t 31)),8,false),
 (zm 33 0,9,false),
 (zm 34 4,10,false),
 (zo 35 (.idxA 1 (.t 33) (.t 34)),11,false),
 (zo 36 (.ld 1 false (.t 35)),12,false),
 (zm 37 6,13,false),
 (zo 38 (.idxA 2 (.t 36) (.t 37)),14,false),
 (zo 39 (.fldA 1 (.t 38)),15,false),
 (zo 40 (.ld 1 false (.t 39)),16,false),
 (zo 41 (.call 20 [(.t 32),(.t 40)]),17,true),
 (zo 42 (.bsl 2 [.bool false,.nilS] 1 [(0,.t 41)]),18,true),
 (zo 43 (.app 2 32 [.bool false,.nilS] (.t 24) (.t 42)),19,true),
 (zm 5 43,20,false)] [0,3,4,5,6]))
 (.reg [zm 22 6,zo 23 (.bin .add (.t 22) (zK 1)),zm 6 23] [0,3,4,5,6]))
def QkK:AC :=
 .seq (.seq (.reg [zm 8 4,zm 9 0,zo 10 (.len false (.t 9)),zo 11 (.bin .lss (.t 8) (.t 10))] [0,3,4,11])
 (.cond (.t 11)
 (.skip)
 (.exit 0)))
 (.seq (.block 1 (.seq (.reg [zo 14 (.bsl 2 [.bool false,.nilS] 0 []),zm 5 14] [0,3,4,5])
 (.seq (.seq (.reg [zo 6 (.mv (zK 0))] [0,3,4,5,6])
 (.block 2 (.loop [0,3,4,5,6] QkJ)))
 (.reg [zm 44 3,zm 45 5,zo 46 (.bsl 1 [.nilS] 1 [(0,.t 45)]),zo 47 (.app 1 24 [.nilS] (.t 44) (.t 46)),zm 3 47] [0,3,4]))))
 (.reg [zm 12 4,zo 13 (.bin .add (.t 12) (zK 1)),zm 4 13] [0,3,4]))
def b12:AC :=
 .seq (.reg [zo 2 (.mv (.k (.sc .nilS)))] [0])
 (.seq (.reg [zo 7 (.bsl 1 [.nilS] 0 []),zm 3 7] [0,3])
 (.seq (.seq (.reg [zo 4 (.mv (zK 0))] [0,3,4])
 (.block 0 (.loop [0,3,4] QkK)))
 (.seq (.reg [zm 48 3,zm 2 48] [2])
 (.ret))))
def a12:AFun:=⟨1,b12,[.t 2]⟩
def b13:AC :=
 .seq (.reg [zo 2 (.mv (.k (.sc (.bool false))))] [0])
 (.seq (.reg [zm 7 0,zo 8 (.call 32 [(.t 7)]),zm 6 8,zo 9 (.ext (.t 6) 0),zo 10 (.ext (.t 6) 1),zo 11 (.ext (.t 6) 2),zm 3 9,zm 4 10,zm 5 11] [3,4,5])
 (.seq (.reg [zm 12 5,zm 13 12,⟨some 14,.mv (.t 3),(some (13,true))⟩,⟨some 15,.mv (.t 4),(some (13,true))⟩,⟨some 16,.bin .eql (.t 14) (.t 15),(some (13,true))⟩,zo 17 (.pick (.t 13) (.t 16) (.k (.sc (.bool false)))),zm 2 17] [2])
 (.ret)))
def a13:AFun:=⟨1,b13,[.t 2]⟩
def b14:AC :=
 .seq (.reg [zo 1 (.box (.t 0)),zo 2 (.mv (.k (.sc (.bool false))))] [1])
 (.seq (.reg [zo 3 (.fldA 0 (.t 1)),zo 4 (.ld 1 false (.t 3)),zo 5 (.un .not (.t 4)),zm 6 5,⟨some 7,.fldA 1 (.t 1),(some (6,true))⟩,⟨some 8,.ld 1 false (.t 7),(some (6,true))⟩,⟨some 9,.len false (.t 8),(some (6,true))⟩,⟨some 10,.bin .eql (.t 9) (zK 0),(some (6,true))⟩,zo 11 (.pick (.t 6) (.t 10) (.k (.sc (.bool false)))),zm 2 11] [2])
 (.ret))
def a14:AFun:=⟨1,b14,[.t 2]⟩
def b15L0:AC :=
 .seq (.reg [zo 21 (.bin .lss (.t 20) (.t 19))] [1,5,18,19,20,21])
 (.seq (.cond (.t 21)
 (.skip)
 (.exit 1))
 (.seq (.block 2 (.seq (.reg [zm 22 20,zo 23 (.idxA 2 (.t 18) (.t 20)),zo 24 (.ld 2 true (.t 23)),zo 7 (.new [.int .i64 0,.int .i64 0]),zm 6 22,⟨none,.st 2 (.t 7) (.t 24),none⟩] [1,5,6,7,18,19,20])
 (.seq (.reg [zo 25 (.fldA 1 (.t 7)),zo 26 (.ld 1 false (.t 25)),zm 8 26] [1,5,6,7,8,18,19,20])
 (.seq (.seq (.reg [zm 27 8,zo 28 (.bin .lss (.t 27) (zK 0))] [1,5,6,7,8,18,19,20,28])
 (.cond (.t 28)
 (.seq (.reg [⟨some 29, .call 41 [(.t 5), (.k (.sc (.int .u8 45)))], none⟩] [1, 5, 7, 8, 18, 19, 20])
 (.reg [zm 30 8,zo 31 (.un .neg (.t 30)),zm 8 31] [1,5,7,8,18,19,20]))
 (.seq (.reg [zm 32 6,zo 33 (.bin .gtr (.t 32) (zK 0))] [1,5,7,8,18,19,20,33])
 (.cond (.t 33)
 (.reg [zo 34 (.call 41 [(.t 5),(.k (.sc (.int .u8 43)))])] [1,5,7,8,18,19,20])
 (.skip)))))
 (.seq (.seq (.reg [zm 35 8,zo 36 (.bin .neq (.t 35) (zK 1)),zm 37 36,⟨some 38,.fldA 0 (.t 7),(some (37,false))⟩,⟨some 39,.ld 1 false (.t 38),(some (37,false))⟩,⟨some 40,.bin .eql (.t 39) (zK 0),(some (37,false))⟩,zo 41 (.pick (.t 37) (.k (.sc (.bool true))) (.t 40))] [1,5,7,8,18,19,20,41])
 (.cond (.t 41)
 (.reg [zm 42 8,zo 43 (.call 43 [(.t 42)]),zo 44 (.call 42 [(.t 5),(.t 43)])] [1,5,7,18,19,20])
 (.skip)))
 (.seq (.seq (.reg [zo 45 (.fldA 0 (.t 7)),zo 46 (.ld 1 false (.t 45)),zo 47 (.bin .neq (.t 46) (zK 0))] [1,5,7,18,19,20,47])
 (.cond (.t 47)
 (.reg [zm 48 1,zo 49 (.call 42 [(.t 5),(.t 48)])] [1,5,7,18,19,20])
 (.skip)))
 (.seq (.reg [zo 50 (.fldA 0 (.t 7)),zo 51 (.ld 1 false (.t 50)),zo 52 (.bin .neq (.t 51) (zK 0)),zm 53 52,⟨some 54,.fldA 0 (.t 7),(some (53,true))⟩,⟨some 55,.ld 1 false (.t 54),(some (53,true))⟩,⟨some 56,.bin .neq (.t 55) (zK 1),(some (53,true))⟩,zo 57 (.pick (.t 53) (.t 56) (.k (.sc (.bool false))))] [1,5,7,18,19,20,57])
 (.cond (.t 57)
 (.seq (.reg [⟨some 58, .call 41 [(.t 5), (.k (.sc (.int .u8 94)))], none⟩] [1, 5, 7, 18, 19, 20])
 (.reg [zo 59 (.fldA 0 (.t 7)),zo 60 (.ld 1 false (.t 59)),zo 61 (.call 43 [(.t 60)]),zo 62 (.call 42 [(.t 5),(.t 61)])] [1,5,18,19,20]))
 (.skip)))))))))
 (.reg [zo 63 (.bin .add (.t 20) (zK 1)),zm 20 63] [1,5,18,19,20])))
def b15:AC :=
 .seq (.reg [zo 2 (.box (.t 0)),⟨some 4,.mv (.k (.sc (.str ⟨#[]⟩))),none⟩] [1,2])
 (.seq (.block 0 (.seq (.reg [zo 10 (.fldA 0 (.t 2)),zo 11 (.ld 1 false (.t 10)),zm 9 11] [1,2,9])
 (.cond (.t 9)
 (.seq (.reg [⟨some 4, .mv (.k (.sc (.str ⟨#[98, 105, 103]⟩))), none⟩] [4])
 (.ret))
 (.seq (.reg [zo 13 (.fldA 1 (.t 2)),zo 14 (.ld 1 false (.t 13)),zo 15 (.len false (.t 14)),zo 16 (.bin .eql (.t 15) (zK 0)),zm 12 16] [1,2,12])
 (.cond (.t 12)
 (.seq (.reg [⟨some 4, .mv (.k (.sc (.str ⟨#[48]⟩))), none⟩] [4])
 (.ret))
 (.skip))))))
 (.seq (.reg [⟨some 5, .newT 77 [.nilP, .nilS], none⟩] [1, 2, 5])
 (.seq (.seq (.reg [zo 17 (.fldA 1 (.t 2)),zo 18 (.ld 1 false (.t 17)),zo 19 (.len false (.t 18)),zo 20 (.mv (zK 0))] [1,5,18,19,20])
 (.block 1 (.loop [1,5,18,19,20] b15L0)))
 (.seq (.reg [zo 64 (.call 44 [(.t 5)]),zm 4 64] [4])
 (.ret)))))
def a15:AFun:=⟨2,b15,[.t 4]⟩
def QkI:AC :=
 .seq (.seq (.reg [zm 18 3,zo 19 (.fldA 1 (.t 1)),zo 20 (.ld 1 false (.t 19)),zo 21 (.len false (.t 20)),zo 22 (.bin .lss (.t 18) (.t 21))] [1,3,22])
 (.cond (.t 22)
 (.skip)
 (.exit 0)))
 (.seq (.block 1 (.seq (.reg [zo 25 (.fldA 1 (.t 1)),zo 26 (.ld 1 false (.t 25)),zm 27 3,zo 28 (.idxA 1 (.t 26) (.t 27)),zo 29 (.ld 1 false (.t 28)),zo 30 (.bin .lss (.t 29) (.k (.sc (.int .i64 (-4))))),zm 31 30,⟨some 32,.fldA 1 (.t 1),(some (31,false))⟩,⟨some 33,.ld 1 false (.t 32),(some (31,false))⟩,⟨some 34,.mv (.t 3),(some (31,false))⟩,⟨some 35,.idxA 1 (.t 33) (.t 34),(some (31,false))⟩,⟨some 36,.ld 1 false (.t 35),(some (31,false))⟩,⟨some 37,.bin .gtr (.t 36) (zK 4),(some (31,false))⟩,zo 38 (.pick (.t 31) (.k (.sc (.bool true))) (.t 37))] [1,3,38])
 (.cond (.t 38)
 (.seq (.reg [⟨some 2, .mv (zK 0), none⟩] [2])
 (.ret))
 (.skip))))
 (.reg [zm 23 3,zo 24 (.bin .add (.t 23) (zK 1)),zm 3 24] [1,3]))
def b19:AC :=
 .seq (.reg [zo 1 (.box (.t 0)),zo 2 (.mv (zK 0))] [1])
 (.seq (.seq (.reg [zo 4 (.fldA 1 (.t 1)),zo 5 (.ld 1 false (.t 4)),zo 6 (.len false (.t 5)),zo 7 (.bin .gtr (.t 6) (zK 3)),zm 8 7,⟨some 9,.fldA 0 (.t 1),(some (8,false))⟩,⟨some 10,.ld 1 false (.t 9),(some (8,false))⟩,⟨some 11,.bin .lss (.t 10) (.k (.sc (.int .i64 (-10)))),(some (8,false))⟩,zo 12 (.pick (.t 8) (.k (.sc (.bool true))) (.t 11)),zm 13 12,⟨some 14,.fldA 0 (.t 1),(some (13,false))⟩,⟨some 15,.ld 1 false (.t 14),(some (13,false))⟩,⟨some 16,.bin .gtr (.t 15) (zK 10),(some (13,false))⟩,zo 17 (.pick (.t 13) (.k (.sc (.bool true))) (.t 16))] [1,17])
 (.cond (.t 17)
 (.seq (.reg [⟨some 2, .mv (zK 0), none⟩] [2])
 (.ret))
 (.skip)))
 (.seq (.seq (.reg [zo 3 (.mv (zK 0))] [1,3])
 (.block 0 (.loop [1,3] QkI)))
 (.seq (.reg [⟨some 2, .mv (zK 1), none⟩] [2])
 (.ret))))
def a19:AFun:=⟨1,b19,[.t 2]⟩
def QkH:AC :=
 .seq (.reg [zo 11 (.bin .lss (.t 10) (.t 9))] [0,4,5,8,9,10,11])
 (.seq (.cond (.t 11)
 (.skip)
 (.exit 0))
 (.seq (.block 1 (.seq (.reg [zm 12 10,zo 13 (.idxA 1 (.t 8) (.t 10)),zo 14 (.ld 1 false (.t 13)),zm 6 12,zm 7 14] [0,4,5,6,7,8,9,10])
 (.seq (.seq (.reg [zm 15 7,zo 16 (.bin .eql (.t 15) (zK 0))] [0,4,5,6,7,8,9,10,16])
 (.cond (.t 16)
 (.exit 1)
 (.skip)))
 (.seq (.seq (.reg [zm 17 7,zo 18 (.call 50 [(.t 17),(zK 1125899906842624)]),zo 19 (.un .not (.t 18)),zm 20 19,⟨some 21,.mv (.t 0),(some (20,false))⟩,⟨some 22,.bin .gtr (.t 21) (zK 1048576),(some (20,false))⟩,zo 23 (.pick (.t 20) (.k (.sc (.bool true))) (.t 22)),zm 24 23,⟨some 25,.mv (.t 0),(some (24,false))⟩,⟨some 26,.mv (.t 6),(some (24,false))⟩,⟨some 27,.bin .add (.t 25) (.t 26),(some (24,false))⟩,⟨some 28,.call 50 [(.t 27),(zK 1048576)],(some (24,false))⟩,⟨some 29,.un .not (.t 28),(some (24,false))⟩,zo 30 (.pick (.t 24) (.k (.sc (.bool true))) (.t 29))] [0,4,5,6,7,8,9,10,30])
 (.cond (.t 30)
 (.seq (.reg [zo 31 (.bld [.bool false,.nilS] [(0,1,.k (.sc (.bool true)))]),⟨none,.st 2 (.t 4) (.t 31),none⟩] [4])
 (.ret))
 (.skip)))
 (.reg [zo 32 (.fldA 1 (.t 5)),zo 33 (.ld 1 false (.t 32)),zm 34 0,zm 35 6,zo 36 (.bin .add (.t 34) (.t 35)),zm 37 7,zo 38 (.bld [.int .i64 0,.int .i64 0] [(0,1,.t 36),(1,1,.t 37)]),zo 39 (.bsl 2 [.int .i64 0,.int .i64 0] 1 [(0,.t 38)]),zo 40 (.app 2 16 [.int .i64 0,.int .i64 0] (.t 33) (.t 39)),zo 41 (.fldA 1 (.t 5)),⟨none,.st 1 (.t 41) (.t 40),none⟩] [0,4,5,8,9,10])))))
 (.reg [zo 42 (.bin .add (.t 10) (zK 1)),zm 10 42] [0,4,5,8,9,10])))
def b20:AC :=
 .seq (.reg [zo 4 (.new [.bool false,.nilS])] [0,1,4])
 (.seq (.reg [⟨some 5, .new [.bool false, .nilS], none⟩] [0, 1, 4, 5])
 (.seq (.seq (.reg [zm 8 1,zo 9 (.len false (.t 8)),zo 10 (.mv (zK 0))] [0,4,5,8,9,10])
 (.block 0 (.loop [0,4,5,8,9,10] QkH)))
 (.seq (.reg [zo 43 (.ld 2 true (.t 5)),⟨none,.st 2 (.t 4) (.t 43),none⟩] [4])
 (.ret))))
def a20:AFun:=⟨2,b20,[.cell 4 2 true]⟩
def b21:AC :=
 .seq (.reg [zo 2 (.box (.t 0)),zo 3 (.box (.t 1)),zo 4 (.new [.bool false,.nilS])] [2,3,4])
 (.seq (.reg [zo 5 (.ld 2 true (.t 2)),zo 6 (.ld 2 true (.t 3)),zo 7 (.call 51 [(.t 5),(.t 6),(.k (.sc (.fn 52 [])))]),⟨none,.st 2 (.t 4) (.t 7),none⟩] [4])
 (.ret))
def a21:AFun:=⟨2,b21,[.cell 4 2 true]⟩
def QkG:AC :=
 .seq (.reg [zo 76 (.bin .lss (.t 75) (.t 74))] [4,5,8,73,74,75,76])
 (.seq (.cond (.t 76)
 (.skip)
 (.exit 0))
 (.seq (.block 1 (.seq (.reg [zm 77 75,zo 78 (.idxA 2 (.t 73) (.t 75)),zo 79 (.ld 2 true (.t 78)),zo 10 (.new [.int .u64 0,.int .u64 0]),zm 9 77,⟨none,.st 2 (.t 10) (.t 79),none⟩] [4,5,8,9,10,73,74,75])
 (.seq (.reg [zo 81 (.ld 2 true (.t 10)),zo 82 (.call 59 [(.t 81)]),zm 80 82,zo 83 (.ext (.t 80) 0),zo 84 (.ext (.t 80) 1),zm 11 83,zm 12 84] [4,5,8,9,11,12,73,74,75])
 (.seq (.seq (.reg [zm 85 12,zo 86 (.un .not (.t 85))] [4,5,8,9,11,73,74,75,86])
 (.cond (.t 86)
 (.seq (.reg [zo 87 (.bld [.bool false,.nilS] [(0,1,.k (.sc (.bool true)))]),⟨none,.st 2 (.t 4) (.t 87),none⟩] [4])
 (.ret))
 (.skip)))
 (.seq (.reg [zm 88 11,zo 89 (.bin .neq (.t 88) (zK 0))] [4,5,8,9,11,73,74,75,89])
 (.cond (.t 89)
 (.reg [zo 90 (.fldA 1 (.t 8)),zo 91 (.ld 1 false (.t 90)),zo 92 (.ld 1 false (.t 5)),zm 93 9,zo 94 (.bin .add (.t 92) (.t 93)),zm 95 11,zo 96 (.bld [.int .i64 0,.int .i64 0] [(0,1,.t 94),(1,1,.t 95)]),zo 97 (.bsl 2 [.int .i64 0,.int .i64 0] 1 [(0,.t 96)]),zo 98 (.app 2 16 [.int .i64 0,.int .i64 0] (.t 91) (.t 97)),zo 99 (.fldA 1 (.t 8)),⟨none,.st 1 (.t 99) (.t 98),none⟩] [4,5,8,73,74,75])
 (.skip)))))))
 (.reg [zo 100 (.bin .add (.t 75) (zK 1)),zm 75 100] [4,5,8,73,74,75])))
def b22:AC :=
 .seq (.reg [zo 2 (.box (.t 0)),zo 3 (.box (.t 1)),zo 4 (.new [.bool false,.nilS])] [2,3,4])
 (.seq (.seq (.reg [zo 13 (.fldA 0 (.t 2)),zo 14 (.ld 1 false (.t 13)),zm 15 14,⟨some 16,.fldA 0 (.t 3),(some (15,false))⟩,⟨some 17,.ld 1 false (.t 16),(some (15,false))⟩,zo 18 (.pick (.t 15) (.k (.sc (.bool true))) (.t 17))] [2,3,4,18])
 (.cond (.t 18)
 (.seq (.reg [zo 19 (.bld [.bool false,.nilS] [(0,1,.k (.sc (.bool true)))]),⟨none,.st 2 (.t 4) (.t 19),none⟩] [4])
 (.ret))
 (.skip)))
 (.seq (.seq (.reg [zo 20 (.fldA 1 (.t 2)),zo 21 (.ld 1 false (.t 20)),zo 22 (.len false (.t 21)),zo 23 (.bin .eql (.t 22) (zK 0)),zm 24 23,⟨some 25,.fldA 1 (.t 3),(some (24,false))⟩,⟨some 26,.ld 1 false (.t 25),(some (24,false))⟩,⟨some 27,.len false (.t 26),(some (24,false))⟩,⟨some 28,.bin .eql (.t 27) (zK 0),(some (24,false))⟩,zo 29 (.pick (.t 24) (.k (.sc (.bool true))) (.t 28))] [2,3,4,29])
 (.cond (.t 29)
 (.seq (.reg [zo 30 (.bld [.bool false,.nilS] []),⟨none,.st 2 (.t 4) (.t 30),none⟩] [4])
 (.ret))
 (.skip)))
 (.seq (.regd [(zo 31 (.ld 2 true (.t 2)),0,false),
 (zo 32 (.call 53 [(.t 31)]),1,false),
 (zo 33 (.ld 2 true (.t 3)),2,false),
 (zo 34 (.call 53 [(.t 33)]),3,false),
 (zo 35 (.bin .add (.t 32) (.t 34)),4,false),
 (zo 36 (.ld 2 true (.t 2)),5,false),
 (zo 37 (.call 54 [(.t 36)]),6,false),
 (zo 38 (.ld 2 true (.t 3)),7,false),
 (zo 39 (.call 54 [(.t 38)]),8,false),
 (zo 40 (.bin .add (.t 37) (.t 39)),9,false),
 (zo 5 (.new [.int .i64 0]),10,false),
 (⟨none,.st 1 (.t 5) (.t 35),none⟩,11,true),
 (zm 6 40,12,false)] [2,3,4,5,6])
 (.seq (.seq (.reg [zo 41 (.ld 1 false (.t 5)),zo 42 (.bin .lss (.t 41) (.k (.sc (.int .i64 (-1048576))))),zm 43 42,⟨some 44,.mv (.t 6),(some (43,false))⟩,⟨some 45,.bin .gtr (.t 44) (zK 1048576),(some (43,false))⟩,zo 46 (.pick (.t 43) (.k (.sc (.bool true))) (.t 45))] [2,3,4,5,6,46])
 (.cond (.t 46)
 (.seq (.reg [zo 47 (.bld [.bool false,.nilS] [(0,1,.k (.sc (.bool true)))]),⟨none,.st 2 (.t 4) (.t 47),none⟩] [4])
 (.ret))
 (.skip)))
 (.seq (.seq (.reg [zm 48 6,zo 49 (.ld 1 false (.t 5)),zo 50 (.bin .sub (.t 48) (.t 49)),zo 51 (.fldA 1 (.t 2)),zo 52 (.ld 1 false (.t 51)),zo 53 (.len false (.t 52)),zo 54 (.bin .mul (zK 4) (.t 53)),zo 55 (.fldA 1 (.t 3)),zo 56 (.ld 1 false (.t 55)),zo 57 (.len false (.t 56)),zo 58 (.bin .mul (.t 54) (.t 57)),zo 59 (.bin .add (zK 64) (.t 58)),zo 60 (.bin .gtr (.t 50) (.t 59))] [2,3,4,5,6,60])
 (.cond (.t 60)
 (.seq (.reg [zo 61 (.ld 2 true (.t 2)),zo 62 (.ld 2 true (.t 3)),zo 63 (.call 55 [(.t 61),(.t 62)]),⟨none,.st 2 (.t 4) (.t 63),none⟩] [4])
 (.ret))
 (.skip)))
 (.seq (.reg [zm 64 6,zo 65 (.ld 1 false (.t 5)),zo 66 (.bin .sub (.t 64) (.t 65)),zo 67 (.bin .add (.t 66) (zK 1)),zo 68 (.mk 2 16 [.int .u64 0,.int .u64 0] (.t 67) (.t 67)),zo 7 (.new [.nilS]),⟨none,.st 1 (.t 7) (.t 68),none⟩] [2,3,4,5,7])
 (.seq (.reg [zo 69 (.ld 2 true (.t 2)),zo 70 (.ld 2 true (.t 3)),zo 71 (.mkf 57 [(.t 7),(.t 5)]),zo 72 (.call 56 [(.t 69),(.t 70),(.t 71)])] [4,5,7])
 (.seq (.reg [⟨some 8, .new [.bool false, .nilS], none⟩] [4, 5, 7, 8])
 (.seq (.seq (.reg [zo 73 (.ld 1 false (.t 7)),zo 74 (.len false (.t 73)),zo 75 (.mv (zK 0))] [4,5,8,73,74,75])
 (.block 0 (.loop [4,5,8,73,74,75] QkG)))
 (.seq (.reg [zo 101 (.ld 2 true (.t 8)),⟨none,.st 2 (.t 4) (.t 101),none⟩] [4])
 (.ret)))))))))))
def a22:AFun:=⟨2,b22,[.cell 4 2 true]⟩
def b23:AC :=
 .seq (.reg [zo 2 (.box (.t 0)),zo 3 (.box (.t 1)),zo 4 (.mv (.k (.sc (.bool false))))] [2,3])
 (.seq (.reg [zo 5 (.fldA 0 (.t 2)),zo 6 (.ld 1 false (.t 5)),zo 7 (.fldA 0 (.t 3)),zo 8 (.ld 1 false (.t 7)),zo 9 (.beq false (.t 6) (.t 8)),zm 10 9,⟨some 11,.fldA 1 (.t 2),(some (10,true))⟩,⟨some 12,.ld 1 false (.t 11),(some (10,true))⟩,⟨some 13,.fldA 1 (.t 3),(some (10,true))⟩,⟨some 14,.ld 1 false (.t 13),(some (10,true))⟩,⟨some 15,.call 60 [(.t 12),(.t 14)],(some (10,true))⟩,zo 16 (.pick (.t 10) (.t 15) (.k (.sc (.bool false)))),zm 4 16] [4])
 (.ret))
def a23:AFun:=⟨2,b23,[.t 4]⟩
def b24:AC :=
 .seq (.reg [zo 1 (.box (.t 0)),zo 2 (.new [.bool false,.nilS])] [1,2])
 (.seq (.reg [zo 3 (.bld [.bool false,.nilS] []),zo 4 (.ld 2 true (.t 1)),zo 5 (.call 51 [(.t 3),(.t 4),(.k (.sc (.fn 61 [])))]),⟨none,.st 2 (.t 2) (.t 5),none⟩] [2])
 (.ret))
def a24:AFun:=⟨1,b24,[.cell 2 2 true]⟩
def b25:AC :=
 .seq (.reg [zo 1 (.box (.t 0)),zo 2 (.new [.bool false,.nilS])] [1,2])
 (.seq (.seq (.reg [zo 3 (.ld 2 true (.t 1)),zo 4 (.call 39 [(.t 3)]),zm 5 4,⟨some 6,.ld 2 true (.t 1),(some (5,false))⟩,⟨some 7,.call 14 [(.t 6)],(some (5,false))⟩,zo 8 (.pick (.t 5) (.k (.sc (.bool true))) (.t 7))] [1,2,8])
 (.cond (.t 8)
 (.seq (.reg [zo 9 (.ld 2 true (.t 1)),⟨none,.st 2 (.t 2) (.t 9),none⟩] [2])
 (.ret))
 (.skip)))
 (.seq (.seq (.regd [(zo 10 (.ld 2 true (.t 1)),0,false),
 (zo 11 (.ld 2 true (.t 1)),1,false),
 (zo 12 (.call 53 [(.t 11)]),2,false),
 (zo 13 (.call 62 [(.t 10),(.t 12)]),3,true),
 (zo 14 (.bin .lss (.t 13) (zK 0)),4,false)] [1,2,14])
 (.cond (.t 14)
 (.reg [zo 15 (.ld 2 true (.t 1)),zo 16 (.call 24 [(.t 15)]),⟨none,.st 2 (.t 1) (.t 16),none⟩] [1,2])
 (.skip)))
 (.seq (.regd [(zo 17 (.ld 2 true (.t 1)),0,false),
 (zo 18 (.ld 2 true (.t 1)),1,false),
 (zo 19 (.call 53 [(.t 18)]),2,false),
 (zo 20 (.un .neg (.t 19)),3,false),
 (zo 21 (.call 28 [(.t 17),(.t 20)]),4,true),
 (⟨none,.st 2 (.t 2) (.t 21),none⟩,5,true)] [2])
 (.ret))))
def a25:AFun:=⟨1,b25,[.cell 2 2 true]⟩
def b28:AC :=
 .seq (.reg [zo 2 (.box (.t 0)),zo 3 (.box (.t 1)),zo 4 (.new [.bool false,.nilS])] [2,3,4])
 (.seq (.seq (.reg [zo 5 (.ld 1 false (.t 3)),zo 6 (.call 50 [(.t 5),(zK 2097152)]),zo 7 (.un .not (.t 6)),zm 8 7,⟨some 9,.fldA 1 (.t 2),(some (8,true))⟩,⟨some 10,.ld 1 false (.t 9),(some (8,true))⟩,⟨some 11,.len false (.t 10),(some (8,true))⟩,⟨some 12,.bin .gtr (.t 11) (zK 0),(some (8,true))⟩,zo 13 (.pick (.t 8) (.t 12) (.k (.sc (.bool false))))] [2,3,4,13])
 (.cond (.t 13)
 (.seq (.reg [zo 14 (.bld [.bool false,.nilS] [(0,1,.k (.sc (.bool true)))]),⟨none,.st 2 (.t 4) (.t 14),none⟩] [4])
 (.ret))
 (.skip)))
 (.seq (.reg [zo 15 (.ld 2 true (.t 2)),zo 16 (.mkf 64 [(.t 3)]),zo 17 (.call 63 [(.t 15),(.t 16)]),⟨none,.st 2 (.t 4) (.t 17),none⟩] [4])
 (.ret)))
def a28:AFun:=⟨2,b28,[.cell 4 2 true]⟩
def b29L0:AC :=
 .seq (.reg [zo 44 (.bin .lss (.t 43) (.t 42))] [2,3,4,6,41,42,43,44])
 (.seq (.cond (.t 44)
 (.skip)
 (.exit 1))
 (.seq (.block 2 (.seq (.reg [zo 45 (.idxA 2 (.t 41) (.t 43)),zo 46 (.ld 2 true (.t 45)),zo 8 (.new [.int .i64 0,.int .i64 0]),⟨none,.st 2 (.t 8) (.t 46),none⟩] [2,3,4,6,8,41,42,43])
 (.reg [zm 47 6,zo 48 (.fldA 0 (.t 8)),zo 49 (.ld 1 false (.t 48)),zo 50 (.call 66 [(.t 47),(.t 49)]),zm 6 50] [2,3,4,6,41,42,43])))
 (.reg [zo 51 (.bin .add (.t 43) (zK 1)),zm 43 51] [2,3,4,6,41,42,43])))
def b29L1:AC :=
 .seq (.reg [zo 73 (.bin .lss (.t 72) (.t 71))] [4,6,11,70,71,72,73])
 (.seq (.cond (.t 73)
 (.skip)
 (.exit 3))
 (.seq (.block 4 (.seq (.reg [zm 74 72,zo 75 (.idxA 1 (.t 70) (.t 72)),zo 76 (.ld 1 false (.t 75)),zm 12 74,zm 13 76] [4,6,11,12,13,70,71,72])
 (.reg [zm 77 11,zm 78 12,zm 79 6,zo 80 (.bin .mul (.t 78) (.t 79)),zm 81 13,zo 82 (.bld [.int .i64 0,.int .i64 0] [(0,1,.t 80),(1,1,.t 81)]),zo 83 (.bsl 2 [.int .i64 0,.int .i64 0] 1 [(0,.t 82)]),zo 84 (.app 2 16 [.int .i64 0,.int .i64 0] (.t 77) (.t 83)),zm 11 84] [4,6,11,70,71,72])))
 (.reg [zo 85 (.bin .add (.t 72) (zK 1)),zm 72 85] [4,6,11,70,71,72])))
def b29:AC :=
 .seq (.reg [zo 2 (.box (.t 0)),zo 3 (.box (.t 1)),zo 4 (.new [.bool false,.nilS]),zo 5 (.mv (zK 0))] [2,3,4])
 (.seq (.block 0 (.seq (.reg [zo 16 (.ld 2 true (.t 2)),zo 17 (.call 39 [(.t 16)]),zm 18 17,⟨some 19,.ld 2 true (.t 3),(some (18,false))⟩,⟨some 20,.call 39 [(.t 19)],(some (18,false))⟩,zo 21 (.pick (.t 18) (.k (.sc (.bool true))) (.t 20)),zm 15 21] [2,3,4,15])
 (.cond (.t 15)
 (.seq (.reg [zo 22 (.bld [.bool false,.nilS] []),⟨none,.st 2 (.t 4) (.t 22),none⟩,zo 5 (.mv (zK 9))] [4,5])
 (.ret))
 (.seq (.reg [zo 24 (.ld 2 true (.t 2)),zo 25 (.call 14 [(.t 24)]),zm 23 25] [2,3,4,23])
 (.cond (.t 23)
 (.seq (.reg [zo 26 (.ld 2 true (.t 3)),zo 27 (.call 25 [(.t 26)]),⟨none,.st 2 (.t 4) (.t 27),none⟩,zo 5 (.mv (zK 0))] [4,5])
 (.ret))
 (.seq (.reg [zo 29 (.ld 2 true (.t 3)),zo 30 (.call 14 [(.t 29)]),zm 28 30] [2,3,4,28])
 (.cond (.t 28)
 (.seq (.reg [zo 31 (.ld 2 true (.t 2)),zo 32 (.call 25 [(.t 31)]),⟨none,.st 2 (.t 4) (.t 32),none⟩,zo 5 (.mv (zK 0))] [4,5])
 (.ret))
 (.skip))))))))
 (.seq (.reg [⟨some 6, .mv (zK 0), none⟩] [2, 3, 4, 6])
 (.seq (.seq (.regd [(zo 33 (.ld 2 true (.t 2)),0,false),
 (zo 34 (.ld 2 true (.t 2)),1,false),
 (zo 35 (.call 53 [(.t 34)]),2,false),
 (zo 36 (.call 65 [(.t 33),(.t 35)]),3,false),
 (zo 37 (.ld 2 true (.t 3)),4,false),
 (zo 38 (.ld 2 true (.t 3)),5,false),
 (zo 39 (.call 53 [(.t 38)]),6,false),
 (zo 40 (.call 65 [(.t 37),(.t 39)]),7,true),
 (zo 41 (.app 2 16 [.int .i64 0,.int .i64 0] (.t 36) (.t 40)),8,true),
 (zo 42 (.len false (.t 41)),9,false),
 (zo 43 (.mv (zK 0)),10,false)] [2,3,4,6,41,42,43])
 (.block 1 (.loop [2,3,4,6,41,42,43] b29L0)))
 (.seq (.reg [zm 52 6,zo 53 (.mm true (.t 52) [(zK 1)]),zm 6 53] [2,3,4,6])
 (.seq (.regd [(zo 55 (.ld 2 true (.t 2)),0,false),
 (zm 56 6,1,false),
 (zo 57 (.call 68 [(.t 55),(.t 56)]),2,false),
 (zo 58 (.ld 2 true (.t 3)),3,false),
 (zm 59 6,4,false),
 (zo 60 (.call 68 [(.t 58),(.t 59)]),5,true),
 (zo 61 (.call 67 [(.t 57),(.t 60)]),6,true),
 (zm 54 61,7,false),
 (zo 62 (.ext (.t 54) 0),8,false),
 (zo 63 (.ext (.t 54) 1),9,false),
 (zm 9 62,10,false),
 (zm 10 63,11,false)] [4,6,9,10])
 (.seq (.seq (.reg [zm 64 10,zo 65 (.un .not (.t 64))] [4,6,9,65])
 (.cond (.t 65)
 (.seq (.reg [zo 66 (.bld [.bool false,.nilS] []),⟨none,.st 2 (.t 4) (.t 66),none⟩,zo 5 (.mv (zK 9))] [4,5])
 (.ret))
 (.skip)))
 (.seq (.reg [zm 67 9,zo 68 (.len false (.t 67)),zo 69 (.mk 2 16 [.int .i64 0,.int .i64 0] (zK 0) (.t 68)),zm 11 69] [4,6,9,11])
 (.seq (.seq (.reg [zm 70 9,zo 71 (.len false (.t 70)),zo 72 (.mv (zK 0))] [4,6,11,70,71,72])
 (.block 3 (.loop [4,6,11,70,71,72] b29L1)))
 (.seq (.reg [zm 86 11,zo 87 (.call 69 [(.t 86)]),zo 88 (.call 25 [(.t 87)]),zo 14 (.new [.bool false,.nilS]),⟨none,.st 2 (.t 14) (.t 88),none⟩] [4,14])
 (.seq (.seq (.reg [zo 89 (.ld 2 true (.t 14)),zo 90 (.call 39 [(.t 89)])] [4,14,90])
 (.cond (.t 90)
 (.seq (.reg [zo 91 (.bld [.bool false,.nilS] []),⟨none,.st 2 (.t 4) (.t 91),none⟩,zo 5 (.mv (zK 9))] [4,5])
 (.ret))
 (.skip)))
 (.seq (.reg [zo 92 (.ld 2 true (.t 14)),⟨none,.st 2 (.t 4) (.t 92),none⟩,zo 5 (.mv (zK 0))] [4,5])
 (.ret))))))))))))
def a29:AFun:=⟨2,b29,[.cell 4 2 true,.t 5]⟩
def b30L0:AC :=
 .seq (.reg [zo 78 (.bin .lss (.t 77) (.t 76))] [2,3,4,6,7,75,76,77,78])
 (.seq (.cond (.t 78)
 (.skip)
 (.exit 1))
 (.seq (.block 2 (.seq (.reg [zo 79 (.idxA 2 (.t 75) (.t 77)),zo 80 (.ld 2 true (.t 79)),zo 9 (.new [.int .i64 0,.int .i64 0]),⟨none,.st 2 (.t 9) (.t 80),none⟩] [2,3,4,6,7,9,75,76,77])
 (.regd [(zm 81 7,0,false),
 (zo 82 (.fldA 0 (.t 9)),1,false),
 (zo 83 (.ld 1 false (.t 82)),2,false),
 (zo 84 (.ld 2 true (.t 2)),3,false),
 (zo 85 (.call 53 [(.t 84)]),4,false),
 (zo 86 (.bin .sub (.t 83) (.t 85)),5,false),
 (zo 87 (.fldA 1 (.t 9)),6,false),
 (zo 88 (.ld 1 false (.t 87)),7,false),
 (zo 89 (.call 71 [(.t 88)]),8,false),
 (zo 90 (.idxA 2 (.t 81) (.t 86)),9,false),
 (⟨none,.st 2 (.t 90) (.t 89),none⟩,10,true)] [2,3,4,6,7,75,76,77])))
 (.reg [zo 91 (.bin .add (.t 77) (zK 1)),zm 77 91] [2,3,4,6,7,75,76,77])))
def b30L2:AC :=
 .seq (.reg [zo 142 (.bin .lss (.t 141) (.t 140))] [2,3,4,6,7,10,11,12,93,94,139,140,141,142])
 (.seq (.cond (.t 142)
 (.skip)
 (.exit 5))
 (.seq (.block 6 (.seq (.reg [zo 143 (.idxA 2 (.t 139) (.t 141)),zo 144 (.ld 2 true (.t 143)),zo 16 (.new [.int .i64 0,.int .i64 0]),⟨none,.st 2 (.t 16) (.t 144),none⟩] [2,3,4,6,7,10,11,12,16,93,94,139,140,141])
 (.seq (.regd [(zm 145 11,0,false),
 (zo 146 (.fldA 0 (.t 16)),1,false),
 (zo 147 (.ld 1 false (.t 146)),2,false),
 (zo 148 (.bin .add (.t 145) (.t 147)),3,false),
 (zo 149 (.ld 2 true (.t 3)),4,false),
 (zo 150 (.call 53 [(.t 149)]),5,false),
 (zo 151 (.bin .sub (.t 148) (.t 150)),6,false),
 (zm 17 151,7,false)] [2,3,4,6,7,10,11,12,16,17,93,94,139,140,141])
 (.regd [(zm 152 7,0,false),
 (zm 153 17,1,false),
 (zm 154 7,2,false),
 (zm 155 17,3,false),
 (zo 156 (.idxA 2 (.t 154) (.t 155)),4,false),
 (zo 157 (.ld 2 true (.t 156)),5,false),
 (zm 158 12,6,false),
 (zo 159 (.un .neg (.t 158)),7,false),
 (zo 160 (.fldA 1 (.t 16)),8,false),
 (zo 161 (.ld 1 false (.t 160)),9,false),
 (zo 162 (.call 74 [(.t 159),(.t 161)]),10,false),
 (zo 163 (.call 58 [(.t 157),(.t 162)]),11,true),
 (zo 164 (.idxA 2 (.t 152) (.t 153)),12,false),
 (⟨none,.st 2 (.t 164) (.t 163),none⟩,13,true)] [2,3,4,6,7,10,11,12,93,94,139,140,141]))))
 (.reg [zo 165 (.bin .add (.t 141) (zK 1)),zm 141 165] [2,3,4,6,7,10,11,12,93,94,139,140,141])))
def b30L1:AC :=
 .seq (.reg [zo 95 (.bin .lss (.t 94) (.t 93))] [2,3,4,6,7,10,93,94,95])
 (.seq (.cond (.t 95)
 (.skip)
 (.exit 3))
 (.seq (.block 4 (.seq (.reg [zm 96 94,zm 11 96] [2,3,4,6,7,10,11,93,94])
 (.seq (.seq (.reg [zm 97 7,zm 98 11,zo 99 (.idxA 2 (.t 97) (.t 98)),zo 100 (.ld 2 true (.t 99)),zo 101 (.call 72 [(.t 100)])] [2,3,4,6,7,10,11,93,94,101])
 (.cond (.t 101)
 (.exit 4)
 (.skip)))
 (.seq (.regd [(zm 103 7,0,false),
 (zm 104 11,1,false),
 (zo 105 (.idxA 2 (.t 103) (.t 104)),2,false),
 (zo 106 (.ld 2 true (.t 105)),3,false),
 (zo 107 (.fldA 1 (.t 3)),4,false),
 (zo 108 (.ld 1 false (.t 107)),5,false),
 (zo 109 (.idxA 2 (.t 108) (zK 0)),6,false),
 (zo 110 (.fldA 1 (.t 109)),7,false),
 (zo 111 (.ld 1 false (.t 110)),8,false),
 (zo 112 (.call 73 [(.t 106),(.t 111)]),9,true),
 (zm 102 112,10,false),
 (zo 113 (.ext (.t 102) 0),11,false),
 (zo 114 (.ext (.t 102) 1),12,false),
 (zm 12 113,13,false),
 (zm 13 114,14,false)] [2,3,4,6,7,10,11,12,13,93,94])
 (.seq (.regd [(zo 115 (.ld 2 true (.t 2)),0,false),
 (zo 116 (.call 53 [(.t 115)]),1,false),
 (zo 117 (.ld 2 true (.t 3)),2,false),
 (zo 118 (.call 53 [(.t 117)]),3,true),
 (zo 119 (.bin .sub (.t 116) (.t 118)),4,false),
 (zm 120 11,5,false),
 (zo 121 (.bin .add (.t 119) (.t 120)),6,false),
 (zm 14 121,7,false)] [2,3,4,6,7,10,11,12,13,14,93,94])
 (.seq (.seq (.reg [zm 122 13,zo 123 (.un .not (.t 122)),zm 124 123,⟨some 125,.mv (.t 14),(some (124,false))⟩,⟨some 126,.call 50 [(.t 125),(zK 1048576)],(some (124,false))⟩,⟨some 127,.un .not (.t 126),(some (124,false))⟩,zo 128 (.pick (.t 124) (.k (.sc (.bool true))) (.t 127))] [2,3,4,6,7,10,11,12,14,93,94,128])
 (.cond (.t 128)
 (.seq (.reg [zo 129 (.bld [.bool false,.nilS] []),⟨none,.st 2 (.t 4) (.t 129),none⟩,zo 5 (.mv (zK 10))] [4,5])
 (.ret))
 (.skip)))
 (.seq (.reg [zo 130 (.fldA 1 (.t 10)),zo 131 (.ld 1 false (.t 130)),zm 132 14,zm 133 12,zo 134 (.bld [.int .i64 0,.int .i64 0] [(0,1,.t 132),(1,1,.t 133)]),zo 135 (.bsl 2 [.int .i64 0,.int .i64 0] 1 [(0,.t 134)]),zo 136 (.app 2 16 [.int .i64 0,.int .i64 0] (.t 131) (.t 135)),zo 137 (.fldA 1 (.t 10)),⟨none,.st 1 (.t 137) (.t 136),none⟩] [2,3,4,6,7,10,11,12,93,94])
 (.seq (.reg [zo 138 (.fldA 1 (.t 3)),zo 139 (.ld 1 false (.t 138)),zo 140 (.len false (.t 139)),zo 141 (.mv (zK 0))] [2,3,4,6,7,10,11,12,93,94,139,140,141])
 (.block 5 (.loop [2,3,4,6,7,10,11,12,93,94,139,140,141] b30L2))))))))))
 (.reg [zo 166 (.bin .add (.t 94) (zK 1)),zm 94 166] [2,3,4,6,7,10,93,94])))
def b30L3:AC :=
 .seq (.reg [zo 173 (.bin .lss (.t 172) (.t 171))] [4,10,170,171,172,173])
 (.seq (.cond (.t 173)
 (.skip)
 (.exit 7))
 (.seq (.block 8 (.seq (.reg [zo 174 (.idxA 2 (.t 170) (.t 172)),zo 175 (.ld 2 true (.t 174)),zo 19 (.new [.int .u64 0,.int .u64 0]),⟨none,.st 2 (.t 19) (.t 175),none⟩] [4,10,19,170,171,172])
 (.seq (.reg [zo 176 (.ld 2 true (.t 19)),zo 177 (.call 72 [(.t 176)]),zo 178 (.un .not (.t 177))] [4,10,170,171,172,178])
 (.cond (.t 178)
 (.seq (.reg [zo 179 (.bld [.bool false,.nilS] []),⟨none,.st 2 (.t 4) (.t 179),none⟩,zo 5 (.mv (zK 10))] [4,5])
 (.ret))
 (.skip)))))
 (.reg [zo 180 (.bin .add (.t 172) (zK 1)),zm 172 180] [4,10,170,171,172])))
def b30:AC :=
 .seq (.reg [zo 2 (.box (.t 0)),zo 3 (.box (.t 1)),zo 4 (.new [.bool false,.nilS]),zo 5 (.mv (zK 0))] [2,3,4])
 (.seq (.block 0 (.seq (.reg [zo 21 (.fldA 0 (.t 2)),zo 22 (.ld 1 false (.t 21)),zm 23 22,⟨some 24,.fldA 0 (.t 3),(some (23,false))⟩,⟨some 25,.ld 1 false (.t 24),(some (23,false))⟩,zo 26 (.pick (.t 23) (.k (.sc (.bool true))) (.t 25)),zm 20 26] [2,3,4,20])
 (.cond (.t 20)
 (.seq (.reg [zo 27 (.bld [.bool false,.nilS] []),⟨none,.st 2 (.t 4) (.t 27),none⟩,zo 5 (.mv (zK 9))] [4,5])
 (.ret))
 (.seq (.reg [zo 29 (.fldA 1 (.t 3)),zo 30 (.ld 1 false (.t 29)),zo 31 (.len false (.t 30)),zo 32 (.bin .eql (.t 31) (zK 0)),zm 28 32] [2,3,4,28])
 (.cond (.t 28)
 (.seq (.reg [zo 33 (.bld [.bool false,.nilS] []),⟨none,.st 2 (.t 4) (.t 33),none⟩,zo 5 (.mv (zK 2))] [4,5])
 (.ret))
 (.seq (.reg [zo 35 (.fldA 1 (.t 2)),zo 36 (.ld 1 false (.t 35)),zo 37 (.len false (.t 36)),zo 38 (.bin .eql (.t 37) (zK 0)),zm 34 38] [2,3,4,34])
 (.cond (.t 34)
 (.seq (.reg [zo 39 (.bld [.bool false,.nilS] []),⟨none,.st 2 (.t 4) (.t 39),none⟩,zo 5 (.mv (zK 0))] [4,5])
 (.ret))
 (.seq (.reg [zo 41 (.fldA 1 (.t 3)),zo 42 (.ld 1 false (.t 41)),zo 43 (.len false (.t 42)),zo 44 (.bin .eql (.t 43) (zK 1)),zm 40 44] [2,3,4,40])
 (.cond (.t 40)
 (.seq (.regd [(zo 45 (.ld 2 true (.t 2)),0,false),
 (zo 46 (.fldA 1 (.t 3)),1,false),
 (zo 47 (.ld 1 false (.t 46)),2,false),
 (zo 48 (.idxA 2 (.t 47) (zK 0)),3,false),
 (zo 49 (.ld 2 true (.t 48)),4,false),
 (zo 50 (.call 70 [(.t 45),(.t 49)]),5,true),
 (zo 51 (.ext (.t 50) 0),6,false),
 (zo 52 (.ext (.t 50) 1),7,false),
 (⟨none,.st 2 (.t 4) (.t 51),none⟩,8,true),
 (zm 5 52,9,false)] [4,5])
 (.ret))
 (.skip))))))))))
 (.seq (.regd [(zo 53 (.ld 2 true (.t 2)),0,false),
 (zo 54 (.call 54 [(.t 53)]),1,false),
 (zo 55 (.ld 2 true (.t 2)),2,false),
 (zo 56 (.call 53 [(.t 55)]),3,false),
 (zo 57 (.bin .sub (.t 54) (.t 56)),4,false),
 (zo 58 (.ld 2 true (.t 3)),5,false),
 (zo 59 (.call 54 [(.t 58)]),6,false),
 (zo 60 (.ld 2 true (.t 3)),7,false),
 (zo 61 (.call 53 [(.t 60)]),8,true),
 (zo 62 (.bin .sub (.t 59) (.t 61)),9,false),
 (zo 63 (.bin .sub (.t 57) (.t 62)),10,false),
 (zm 6 63,11,false)] [2,3,4,6])
 (.seq (.seq (.reg [zm 64 6,zo 65 (.bin .lss (.t 64) (zK 0))] [2,3,4,6,65])
 (.cond (.t 65)
 (.seq (.reg [zo 66 (.bld [.bool false,.nilS] []),⟨none,.st 2 (.t 4) (.t 66),none⟩,zo 5 (.mv (zK 10))] [4,5])
 (.ret))
 (.skip)))
 (.seq (.regd [(zo 67 (.ld 2 true (.t 2)),0,false),
 (zo 68 (.call 54 [(.t 67)]),1,false),
 (zo 69 (.ld 2 true (.t 2)),2,false),
 (zo 70 (.call 53 [(.t 69)]),3,true),
 (zo 71 (.bin .sub (.t 68) (.t 70)),4,false),
 (zo 72 (.bin .add (.t 71) (zK 1)),5,false),
 (zo 73 (.mk 2 16 [.int .u64 0,.int .u64 0] (.t 72) (.t 72)),6,true),
 (zm 7 73,7,false)] [2,3,4,6,7])
 (.seq (.seq (.reg [zo 74 (.fldA 1 (.t 2)),zo 75 (.ld 1 false (.t 74)),zo 76 (.len false (.t 75)),zo 77 (.mv (zK 0))] [2,3,4,6,7,75,76,77])
 (.block 1 (.loop [2,3,4,6,7,75,76,77] b30L0)))
 (.seq (.reg [⟨some 10, .new [.bool false, .nilS], none⟩] [2, 3, 4, 6, 7, 10])
 (.seq (.seq (.reg [zm 92 6,zo 93 (.bin .add (.t 92) (zK 1)),zo 94 (.mv (zK 0))] [2,3,4,6,7,10,93,94])
 (.block 3 (.loop [2,3,4,6,7,10,93,94] b30L1)))
 (.seq (.seq (.reg [zm 167 7,zm 168 6,zo 169 (.bin .add (.t 168) (zK 1)),zo 170 (.sl 2 (.t 167) (some (.t 169)) none),zo 171 (.len false (.t 170)),zo 172 (.mv (zK 0))] [4,10,170,171,172])
 (.block 7 (.loop [4,10,170,171,172] b30L3)))
 (.seq (.reg [zo 181 (.ld 2 true (.t 10)),⟨none,.st 2 (.t 4) (.t 181),none⟩,zo 5 (.mv (zK 0))] [4,5])
 (.ret))))))))))
def a30:AFun:=⟨2,b30,[.cell 4 2 true,.t 5]⟩
def QkF:AC :=
 .seq (.seq (.reg [zm 9 5,zm 10 0,zo 11 (.len false (.t 10)),zo 12 (.bin .lss (.t 9) (.t 11))] [0,5,12])
 (.cond (.t 12)
 (.skip)
 (.exit 0)))
 (.seq (.block 1 (.seq (.regd [(zm 15 0,0,false),
 (zm 16 5,1,false),
 (zo 17 (.idxA 1 (.t 15) (.t 16)),2,false),
 (zo 18 (.ld 1 false (.t 17)),3,false),
 (zo 19 (.len false (.t 18)),4,false),
 (zm 20 0,5,false),
 (zo 21 (.idxA 1 (.t 20) (zK 0)),6,false),
 (zo 22 (.ld 1 false (.t 21)),7,false),
 (zo 23 (.len false (.t 22)),8,false),
 (zo 24 (.bin .neq (.t 19) (.t 23)),9,false)] [0,5,24])
 (.cond (.t 24)
 (.seq (.reg [zo 2 (.mv (zK 0)),zo 3 (.mv (zK 0)),zo 4 (.mv (.k (.sc (.bool false))))] [2,3,4])
 (.ret))
 (.skip))))
 (.reg [zm 13 5,zo 14 (.bin .add (.t 13) (zK 1)),zm 5 14] [0,5]))
def b32:AC :=
 .seq (.reg [zo 2 (.mv (zK 0)),zo 3 (.mv (zK 0)),zo 4 (.mv (.k (.sc (.bool false))))] [0])
 (.seq (.seq (.reg [zm 6 0,zo 7 (.len false (.t 6)),zo 8 (.bin .eql (.t 7) (zK 0))] [0,8])
 (.cond (.t 8)
 (.seq (.reg [zo 2 (.mv (zK 0)),zo 3 (.mv (zK 0)),zo 4 (.mv (.k (.sc (.bool true))))] [2,3,4])
 (.ret))
 (.skip)))
 (.seq (.seq (.reg [zo 5 (.mv (zK 0))] [0,5])
 (.block 0 (.loop [0,5] QkF)))
 (.seq (.regd [(zm 25 0,0,false),
 (zo 26 (.len false (.t 25)),1,false),
 (zm 27 0,2,false),
 (zo 28 (.idxA 1 (.t 27) (zK 0)),3,false),
 (zo 29 (.ld 1 false (.t 28)),4,true),
 (zo 30 (.len false (.t 29)),5,false),
 (zm 2 26,6,false),
 (zm 3 30,7,false),
 (zo 4 (.mv (.k (.sc (.bool true)))),8,false)] [2,3,4])
 (.ret))))
def a32:AFun:=⟨1,b32,[.t 2,.t 3,.t 4]⟩
def QkE:AC :=
 .seq (.reg [zo 8 (.bin .lss (.t 7) (.t 6))] [0,5,6,7,8])
 (.seq (.cond (.t 8)
 (.skip)
 (.exit 0))
 (.seq (.block 1 (.seq (.reg [zo 9 (.idxA 1 (.t 5) (.t 7)),zo 10 (.ld 1 false (.t 9)),zm 4 10] [0,4,5,6,7])
 (.seq (.reg [zm 11 4,zo 12 (.len false (.t 11)),zm 13 0,zo 14 (.idxA 1 (.t 13) (zK 0)),zo 15 (.ld 1 false (.t 14)),zo 16 (.len false (.t 15)),zo 17 (.bin .neq (.t 12) (.t 16))] [0,5,6,7,17])
 (.cond (.t 17)
 (.seq (.reg [⟨some 2, .mv (.k (.sc (.bool false))), none⟩] [2])
 (.ret))
 (.skip)))))
 (.reg [zo 18 (.bin .add (.t 7) (zK 1)),zm 7 18] [0,5,6,7])))
def b35:AC :=
 .seq (.reg [zo 2 (.mv (.k (.sc (.bool false))))] [0])
 (.seq (.seq (.reg [zm 5 0,zo 6 (.len false (.t 5)),zo 7 (.mv (zK 0))] [0,5,6,7])
 (.block 0 (.loop [0,5,6,7] QkE)))
 (.seq (.reg [⟨some 2, .mv (.k (.sc (.bool true))), none⟩] [2])
 (.ret)))
def a35:AFun:=⟨1,b35,[.t 2]⟩
def b36:AC :=
 .seq (.reg [zo 2 (.mv (.k (.sc (.bool false))))] [0])
 (.seq (.reg [zm 3 0,zo 4 (.len false (.t 3)),zo 5 (.bin .gtr (.t 4) (zK 64)),zm 6 5,⟨some 7,.mv (.t 0),(some (6,false))⟩,⟨some 8,.call 37 [(.t 7)],(some (6,false))⟩,⟨some 9,.bin .gtr (.t 8) (zK 64),(some (6,false))⟩,zo 10 (.pick (.t 6) (.k (.sc (.bool true))) (.t 9)),zm 2 10] [2])
 (.ret))
def a36:AFun:=⟨1,b36,[.t 2]⟩
def b37:AC :=
 .seq (.reg [zo 2 (.mv (zK 0))] [0])
 (.seq (.seq (.reg [zm 3 0,zo 4 (.len false (.t 3)),zo 5 (.bin .eql (.t 4) (zK 0))] [0,5])
 (.cond (.t 5)
 (.seq (.reg [⟨some 2, .mv (zK 0), none⟩] [2])
 (.ret))
 (.skip)))
 (.seq (.reg [zm 6 0,zo 7 (.idxA 1 (.t 6) (zK 0)),zo 8 (.ld 1 false (.t 7)),zo 9 (.len false (.t 8)),zm 2 9] [2])
 (.ret)))
def a37:AFun:=⟨1,b37,[.t 2]⟩
def b38:AC :=
 .seq (.reg [zo 4 (.mv (.k (.sc (.bool false))))] [0,1])
 (.seq (.reg [zm 5 0,zm 6 1,zo 7 (.call 75 [(.t 5),(.t 6)]),zo 8 (.bin .geq (.t 7) (zK 0)),zm 4 8] [4])
 (.ret))
def a38:AFun:=⟨2,b38,[.t 4]⟩
def b39:AC :=
 .seq (.reg [zo 1 (.box (.t 0)),zo 2 (.mv (.k (.sc (.bool false))))] [1])
 (.seq (.reg [zo 3 (.fldA 0 (.t 1)),zo 4 (.ld 1 false (.t 3)),zm 2 4] [2])
 (.ret))
def a39:AFun:=⟨1,b39,[.t 2]⟩
def QkC:AC :=
 .seq (.reg [zo 34 (.bin .lss (.t 33) (.t 32))] [0,2,4,5,6,7,8,9,10,11,24,25,26,31,32,33,34])
 (.seq (.cond (.t 34)
 (.skip)
 (.exit 2))
 (.seq (.block 3 (.seq (.reg [zo 35 (.idxA 2 (.t 31) (.t 33)),zo 36 (.ld 2 true (.t 35)),zo 13 (.new [.bool false,.nilS]),⟨none,.st 2 (.t 13) (.t 36),none⟩] [0,2,4,5,6,7,8,9,10,11,13,24,25,26,31,32,33])
 (.block 4 (.seq (.reg [zo 46 (.ld 2 true (.t 13)),zo 47 (.call 14 [(.t 46)]),zm 45 47] [0,2,4,5,6,7,8,9,10,11,13,24,25,26,31,32,33,45])
 (.cond (.t 45)
 (.skip)
 (.seq (.reg [zm 49 11,zo 50 (.un .not (.t 49)),zm 48 50] [0,2,4,5,6,7,8,9,10,11,13,24,25,26,31,32,33,48])
 (.cond (.t 48)
 (.regd [(zo 51 (.ld 2 true (.t 13)),0,false),
 (zo 52 (.call 53 [(.t 51)]),1,false),
 (zo 53 (.ld 2 true (.t 13)),2,false),
 (zo 54 (.call 54 [(.t 53)]),3,true),
 (zm 9 52,4,false),
 (zm 10 54,5,false),
 (zo 11 (.mv (.k (.sc (.bool true)))),6,false)] [0,2,4,5,6,7,8,9,10,11,24,25,26,31,32,33])
 (.regd [(zm 37 9,0,false),
 (zo 38 (.ld 2 true (.t 13)),1,false),
 (zo 39 (.call 53 [(.t 38)]),2,false),
 (zo 40 (.mm false (.t 37) [(.t 39)]),3,false),
 (zm 41 10,4,false),
 (zo 42 (.ld 2 true (.t 13)),5,false),
 (zo 43 (.call 54 [(.t 42)]),6,true),
 (zo 44 (.mm true (.t 41) [(.t 43)]),7,false),
 (zm 9 40,8,false),
 (zm 10 44,9,false)] [0,2,4,5,6,7,8,9,10,11,24,25,26,31,32,33]))))))))
 (.reg [zo 55 (.bin .add (.t 33) (zK 1)),zm 33 55] [0,2,4,5,6,7,8,9,10,11,24,25,26,31,32,33])))
def QkD:AC :=
 .seq (.reg [zo 27 (.bin .lss (.t 26) (.t 25))] [0,2,4,5,6,24,25,26,27])
 (.seq (.cond (.t 27)
 (.skip)
 (.exit 0))
 (.seq (.block 1 (.seq (.reg [zm 28 26,zo 29 (.idxA 1 (.t 24) (.t 26)),zo 30 (.ld 1 false (.t 29)),zm 7 28,zm 8 30] [0,2,4,5,6,7,8,24,25,26])
 (.seq (.reg [zo 9 (.mv (zK 0)),zo 10 (.mv (zK 0)),zo 11 (.mv (.k (.sc (.bool false))))] [0,2,4,5,6,7,8,9,10,11,24,25,26])
 (.seq (.seq (.reg [zm 31 8,zo 32 (.len false (.t 31)),zo 33 (.mv (zK 0))] [0,2,4,5,6,7,8,9,10,11,24,25,26,31,32,33])
 (.block 2 (.loop [0,2,4,5,6,7,8,9,10,11,24,25,26,31,32,33] QkC)))
 (.seq (.seq (.reg [zm 56 11,zo 57 (.un .not (.t 56)),zm 58 57,⟨some 59,.mv (.t 8),(some (58,true))⟩,⟨some 60,.len false (.t 59),(some (58,true))⟩,⟨some 61,.bin .gtr (.t 60) (zK 0),(some (58,true))⟩,zo 62 (.pick (.t 58) (.t 61) (.k (.sc (.bool false))))] [0,2,4,5,6,7,9,10,24,25,26,62])
 (.cond (.t 62)
 (.seq (.reg [zo 63 (.bld [.bool false,.nilS] []),⟨none,.st 2 (.t 2) (.t 63),none⟩,zo 3 (.mv (.k (.sc (.bool true))))] [2,3])
 (.ret))
 (.skip)))
 (.seq (.reg [zm 64 4,zm 65 7,zm 66 9,zo 67 (.idxA 1 (.t 64) (.t 65)),⟨none,.st 1 (.t 67) (.t 66),none⟩] [0,2,4,5,6,9,10,24,25,26])
 (.seq (.reg [zm 68 5,zm 69 9,zo 70 (.bin .add (.t 68) (.t 69)),zm 5 70] [0,2,4,5,6,9,10,24,25,26])
 (.reg [zm 71 6,zm 72 10,zm 73 9,zo 74 (.bin .sub (.t 72) (.t 73)),zo 75 (.bin .add (.t 71) (.t 74)),zm 6 75] [0,2,4,5,6,24,25,26]))))))))
 (.reg [zo 76 (.bin .add (.t 26) (zK 1)),zm 26 76] [0,2,4,5,6,24,25,26])))
def QkA:AC :=
 .seq (.reg [zo 96 (.bin .lss (.t 95) (.t 94))] [2,4,5,6,14,15,86,87,88,93,94,95,96])
 (.seq (.cond (.t 96)
 (.skip)
 (.exit 7))
 (.seq (.block 8 (.seq (.reg [zo 97 (.idxA 2 (.t 93) (.t 95)),zo 98 (.ld 2 true (.t 97)),zo 18 (.new [.bool false,.nilS]),⟨none,.st 2 (.t 18) (.t 98),none⟩] [2,4,5,6,14,15,18,86,87,88,93,94,95])
 (.regd [(zm 99 14,0,false),
 (zm 100 15,1,false),
 (zm 101 14,2,false),
 (zm 102 15,3,false),
 (zo 103 (.idxA 1 (.t 101) (.t 102)),4,false),
 (zo 104 (.ld 1 false (.t 103)),5,false),
 (zo 105 (.ld 2 true (.t 18)),6,false),
 (zm 106 4,7,false),
 (zm 107 15,8,false),
 (zo 108 (.idxA 1 (.t 106) (.t 107)),9,false),
 (zo 109 (.ld 1 false (.t 108)),10,false),
 (zo 110 (.call 65 [(.t 105),(.t 109)]),11,false),
 (zo 111 (.bsl 1 [.nilS] 1 [(0,.t 110)]),12,false),
 (zo 112 (.app 1 24 [.nilS] (.t 104) (.t 111)),13,true),
 (zo 113 (.idxA 1 (.t 99) (.t 100)),14,false),
 (⟨none,.st 1 (.t 113) (.t 112),none⟩,15,true)] [2,4,5,6,14,15,86,87,88,93,94,95])))
 (.reg [zo 114 (.bin .add (.t 95) (zK 1)),zm 95 114] [2,4,5,6,14,15,86,87,88,93,94,95])))
def QkB:AC :=
 .seq (.reg [zo 89 (.bin .lss (.t 88) (.t 87))] [2,4,5,6,14,86,87,88,89])
 (.seq (.cond (.t 89)
 (.skip)
 (.exit 5))
 (.seq (.block 6 (.seq (.reg [zm 90 88,zo 91 (.idxA 1 (.t 86) (.t 88)),zo 92 (.ld 1 false (.t 91)),zm 15 90,zm 16 92] [2,4,5,6,14,15,16,86,87,88])
 (.seq (.reg [zm 93 16,zo 94 (.len false (.t 93)),zo 95 (.mv (zK 0))] [2,4,5,6,14,15,86,87,88,93,94,95])
 (.block 7 (.loop [2,4,5,6,14,15,86,87,88,93,94,95] QkA)))))
 (.reg [zo 115 (.bin .add (.t 88) (zK 1)),zm 88 115] [2,4,5,6,14,86,87,88])))
def b40:AC :=
 .seq (.reg [zo 2 (.new [.bool false,.nilS]),zo 3 (.mv (.k (.sc (.bool false))))] [0,2])
 (.seq (.reg [zm 21 0,zo 22 (.len false (.t 21)),zo 23 (.mk 1 8 [.int .i64 0] (.t 22) (.t 22)),zm 4 23] [0,2,4])
 (.seq (.reg [zo 5 (.mv (zK 0)),zo 6 (.mv (zK 0))] [0,2,4,5,6])
 (.seq (.seq (.reg [zm 24 0,zo 25 (.len false (.t 24)),zo 26 (.mv (zK 0))] [0,2,4,5,6,24,25,26])
 (.block 0 (.loop [0,2,4,5,6,24,25,26] QkD)))
 (.seq (.seq (.reg [zm 77 6,zo 78 (.bin .geq (.t 77) (zK 131072))] [0,2,4,5,6,78])
 (.cond (.t 78)
 (.seq (.reg [zm 79 0,zo 80 (.call 76 [(.t 79)]),zo 81 (.ext (.t 80) 0),zo 82 (.ext (.t 80) 1),⟨none,.st 2 (.t 2) (.t 81),none⟩,zm 3 82] [2,3])
 (.ret))
 (.skip)))
 (.seq (.reg [zm 83 0,zo 84 (.len false (.t 83)),zo 85 (.mk 1 24 [.nilS] (.t 84) (.t 84)),zm 14 85] [0,2,4,5,6,14])
 (.seq (.seq (.reg [zm 86 0,zo 87 (.len false (.t 86)),zo 88 (.mv (zK 0))] [2,4,5,6,14,86,87,88])
 (.block 5 (.loop [2,4,5,6,14,86,87,88] QkB)))
 (.seq (.reg [zm 117 14,zm 118 6,zo 119 (.call 77 [(.t 117),(.t 118)]),zm 116 119,zo 120 (.ext (.t 116) 0),zo 121 (.ext (.t 116) 1),zm 19 120,zm 20 121] [2,5,19,20])
 (.seq (.seq (.reg [zm 122 20,zo 123 (.un .not (.t 122))] [2,5,19,123])
 (.cond (.t 123)
 (.seq (.reg [zo 124 (.bld [.bool false,.nilS] []),⟨none,.st 2 (.t 2) (.t 124),none⟩,zo 3 (.mv (.k (.sc (.bool false))))] [2,3])
 (.ret))
 (.skip)))
 (.seq (.reg [zm 125 5,zm 126 19,zo 127 (.call 20 [(.t 125),(.t 126)]),⟨none,.st 2 (.t 2) (.t 127),none⟩,zo 3 (.mv (.k (.sc (.bool true))))] [2,3])
 (.ret))))))))))
def a40:AFun:=⟨1,b40,[.cell 2 2 true,.t 3]⟩
def b41:AC :=
 .seq (.reg [zo 4 (.mv (.k (.sc .nilI)))] [0,1])
 (.seq (.reg [zm 5 0,zo 6 (.call 78 [(.t 5)])] [0,1])
 (.seq (.reg [zm 7 0,zm 8 0,zo 9 (.nilc (.t 8)),zo 10 (.fldA 1 (.t 9)),zo 11 (.ld 1 false (.t 10)),zm 12 1,⟨some 13,.bsl ⟨1,some 5⟩ [.int .u8 0] 1 [(0,.t 12)],none⟩,⟨some 14,.app ⟨1,some 5⟩ 1 [.int .u8 0] (.t 11) (.t 13),none⟩,zo 15 (.nilc (.t 7)),zo 16 (.fldA 1 (.t 15)),⟨none,.st 1 (.t 16) (.t 14),none⟩] [])
 (.seq (.reg [⟨some 4, .mv (.k (.sc .nilI)), none⟩] [4])
 (.ret))))
def a41:AFun:=⟨2,b41,[.t 4]⟩
def b42:AC :=
 .seq (.reg [zo 4 (.mv (zK 0)),zo 5 (.mv (.k (.sc .nilI)))] [0,1])
 (.seq (.reg [zm 6 0,zo 7 (.call 78 [(.t 6)])] [0,1])
 (.seq (.reg [zm 8 0,zm 9 0,zo 10 (.nilc (.t 9)),zo 11 (.fldA 1 (.t 10)),zo 12 (.ld 1 false (.t 11)),zm 13 1,⟨some 14,.app ⟨1,some 5⟩ 1 [.int .u8 0] (.t 12) (.t 13),none⟩,zo 15 (.nilc (.t 8)),zo 16 (.fldA 1 (.t 15)),⟨none,.st 1 (.t 16) (.t 14),none⟩] [1])
 (.seq (.reg [zm 17 1,zo 18 (.len true (.t 17)),zm 4 18,zo 5 (.mv (.k (.sc .nilI)))] [4,5])
 (.ret))))
def a42:AFun:=⟨2,b42,[.t 4,.t 5]⟩
def b44:AC :=
 .seq (.reg [⟨some 2,.mv (.k (.sc (.str ⟨#[]⟩))),none⟩] [0])
 (.seq (.regd [(zm 3 0,0,false),
 (zo 4 (.nilc (.t 3)),1,false),
 (zo 5 (.fldA 1 (.t 4)),2,false),
 (zo 6 (.ld 1 false (.t 5)),3,false),
 (zo 7 (.usd (.t 6)),4,false),
 (zm 8 0,5,false),
 (zo 9 (.nilc (.t 8)),6,false),
 (zo 10 (.fldA 1 (.t 9)),7,false),
 (zo 11 (.ld 1 false (.t 10)),8,false),
 (zo 12 (.len false (.t 11)),9,false),
 (zo 13 (.ustr 5 (.t 7) (.t 12)),10,true),
 (zm 2 13,11,false)] [2])
 (.ret))
def a44:AFun:=⟨1,b44,[.t 2]⟩
def b50:AC :=
 .seq (.reg [zo 4 (.mv (.k (.sc (.bool false))))] [0,1])
 (.seq (.reg [zm 5 0,zm 6 1,zo 7 (.un .neg (.t 6)),zo 8 (.bin .geq (.t 5) (.t 7)),zm 9 8,⟨some 10,.mv (.t 0),(some (9,true))⟩,⟨some 11,.mv (.t 1),(some (9,true))⟩,⟨some 12,.bin .leq (.t 10) (.t 11),(some (9,true))⟩,zo 13 (.pick (.t 9) (.t 12) (.k (.sc (.bool false)))),zm 4 13] [4])
 (.ret))
def a50:AFun:=⟨2,b50,[.t 4]⟩
def Qhp:AC :=
 .seq (.seq (.reg [zm 29 10,zo 30 (.fldA 1 (.t 3)),zo 31 (.ld 1 false (.t 30)),zo 32 (.len false (.t 31)),zo 33 (.bin .lss (.t 29) (.t 32)),zm 34 33,⟨some 35,.mv (.t 11),(some (34,false))⟩,⟨some 36,.fldA 1 (.t 4),(some (34,false))⟩,⟨some 37,.ld 1 false (.t 36),(some (34,false))⟩,⟨some 38,.len false (.t 37),(some (34,false))⟩,⟨some 39,.bin .lss (.t 35) (.t 38),(some (34,false))⟩,zo 40 (.pick (.t 34) (.k (.sc (.bool true))) (.t 39))] [3,4,6,7,8,9,10,11,40])
 (.cond (.t 40)
 (.skip)
 (.exit 0)))
 (.block 1 (.block 2 (.seq (.regd [(zm 66 11,0,false),
 (zo 67 (.fldA 1 (.t 4)),1,false),
 (zo 68 (.ld 1 false (.t 67)),2,true),
 (zo 69 (.len false (.t 68)),3,false),
 (zo 70 (.bin .eql (.t 66) (.t 69)),4,false),
 (zm 71 70,5,false),
 (⟨some 72,.mv (.t 10),(some (71,false))⟩,6,false),
 (⟨some 73,.fldA 1 (.t 3),(some (71,false))⟩,7,false),
 (⟨some 74,.ld 1 false (.t 73),(some (71,false))⟩,8,true),
 (⟨some 75,.len false (.t 74),(some (71,false))⟩,9,false),
 (⟨some 76,.bin .lss (.t 72) (.t 75),(some (71,false))⟩,10,false),
 (⟨some 77,.mv (.t 76),(some (71,false))⟩,11,false),
 (⟨some 78,.fldA 1 (.t 3),(some (77,true))⟩,12,false),
 (⟨some 79,.ld 1 false (.t 78),(some (77,true))⟩,13,false),
 (⟨some 80,.mv (.t 10),(some (77,true))⟩,14,false),
 (⟨some 81,.idxA 2 (.t 79) (.t 80),(some (77,true))⟩,15,false),
 (⟨some 82,.fldA 0 (.t 81),(some (77,true))⟩,16,false),
 (⟨some 83,.ld 1 false (.t 82),(some (77,true))⟩,17,false),
 (⟨some 84,.fldA 1 (.t 4),(some (77,true))⟩,18,false),
 (⟨some 85,.ld 1 false (.t 84),(some (77,true))⟩,19,false),
 (⟨some 86,.mv (.t 11),(some (77,true))⟩,20,false),
 (⟨some 87,.idxA 2 (.t 85) (.t 86),(some (77,true))⟩,21,false),
 (⟨some 88,.fldA 0 (.t 87),(some (77,true))⟩,22,false),
 (⟨some 89,.ld 1 false (.t 88),(some (77,true))⟩,23,false),
 (⟨some 90,.bin .lss (.t 83) (.t 89),(some (77,true))⟩,24,false),
 (⟨some 91,.pick (.t 77) (.t 90) (.k (.sc (.bool false))),(some (71,false))⟩,25,false),
 (zo 92 (.pick (.t 71) (.k (.sc (.bool true))) (.t 91)),26,false),
 (zm 65 92,27,false)] [3,4,6,7,8,9,10,11,65])
 (.cond (.t 65)
 (.seq (.regd [(zm 93 9,0,false),
 (zo 94 (.fldA 1 (.t 3)),1,false),
 (zo 95 (.ld 1 false (.t 94)),2,false),
 (zm 96 10,3,false),
 (zo 97 (.idxA 2 (.t 95) (.t 96)),4,false),
 (zo 98 (.fldA 0 (.t 97)),5,false),
 (zo 99 (.ld 1 false (.t 98)),6,false),
 (zo 100 (.fldA 1 (.t 3)),7,false),
 (zo 101 (.ld 1 false (.t 100)),8,false),
 (zm 102 10,9,false),
 (zo 103 (.idxA 2 (.t 101) (.t 102)),10,false),
 (zo 104 (.fldA 1 (.t 103)),11,false),
 (zo 105 (.ld 1 false (.t 104)),12,false),
 (zo 106 (.callv (.t 93) [(.t 99),(.t 105),(zK 0)]),13,true)] [3,4,6,7,8,9,10,11])
 (.reg [zm 107 10,zo 108 (.bin .add (.t 107) (zK 1)),zm 10 108] [3,4,6,7,8,9,10,11]))
 (.seq (.regd [(zm 110 10,0,false),
 (zo 111 (.fldA 1 (.t 3)),1,false),
 (zo 112 (.ld 1 false (.t 111)),2,true),
 (zo 113 (.len false (.t 112)),3,false),
 (zo 114 (.bin .eql (.t 110) (.t 113)),4,false),
 (zm 115 114,5,false),
 (⟨some 116,.fldA 1 (.t 4),(some (115,false))⟩,6,false),
 (⟨some 117,.ld 1 false (.t 116),(some (115,false))⟩,7,false),
 (⟨some 118,.mv (.t 11),(some (115,false))⟩,8,false),
 (⟨some 119,.idxA 2 (.t 117) (.t 118),(some (115,false))⟩,9,false),
 (⟨some 120,.fldA 0 (.t 119),(some (115,false))⟩,10,false),
 (⟨some 121,.ld 1 false (.t 120),(some (115,false))⟩,11,false),
 (⟨some 122,.fldA 1 (.t 3),(some (115,false))⟩,12,false),
 (⟨some 123,.ld 1 false (.t 122),(some (115,false))⟩,13,false),
 (⟨some 124,.mv (.t 10),(some (115,false))⟩,14,false),
 (⟨some 125,.idxA 2 (.t 123) (.t 124),(some (115,false))⟩,15,false),
 (⟨some 126,.fldA 0 (.t 125),(some (115,false))⟩,16,false),
 (⟨some 127,.ld 1 false (.t 126),(some (115,false))⟩,17,false),
 (⟨some 128,.bin .lss (.t 121) (.t 127),(some (115,false))⟩,18,false),
 (zo 129 (.pick (.t 115) (.k (.sc (.bool true))) (.t 128)),19,false),
 (zm 109 129,20,false)] [3,4,6,7,8,9,10,11,109])
 (.cond (.t 109)
 (.seq (.regd [(zm 130 9,0,false),
 (zo 131 (.fldA 1 (.t 4)),1,false),
 (zo 132 (.ld 1 false (.t 131)),2,false),
 (zm 133 11,3,false),
 (zo 134 (.idxA 2 (.t 132) (.t 133)),4,false),
 (zo 135 (.fldA 0 (.t 134)),5,false),
 (zo 136 (.ld 1 false (.t 135)),6,false),
 (zo 137 (.fldA 1 (.t 4)),7,false),
 (zo 138 (.ld 1 false (.t 137)),8,false),
 (zm 139 11,9,false),
 (zo 140 (.idxA 2 (.t 138) (.t 139)),10,false),
 (zo 141 (.fldA 1 (.t 140)),11,false),
 (zo 142 (.ld 1 false (.t 141)),12,false),
 (zo 143 (.callv (.t 130) [(.t 136),(zK 0),(.t 142)]),13,true)] [3,4,6,7,8,9,10,11])
 (.reg [zm 144 11,zo 145 (.bin .add (.t 144) (zK 1)),zm 11 145] [3,4,6,7,8,9,10,11]))
 (.seq (.regd [(zm 41 9,0,false),
 (zo 42 (.fldA 1 (.t 3)),1,false),
 (zo 43 (.ld 1 false (.t 42)),2,false),
 (zm 44 10,3,false),
 (zo 45 (.idxA 2 (.t 43) (.t 44)),4,false),
 (zo 46 (.fldA 0 (.t 45)),5,false),
 (zo 47 (.ld 1 false (.t 46)),6,false),
 (zo 48 (.fldA 1 (.t 3)),7,false),
 (zo 49 (.ld 1 false (.t 48)),8,false),
 (zm 50 10,9,false),
 (zo 51 (.idxA 2 (.t 49) (.t 50)),10,false),
 (zo 52 (.fldA 1 (.t 51)),11,false),
 (zo 53 (.ld 1 false (.t 52)),12,false),
 (zo 54 (.fldA 1 (.t 4)),13,false),
 (zo 55 (.ld 1 false (.t 54)),14,false),
 (zm 56 11,15,false),
 (zo 57 (.idxA 2 (.t 55) (.t 56)),16,false),
 (zo 58 (.fldA 1 (.t 57)),17,false),
 (zo 59 (.ld 1 false (.t 58)),18,false),
 (zo 60 (.callv (.t 41) [(.t 47),(.t 53),(.t 59)]),19,true)] [3,4,6,7,8,9,10,11])
 (.seq (.reg [zm 61 10,zo 62 (.bin .add (.t 61) (zK 1)),zm 10 62] [3,4,6,7,8,9,10,11])
 (.reg [zm 63 11,zo 64 (.bin .add (.t 63) (zK 1)),zm 11 64] [3,4,6,7,8,9,10,11])))))))))
def b51:AC :=
 .seq (.reg [zo 3 (.box (.t 0)),zo 4 (.box (.t 1)),zo 5 (.box (.t 2)),zo 6 (.new [.bool false,.nilS])] [3,4,5,6])
 (.seq (.seq (.reg [zo 12 (.fldA 0 (.t 3)),zo 13 (.ld 1 false (.t 12)),zm 14 13,⟨some 15,.fldA 0 (.t 4),(some (14,false))⟩,⟨some 16,.ld 1 false (.t 15),(some (14,false))⟩,zo 17 (.pick (.t 14) (.k (.sc (.bool true))) (.t 16))] [3,4,5,6,17])
 (.cond (.t 17)
 (.seq (.reg [zo 18 (.bld [.bool false,.nilS] [(0,1,.k (.sc (.bool true)))]),⟨none,.st 2 (.t 6) (.t 18),none⟩] [6])
 (.ret))
 (.skip)))
 (.seq (.reg [zo 19 (.fldA 1 (.t 3)),zo 20 (.ld 1 false (.t 19)),zo 21 (.len false (.t 20)),zo 22 (.fldA 1 (.t 4)),zo 23 (.ld 1 false (.t 22)),zo 24 (.len false (.t 23)),zo 25 (.bin .add (.t 21) (.t 24)),zo 26 (.mk 2 16 [.int .i64 0,.int .i64 0] (zK 0) (.t 25)),zo 27 (.bld [.bool false,.nilS] [(1,1,.t 26)]),zo 7 (.new [.bool false,.nilS]),⟨none,.st 2 (.t 7) (.t 27),none⟩] [3,4,5,6,7])
 (.seq (.reg [zo 8 (.new [.bool false]),⟨none,.st 1 (.t 8) (.k (.sc (.bool true))),none⟩] [3,4,5,6,7,8])
 (.seq (.reg [zo 28 (.mkf 83 [(.t 5),(.t 8),(.t 7)]),zm 9 28] [3,4,6,7,8,9])
 (.seq (.reg [zo 10 (.mv (zK 0)),zo 11 (.mv (zK 0))] [3,4,6,7,8,9,10,11])
 (.seq (.block 0 (.loop [3, 4, 6, 7, 8, 9, 10, 11] Qhp))
 (.seq (.seq (.reg [zo 146 (.ld 1 false (.t 8)),zo 147 (.un .not (.t 146))] [6,7,147])
 (.cond (.t 147)
 (.seq (.reg [zo 148 (.bld [.bool false,.nilS] [(0,1,.k (.sc (.bool true)))]),⟨none,.st 2 (.t 6) (.t 148),none⟩] [6])
 (.ret))
 (.skip)))
 (.seq (.reg [zo 149 (.ld 2 true (.t 7)),⟨none,.st 2 (.t 6) (.t 149),none⟩] [6])
 (.ret)))))))))
def a51:AFun:=⟨3,b51,[.cell 6 2 true]⟩
def b52:AC :=
 .seq (.reg [zo 4 (.mv (zK 0))] [0,1])
 (.seq (.reg [zm 5 0,zm 6 1,zo 7 (.bin .add (.t 5) (.t 6)),zm 4 7] [4])
 (.ret))
def a52:AFun:=⟨2,b52,[.t 4]⟩
def b53:AC :=
 .seq (.reg [zo 1 (.box (.t 0)),zo 2 (.mv (zK 0))] [1])
 (.seq (.seq (.reg [zo 3 (.fldA 1 (.t 1)),zo 4 (.ld 1 false (.t 3)),zo 5 (.len false (.t 4)),zo 6 (.bin .eql (.t 5) (zK 0))] [1,6])
 (.cond (.t 6)
 (.seq (.reg [⟨some 2, .mv (zK 0), none⟩] [2])
 (.ret))
 (.skip)))
 (.seq (.reg [zo 7 (.fldA 1 (.t 1)),zo 8 (.ld 1 false (.t 7)),zo 9 (.idxA 2 (.t 8) (zK 0)),zo 10 (.fldA 0 (.t 9)),zo 11 (.ld 1 false (.t 10)),zm 2 11] [2])
 (.ret)))
def a53:AFun:=⟨1,b53,[.t 2]⟩
def b54:AC :=
 .seq (.reg [zo 1 (.box (.t 0)),zo 2 (.mv (zK 0))] [1])
 (.seq (.seq (.reg [zo 3 (.fldA 1 (.t 1)),zo 4 (.ld 1 false (.t 3)),zo 5 (.len false (.t 4)),zo 6 (.bin .eql (.t 5) (zK 0))] [1,6])
 (.cond (.t 6)
 (.seq (.reg [⟨some 2, .mv (zK 0), none⟩] [2])
 (.ret))
 (.skip)))
 (.seq (.reg [zo 7 (.fldA 1 (.t 1)),zo 8 (.ld 1 false (.t 7)),zo 9 (.fldA 1 (.t 1)),zo 10 (.ld 1 false (.t 9)),zo 11 (.len false (.t 10)),zo 12 (.bin .sub (.t 11) (zK 1)),zo 13 (.idxA 2 (.t 8) (.t 12)),zo 14 (.fldA 0 (.t 13)),zo 15 (.ld 1 false (.t 14)),zm 2 15] [2])
 (.ret)))
def a54:AFun:=⟨1,b54,[.t 2]⟩
def Qkz:AC :=
 .seq (.reg [zo 21 (.bin .lss (.t 20) (.t 19))] [4,5,6,18,19,20,21])
 (.seq (.cond (.t 21)
 (.skip)
 (.exit 0))
 (.seq (.block 1 (.seq (.reg [zo 22 (.idxA 1 (.t 18) (.t 20)),zo 23 (.ld 1 false (.t 22)),zm 8 23] [4,5,6,8,18,19,20])
 (.seq (.reg [zo 25 (.ld 1 false (.t 5)),zm 26 8,⟨some 27,.mpL ⟨1001002,none⟩ [.int .u64 0,.int .u64 0] false (.t 25) (.t 26),none⟩,zo 28 (.call 59 [(.t 27)]),zm 24 28,zo 29 (.ext (.t 24) 0),zo 30 (.ext (.t 24) 1),zm 9 29,zm 10 30] [4,5,6,8,9,10,18,19,20])
 (.seq (.seq (.reg [zm 31 10,zo 32 (.un .not (.t 31))] [4,5,6,8,9,18,19,20,32])
 (.cond (.t 32)
 (.seq (.reg [zo 33 (.bld [.bool false,.nilS] [(0,1,.k (.sc (.bool true)))]),⟨none,.st 2 (.t 4) (.t 33),none⟩] [4])
 (.ret))
 (.skip)))
 (.seq (.reg [zm 34 9,zo 35 (.bin .neq (.t 34) (zK 0))] [4,5,6,8,9,18,19,20,35])
 (.cond (.t 35)
 (.reg [zo 36 (.fldA 1 (.t 6)),zo 37 (.ld 1 false (.t 36)),zm 38 8,zm 39 9,zo 40 (.bld [.int .i64 0,.int .i64 0] [(0,1,.t 38),(1,1,.t 39)]),zo 41 (.bsl 2 [.int .i64 0,.int .i64 0] 1 [(0,.t 40)]),zo 42 (.app 2 16 [.int .i64 0,.int .i64 0] (.t 37) (.t 41)),zo 43 (.fldA 1 (.t 6)),⟨none,.st 1 (.t 43) (.t 42),none⟩] [4,5,6,18,19,20])
 (.skip)))))))
 (.reg [zo 44 (.bin .add (.t 20) (zK 1)),zm 20 44] [4,5,6,18,19,20])))
def b55:AC :=
 .seq (.reg [zo 2 (.box (.t 0)),zo 3 (.box (.t 1)),zo 4 (.new [.bool false,.nilS])] [2,3,4])
 (.seq (.reg [⟨some 11,.mpM ⟨1001002,none⟩,none⟩,zo 5 (.new [.nilM]),⟨none,.st 1 (.t 5) (.t 11),none⟩] [2,3,4,5])
 (.seq (.reg [zo 12 (.ld 2 true (.t 2)),zo 13 (.ld 2 true (.t 3)),zo 14 (.mkf 84 [(.t 5)]),zo 15 (.call 56 [(.t 12),(.t 13),(.t 14)])] [4,5])
 (.seq (.reg [⟨some 6, .new [.bool false, .nilS], none⟩] [4, 5, 6])
 (.seq (.seq (.reg [zo 16 (.ld 1 false (.t 5)),zo 17 (.call 86 [(.t 16)]),zo 18 (.call 85 [(.t 17)]),zo 19 (.len false (.t 18)),zo 20 (.mv (zK 0))] [4,5,6,18,19,20])
 (.block 0 (.loop [4,5,6,18,19,20] Qkz)))
 (.seq (.reg [zo 45 (.ld 2 true (.t 6)),⟨none,.st 2 (.t 4) (.t 45),none⟩] [4])
 (.ret))))))
def a55:AFun:=⟨2,b55,[.cell 4 2 true]⟩
def Qhn:AC :=
 .seq (.reg [zo 21 (.bin .lss (.t 20) (.t 19))] [2,4,7,11,12,13,18,19,20,21])
 (.seq (.cond (.t 21)
 (.skip)
 (.exit 2))
 (.seq (.block 3 (.seq (.reg [zo 22 (.idxA 2 (.t 18) (.t 20)),zo 23 (.ld 2 true (.t 22)),zo 9 (.new [.int .i64 0,.int .i64 0]),⟨none,.st 2 (.t 9) (.t 23),none⟩] [2,4,7,9,11,12,13,18,19,20])
 (.regd [(zm 24 2,0,false),
 (zo 25 (.fldA 0 (.t 7)),1,false),
 (zo 26 (.ld 1 false (.t 25)),2,false),
 (zo 27 (.fldA 0 (.t 9)),3,false),
 (zo 28 (.ld 1 false (.t 27)),4,false),
 (zo 29 (.bin .add (.t 26) (.t 28)),5,false),
 (zo 30 (.fldA 1 (.t 7)),6,false),
 (zo 31 (.ld 1 false (.t 30)),7,false),
 (zo 32 (.fldA 1 (.t 9)),8,false),
 (zo 33 (.ld 1 false (.t 32)),9,false),
 (zo 34 (.call 74 [(.t 31),(.t 33)]),10,false),
 (zo 35 (.callv (.t 24) [(.t 29),(.t 34)]),11,true)] [2,4,7,11,12,13,18,19,20])))
 (.reg [zo 36 (.bin .add (.t 20) (zK 1)),zm 20 36] [2,4,7,11,12,13,18,19,20])))
def Qho:AC :=
 .seq (.reg [zo 14 (.bin .lss (.t 13) (.t 12))] [2,4,11,12,13,14])
 (.seq (.cond (.t 14)
 (.skip)
 (.exit 0))
 (.seq (.block 1 (.seq (.reg [zo 15 (.idxA 2 (.t 11) (.t 13)),zo 16 (.ld 2 true (.t 15)),zo 7 (.new [.int .i64 0,.int .i64 0]),⟨none,.st 2 (.t 7) (.t 16),none⟩] [2,4,7,11,12,13])
 (.seq (.reg [zo 17 (.fldA 1 (.t 4)),zo 18 (.ld 1 false (.t 17)),zo 19 (.len false (.t 18)),zo 20 (.mv (zK 0))] [2,4,7,11,12,13,18,19,20])
 (.block 2 (.loop [2,4,7,11,12,13,18,19,20] Qhn)))))
 (.reg [zo 37 (.bin .add (.t 13) (zK 1)),zm 13 37] [2,4,11,12,13])))
def b56:AC :=
 .seq (.reg [zo 3 (.box (.t 0)),zo 4 (.box (.t 1))] [2,3,4])
 (.seq (.reg [zo 10 (.fldA 1 (.t 3)),zo 11 (.ld 1 false (.t 10)),zo 12 (.len false (.t 11)),zo 13 (.mv (zK 0))] [2,4,11,12,13])
 (.block 0 (.loop [2,4,11,12,13] Qho)))
def a56:AFun:=⟨3,b56,[]⟩
def b57:AC :=
 .seq (.reg [zo 5 (.box (.t 1))] [0,2,3,5])
 (.regd [(zo 6 (.ld 1 false (.t 2)),0,false),
 (zm 7 0,1,false),
 (zo 8 (.ld 1 false (.t 3)),2,false),
 (zo 9 (.bin .sub (.t 7) (.t 8)),3,false),
 (zo 10 (.ld 1 false (.t 2)),4,false),
 (zm 11 0,5,false),
 (zo 12 (.ld 1 false (.t 3)),6,false),
 (zo 13 (.bin .sub (.t 11) (.t 12)),7,false),
 (zo 14 (.idxA 2 (.t 10) (.t 13)),8,false),
 (zo 15 (.ld 2 true (.t 14)),9,false),
 (zo 16 (.ld 2 true (.t 5)),10,false),
 (zo 17 (.call 58 [(.t 15),(.t 16)]),11,false),
 (zo 18 (.idxA 2 (.t 6) (.t 9)),12,false),
 (⟨none,.st 2 (.t 18) (.t 17),none⟩,13,true)] [])
def a57:AFun:=⟨4,b57,[]⟩
def b58:AC :=
 .seq (.reg [zo 2 (.box (.t 0)),zo 3 (.box (.t 1)),zo 4 (.new [.int .u64 0,.int .u64 0])] [2,3,4])
 (.seq (.reg [zo 10 (.fldA 1 (.t 2)),zo 11 (.ld 1 false (.t 10)),zo 12 (.fldA 1 (.t 3)),zo 13 (.ld 1 false (.t 12)),zo 14 (.car false (.t 11) (.t 13) (.k (.sc (.int .u64 0)))),zm 9 14,zo 15 (.ext (.t 9) 0),zo 16 (.ext (.t 9) 1),zm 5 15,zm 6 16] [2,3,4,5,6])
 (.seq (.reg [zo 18 (.fldA 0 (.t 2)),zo 19 (.ld 1 false (.t 18)),zo 20 (.fldA 0 (.t 3)),zo 21 (.ld 1 false (.t 20)),zm 22 6,zo 23 (.car false (.t 19) (.t 21) (.t 22)),zm 17 23,zo 24 (.ext (.t 17) 0),zo 25 (.ext (.t 17) 1),zm 7 24,zm 8 25] [4,5,7])
 (.seq (.reg [zm 26 7,zm 27 5,zo 28 (.bld [.int .u64 0,.int .u64 0] [(0,1,.t 26),(1,1,.t 27)]),⟨none,.st 2 (.t 4) (.t 28),none⟩] [4])
 (.ret))))
def a58:AFun:=⟨2,b58,[.cell 4 2 true]⟩
def b59:AC :=
 .seq (.reg [zo 1 (.box (.t 0)),zo 2 (.mv (zK 0)),zo 3 (.mv (.k (.sc (.bool false))))] [1])
 (.seq (.reg [zo 7 (.ld 2 true (.t 1)),zo 8 (.call 88 [(.t 7)]),zm 6 8,zo 9 (.ext (.t 6) 0),zo 10 (.ext (.t 6) 1),zo 4 (.new [.int .u64 0,.int .u64 0]),⟨none,.st 2 (.t 4) (.t 9),none⟩,zm 5 10] [4,5])
 (.seq (.seq (.reg [zo 11 (.fldA 0 (.t 4)),zo 12 (.ld 1 false (.t 11)),zo 13 (.bin .neq (.t 12) (.k (.sc (.int .u64 0)))),zm 14 13,⟨some 15,.fldA 1 (.t 4),(some (14,false))⟩,⟨some 16,.ld 1 false (.t 15),(some (14,false))⟩,⟨some 17,.bin .gtr (.t 16) (.k (.sc (.int .u64 1125899906842624))),(some (14,false))⟩,zo 18 (.pick (.t 14) (.k (.sc (.bool true))) (.t 17))] [4,5,18])
 (.cond (.t 18)
 (.seq (.reg [zo 2 (.mv (zK 0)),zo 3 (.mv (.k (.sc (.bool false))))] [2,3])
 (.ret))
 (.skip)))
 (.seq (.seq (.reg [zm 19 5] [4,19])
 (.cond (.t 19)
 (.seq (.reg [zo 20 (.fldA 1 (.t 4)),zo 21 (.ld 1 false (.t 20)),zo 22 (.conv .i64 (.t 21)),zo 23 (.un .neg (.t 22)),zm 2 23,zo 3 (.mv (.k (.sc (.bool true))))] [2,3])
 (.ret))
 (.skip)))
 (.seq (.reg [zo 24 (.fldA 1 (.t 4)),zo 25 (.ld 1 false (.t 24)),zo 26 (.conv .i64 (.t 25)),zm 2 26,zo 3 (.mv (.k (.sc (.bool true))))] [2,3])
 (.ret)))))
def a59:AFun:=⟨1,b59,[.t 2,.t 3]⟩
def Qky:AC :=
 .seq (.reg [zo 14 (.bin .lss (.t 13) (.t 12))] [0,1,12,13,14])
 (.seq (.cond (.t 14)
 (.skip)
 (.exit 0))
 (.seq (.block 1 (.seq (.reg [zm 15 13,zm 5 15] [0,1,5,12,13])
 (.seq (.regd [(zm 16 0,0,false),
 (zm 17 5,1,false),
 (zo 18 (.idxA 2 (.t 16) (.t 17)),2,false),
 (zo 19 (.ld 2 true (.t 18)),3,false),
 (zm 20 1,4,false),
 (zm 21 5,5,false),
 (zo 22 (.idxA 2 (.t 20) (.t 21)),6,false),
 (zo 23 (.ld 2 true (.t 22)),7,false),
 (zo 24 (.seq2 true (.t 19) (.t 23)),8,true)] [0,1,12,13,24])
 (.cond (.t 24)
 (.seq (.reg [⟨some 4, .mv (.k (.sc (.bool false))), none⟩] [4])
 (.ret))
 (.skip)))))
 (.reg [zo 25 (.bin .add (.t 13) (zK 1)),zm 13 25] [0,1,12,13])))
def b60:AC :=
 .seq (.reg [zo 4 (.mv (.k (.sc (.bool false))))] [0,1])
 (.seq (.seq (.reg [zm 6 0,zo 7 (.len false (.t 6)),zm 8 1,zo 9 (.len false (.t 8)),zo 10 (.bin .neq (.t 7) (.t 9))] [0,1,10])
 (.cond (.t 10)
 (.seq (.reg [⟨some 4, .mv (.k (.sc (.bool false))), none⟩] [4])
 (.ret))
 (.skip)))
 (.seq (.seq (.reg [zm 11 0,zo 12 (.len false (.t 11)),zo 13 (.mv (zK 0))] [0,1,12,13])
 (.block 0 (.loop [0,1,12,13] Qky)))
 (.seq (.reg [⟨some 4, .mv (.k (.sc (.bool true))), none⟩] [4])
 (.ret))))
def a60:AFun:=⟨2,b60,[.t 4]⟩
def b61:AC :=
 .seq (.reg [zo 4 (.mv (zK 0))] [1])
 (.seq (.reg [zm 5 1,zo 6 (.un .neg (.t 5)),zm 4 6] [4])
 (.ret))
def a61:AFun:=⟨2,b61,[.t 4]⟩
def b62:AC :=
 .seq (.reg [zo 2 (.box (.t 0)),zo 4 (.mv (zK 0))] [1,2])
 (.seq (.reg [zo 8 (.fldA 1 (.t 2)),zo 9 (.ld 1 false (.t 8)),zm 10 1,zo 11 (.call 89 [(.t 9),(.t 10),(.k (.sc (.fn 90 [])))]),zm 7 11,zo 12 (.ext (.t 7) 0),zo 13 (.ext (.t 7) 1),zm 5 12,zm 6 13] [2,5,6])
 (.seq (.seq (.reg [zm 14 6,zo 15 (.un .not (.t 14))] [2,5,15])
 (.cond (.t 15)
 (.seq (.reg [⟨some 4, .mv (zK 0), none⟩] [4])
 (.ret))
 (.skip)))
 (.seq (.reg [zo 16 (.fldA 1 (.t 2)),zo 17 (.ld 1 false (.t 16)),zm 18 5,zo 19 (.idxA 2 (.t 17) (.t 18)),zo 20 (.fldA 1 (.t 19)),zo 21 (.ld 1 false (.t 20)),zm 4 21] [4])
 (.ret))))
def a62:AFun:=⟨2,b62,[.t 4]⟩
def b63L0:AC :=
 .seq (.reg [zo 21 (.bin .lss (.t 20) (.t 19))] [1,4,5,18,19,20,21])
 (.seq (.cond (.t 21)
 (.skip)
 (.exit 0))
 (.seq (.block 1 (.seq (.reg [zo 22 (.idxA 2 (.t 18) (.t 20)),zo 23 (.ld 2 true (.t 22)),zo 7 (.new [.int .i64 0,.int .i64 0]),⟨none,.st 2 (.t 7) (.t 23),none⟩] [1,4,5,7,18,19,20])
 (.seq (.reg [zm 24 1,zo 25 (.fldA 0 (.t 7)),zo 26 (.ld 1 false (.t 25)),zo 27 (.callv (.t 24) [(.t 26)]),zm 8 27] [1,4,5,7,8,18,19,20])
 (.seq (.seq (.reg [zm 28 8,zo 29 (.call 50 [(.t 28),(zK 1048576)]),zo 30 (.un .not (.t 29))] [1,4,5,7,8,18,19,20,30])
 (.cond (.t 30)
 (.seq (.reg [zo 31 (.bld [.bool false,.nilS] [(0,1,.k (.sc (.bool true)))]),⟨none,.st 2 (.t 4) (.t 31),none⟩] [4])
 (.ret))
 (.skip)))
 (.reg [zo 32 (.fldA 1 (.t 5)),zo 33 (.ld 1 false (.t 32)),zm 34 8,zo 35 (.fldA 1 (.t 7)),zo 36 (.ld 1 false (.t 35)),zo 37 (.bld [.int .i64 0,.int .i64 0] [(0,1,.t 34),(1,1,.t 36)]),zo 38 (.bsl 2 [.int .i64 0,.int .i64 0] 1 [(0,.t 37)]),zo 39 (.app 2 16 [.int .i64 0,.int .i64 0] (.t 33) (.t 38)),zo 40 (.fldA 1 (.t 5)),⟨none,.st 1 (.t 40) (.t 39),none⟩] [1,4,5,18,19,20])))))
 (.reg [zo 41 (.bin .add (.t 20) (zK 1)),zm 20 41] [1,4,5,18,19,20])))
def b63:AC :=
 .seq (.reg [zo 2 (.box (.t 0)),zo 4 (.new [.bool false,.nilS])] [1,2,4])
 (.seq (.seq (.reg [zo 9 (.fldA 0 (.t 2)),zo 10 (.ld 1 false (.t 9))] [1,2,4,10])
 (.cond (.t 10)
 (.seq (.reg [zo 11 (.ld 2 true (.t 2)),⟨none,.st 2 (.t 4) (.t 11),none⟩] [4])
 (.ret))
 (.skip)))
 (.seq (.reg [zo 12 (.fldA 1 (.t 2)),zo 13 (.ld 1 false (.t 12)),zo 14 (.len false (.t 13)),zo 15 (.mk 2 16 [.int .i64 0,.int .i64 0] (zK 0) (.t 14)),zo 16 (.bld [.bool false,.nilS] [(1,1,.t 15)]),zo 5 (.new [.bool false,.nilS]),⟨none,.st 2 (.t 5) (.t 16),none⟩] [1,2,4,5])
 (.seq (.seq (.reg [zo 17 (.fldA 1 (.t 2)),zo 18 (.ld 1 false (.t 17)),zo 19 (.len false (.t 18)),zo 20 (.mv (zK 0))] [1,4,5,18,19,20])
 (.block 0 (.loop [1,4,5,18,19,20] b63L0)))
 (.seq (.seq (.regd [(zo 42 (.fldA 1 (.t 5)),0,false),
 (zo 43 (.ld 1 false (.t 42)),1,true),
 (zo 44 (.len false (.t 43)),2,false),
 (zo 45 (.bin .gtr (.t 44) (zK 1)),3,false),
 (zm 46 45,4,false),
 (⟨some 47,.fldA 1 (.t 5),(some (46,true))⟩,5,false),
 (⟨some 48,.ld 1 false (.t 47),(some (46,true))⟩,6,false),
 (⟨some 49,.idxA 2 (.t 48) (zK 0),(some (46,true))⟩,7,false),
 (⟨some 50,.fldA 0 (.t 49),(some (46,true))⟩,8,false),
 (⟨some 51,.ld 1 false (.t 50),(some (46,true))⟩,9,false),
 (⟨some 52,.fldA 1 (.t 5),(some (46,true))⟩,10,false),
 (⟨some 53,.ld 1 false (.t 52),(some (46,true))⟩,11,false),
 (⟨some 54,.idxA 2 (.t 53) (zK 1),(some (46,true))⟩,12,false),
 (⟨some 55,.fldA 0 (.t 54),(some (46,true))⟩,13,false),
 (⟨some 56,.ld 1 false (.t 55),(some (46,true))⟩,14,false),
 (⟨some 57,.bin .gtr (.t 51) (.t 56),(some (46,true))⟩,15,false),
 (zo 58 (.pick (.t 46) (.t 57) (.k (.sc (.bool false)))),16,false)] [4,5,58])
 (.cond (.t 58)
 (.reg [zo 59 (.fldA 1 (.t 5)),zo 60 (.ld 1 false (.t 59)),zo 61 (.call 92 [(.t 60)])] [4,5])
 (.skip)))
 (.seq (.reg [zo 62 (.ld 2 true (.t 5)),⟨none,.st 2 (.t 4) (.t 62),none⟩] [4])
 (.ret))))))
def a63:AFun:=⟨2,b63,[.cell 4 2 true]⟩
def b64:AC :=
 .seq (.reg [zo 3 (.mv (zK 0))] [0,1])
 (.seq (.reg [zm 4 0,zo 5 (.ld 1 false (.t 1)),zo 6 (.bin .add (.t 4) (.t 5)),zm 3 6] [3])
 (.ret))
def a64:AFun:=⟨2,b64,[.t 3]⟩
def Qkx:AC :=
 .seq (.seq (.reg [zm 10 6,zo 11 (.ld 2 true (.t 2)),zo 12 (.call 54 [(.t 11)]),zo 13 (.bin .leq (.t 10) (.t 12))] [1,2,5,6,13])
 (.cond (.t 13)
 (.skip)
 (.exit 0)))
 (.seq (.block 1 (.seq (.reg [zo 16 (.ld 2 true (.t 2)),zm 17 6,zo 18 (.call 62 [(.t 16),(.t 17)]),zm 7 18] [1,2,5,6,7])
 (.seq (.reg [zm 19 7,zo 20 (.bin .neq (.t 19) (zK 0))] [1,2,5,6,7,20])
 (.cond (.t 20)
 (.reg [zm 21 5,zm 22 6,zm 23 1,zo 24 (.bin .sub (.t 22) (.t 23)),zm 25 7,zo 26 (.bld [.int .i64 0,.int .i64 0] [(0,1,.t 24),(1,1,.t 25)]),zo 27 (.bsl 2 [.int .i64 0,.int .i64 0] 1 [(0,.t 26)]),zo 28 (.app 2 16 [.int .i64 0,.int .i64 0] (.t 21) (.t 27)),zm 5 28] [1,2,5,6])
 (.skip)))))
 (.reg [zm 14 6,zo 15 (.bin .add (.t 14) (zK 1)),zm 6 15] [1,2,5,6]))
def b65:AC :=
 .seq (.reg [zo 2 (.box (.t 0)),zo 4 (.mv (.k (.sc .nilS)))] [1,2])
 (.seq (.reg [⟨some 5, .mv (.k (.sc .nilS)), none⟩] [1, 2, 5])
 (.seq (.seq (.reg [zo 8 (.ld 2 true (.t 2)),zo 9 (.call 53 [(.t 8)]),zm 6 9] [1,2,5,6])
 (.block 0 (.loop [1,2,5,6] Qkx)))
 (.seq (.reg [zm 29 5,zm 4 29] [4])
 (.ret))))
def a65:AFun:=⟨2,b65,[.t 4]⟩
def b66L0:AC :=
 .seq (.seq (.reg [zm 5 1,zo 6 (.bin .neq (.t 5) (zK 0))] [0,1,6])
 (.cond (.t 6)
 (.skip)
 (.exit 0)))
 (.block 1 (.regd [(zm 7 1,0,false),
 (zm 8 0,1,false),
 (zm 9 1,2,false),
 (zo 10 (.bin .rem (.t 8) (.t 9)),3,false),
 (zm 0 7,4,false),
 (zm 1 10,5,false)] [0,1]))
def b66:AC :=
 .seq (.reg [zo 4 (.mv (zK 0))] [0,1])
 (.seq (.block 0 (.loop [0, 1] b66L0))
 (.seq (.reg [zm 11 0,zm 12 0,zo 13 (.un .neg (.t 12)),zo 14 (.mm true (.t 11) [(.t 13)]),zm 4 14] [4])
 (.ret)))
def a66:AFun:=⟨2,b66,[.t 4]⟩
def b67L1:AC :=
 .seq (.reg [zo 82 (.bin .lss (.t 81) (.t 80))] [0,1,6,7,8,9,11,13,61,62,63,79,80,81,82])
 (.seq (.cond (.t 82)
 (.skip)
 (.exit 2))
 (.seq (.block 3 (.seq (.reg [zm 83 81,zo 84 (.idxA 1 (.t 79) (.t 81)),zo 85 (.ld 1 false (.t 84)),zm 14 83,zm 15 85] [0,1,6,7,8,9,11,13,14,15,61,62,63,79,80,81])
 (.seq (.regd [(zm 86 13,0,false),
 (zm 87 14,1,false),
 (zo 88 (.ld 2 true (.t 11)),2,false),
 (zo 89 (.ld 2 true (.t 11)),3,false),
 (zo 90 (.ld 2 true (.t 11)),4,false),
 (zm 91 7,5,false),
 (zo 92 (.call 99 [(.t 90),(.t 91)]),6,false),
 (zm 93 15,7,false),
 (zo 94 (.call 98 [(.t 89),(.t 92),(.t 93)]),8,false),
 (zo 95 (.call 97 [(.t 88),(.t 94)]),9,true),
 (zo 96 (.idxA 1 (.t 86) (.t 87)),10,false),
 (⟨none,.st 1 (.t 96) (.t 95),none⟩,11,true)] [0,1,6,7,8,9,11,13,14,61,62,63,79,80,81])
 (.seq (.reg [zm 97 13,zm 98 14,zo 99 (.idxA 1 (.t 97) (.t 98)),zo 100 (.ld 1 false (.t 99)),zo 101 (.bin .gtr (.t 100) (zK 1125899906842624)),zm 102 101,⟨some 103,.mv (.t 13),(some (102,false))⟩,⟨some 104,.mv (.t 14),(some (102,false))⟩,⟨some 105,.idxA 1 (.t 103) (.t 104),(some (102,false))⟩,⟨some 106,.ld 1 false (.t 105),(some (102,false))⟩,⟨some 107,.bin .lss (.t 106) (.k (.sc (.int .i64 (-1125899906842624)))),(some (102,false))⟩,zo 108 (.pick (.t 102) (.k (.sc (.bool true))) (.t 107))] [0,1,6,7,8,9,11,13,61,62,63,79,80,81,108])
 (.cond (.t 108)
 (.exit 1)
 (.skip))))))
 (.reg [zo 109 (.bin .add (.t 81) (zK 1)),zm 81 109] [0,1,6,7,8,9,11,13,61,62,63,79,80,81])))
def b67L2:AC :=
 .seq (.reg [zo 135 (.bin .lss (.t 134) (.t 133))] [6,13,132,133,134,135])
 (.seq (.cond (.t 135)
 (.skip)
 (.exit 4))
 (.seq (.block 5 (.seq (.reg [zm 136 134,zo 137 (.idxA 1 (.t 132) (.t 134)),zo 138 (.ld 1 false (.t 137)),zm 21 136,zm 22 138] [6,13,21,22,132,133,134])
 (.seq (.seq (.reg [zm 139 22,zm 140 22,zo 141 (.un .neg (.t 140)),zo 142 (.mm true (.t 139) [(.t 141)]),zm 143 6,zo 144 (.bin .quo (zK 1125899906842624) (.t 143)),zo 145 (.bin .gtr (.t 142) (.t 144))] [6,13,21,22,132,133,134,145])
 (.cond (.t 145)
 (.seq (.reg [zo 4 (.mv (.k (.sc .nilS))),zo 5 (.mv (.k (.sc (.bool false))))] [4,5])
 (.ret))
 (.skip)))
 (.reg [zm 146 13,zm 147 21,zm 148 22,zm 149 6,zo 150 (.bin .mul (.t 148) (.t 149)),zo 151 (.idxA 1 (.t 146) (.t 147)),⟨none,.st 1 (.t 151) (.t 150),none⟩] [6,13,132,133,134]))))
 (.reg [zo 152 (.bin .add (.t 134) (zK 1)),zm 134 152] [6,13,132,133,134])))
def b67L0:AC :=
 .seq (.reg [zo 64 (.bin .lss (.t 63) (.t 62))] [0,1,6,7,8,9,61,62,63,64])
 (.seq (.cond (.t 64)
 (.skip)
 (.exit 0))
 (.seq (.block 1 (.seq (.reg [zo 65 (.idxA 2 (.t 61) (.t 63)),zo 66 (.ld 2 true (.t 65)),zo 11 (.new [.int .u64 0,.int .u64 0]),⟨none,.st 2 (.t 11) (.t 66),none⟩] [0,1,6,7,8,9,11,61,62,63])
 (.seq (.reg [zo 67 (.ld 2 true (.t 11)),zm 68 0,zm 69 1,zo 70 (.call 96 [(.t 67),(.t 68),(.t 69)]),zm 12 70] [0,1,6,7,8,9,11,12,61,62,63])
 (.seq (.seq (.reg [zm 71 12,zo 72 (.len false (.t 71)),zo 73 (.bin .eql (.t 72) (zK 1))] [0,1,6,7,8,9,11,12,61,62,63,73])
 (.cond (.t 73)
 (.seq (.reg [zm 74 6,zo 75 (.bsl 1 [.int .i64 0] 1 [(0,.t 74)]),zm 4 75,zo 5 (.mv (.k (.sc (.bool true))))] [4,5])
 (.ret))
 (.skip)))
 (.seq (.reg [zm 76 12,zo 77 (.len false (.t 76)),zo 78 (.mk 1 8 [.int .i64 0] (.t 77) (.t 77)),zm 13 78] [0,1,6,7,8,9,11,12,13,61,62,63])
 (.seq (.seq (.reg [zm 79 12,zo 80 (.len false (.t 79)),zo 81 (.mv (zK 0))] [0,1,6,7,8,9,11,13,61,62,63,79,80,81])
 (.block 2 (.loop [0,1,6,7,8,9,11,13,61,62,63,79,80,81] b67L1)))
 (.seq (.reg [zm 110 13,zm 111 13,zo 112 (.call 93 [(.t 111)]),zo 113 (.call 94 [(.t 110),(.t 112)]),zm 13 113] [0,1,6,7,8,9,13,61,62,63])
 (.seq (.reg [zm 114 13,zo 115 (.call 20 [(zK 0),(.t 114)]),zo 16 (.new [.bool false,.nilS]),⟨none,.st 2 (.t 16) (.t 115),none⟩] [0,1,6,7,8,9,13,16,61,62,63])
 (.seq (.seq (.reg [zo 117 (.ld 2 true (.t 8)),zo 118 (.ld 2 true (.t 16)),zo 119 (.call 30 [(.t 117),(.t 118)]),zm 116 119,zo 120 (.ext (.t 116) 0),zo 121 (.ext (.t 116) 1),zo 17 (.new [.bool false,.nilS]),⟨none,.st 2 (.t 17) (.t 120),none⟩,zm 18 121] [0,1,6,7,8,9,13,16,18,61,62,63])
 (.seq (.reg [zm 122 18,zo 123 (.bin .neq (.t 122) (zK 0))] [0,1,6,7,8,9,13,16,61,62,63,123])
 (.cond (.t 123)
 (.exit 1)
 (.skip))))
 (.seq (.seq (.reg [zo 125 (.ld 2 true (.t 9)),zo 126 (.ld 2 true (.t 16)),zo 127 (.call 30 [(.t 125),(.t 126)]),zm 124 127,zo 128 (.ext (.t 124) 0),zo 129 (.ext (.t 124) 1),zo 19 (.new [.bool false,.nilS]),⟨none,.st 2 (.t 19) (.t 128),none⟩,zm 20 129] [0,1,6,7,8,9,13,20,61,62,63])
 (.seq (.reg [zm 130 20,zo 131 (.bin .neq (.t 130) (zK 0))] [0,1,6,7,8,9,13,61,62,63,131])
 (.cond (.t 131)
 (.exit 1)
 (.skip))))
 (.seq (.seq (.reg [zm 132 13,zo 133 (.len false (.t 132)),zo 134 (.mv (zK 0))] [6,13,132,133,134])
 (.block 4 (.loop [6,13,132,133,134] b67L2)))
 (.seq (.reg [zm 153 13,zm 4 153,zo 5 (.mv (.k (.sc (.bool true))))] [4,5])
 (.ret)))))))))))))
 (.reg [zo 154 (.bin .add (.t 63) (zK 1)),zm 63 154] [0,1,6,7,8,9,61,62,63])))
def b67:AC :=
 .seq (.reg [zo 4 (.mv (.k (.sc .nilS))),zo 5 (.mv (.k (.sc (.bool false))))] [0,1])
 (.scope (.seq (.reg [zm 23 0,zo 24 (.call 93 [(.t 23)]),zm 25 1,zo 26 (.call 93 [(.t 25)]),zo 27 (.call 66 [(.t 24),(.t 26)]),zm 6 27] [0,1,6])
 (.seq (.reg [zm 28 0,zm 29 0,zo 30 (.call 93 [(.t 29)]),zo 31 (.call 94 [(.t 28),(.t 30)]),zm 32 1,zm 33 1,zo 34 (.call 93 [(.t 33)]),zo 35 (.call 94 [(.t 32),(.t 34)]),zm 0 31,zm 1 35] [0,1,6])
 (.seq (.regd [(zm 36 0,0,false),
 (zm 37 0,1,false),
 (zo 38 (.len false (.t 37)),2,false),
 (zo 39 (.bin .sub (.t 38) (zK 1)),3,false),
 (zo 40 (.idxA 1 (.t 36) (.t 39)),4,false),
 (zo 41 (.ld 1 false (.t 40)),5,false),
 (zm 42 1,6,false),
 (zm 43 1,7,false),
 (zo 44 (.len false (.t 43)),8,false),
 (zo 45 (.bin .sub (.t 44) (zK 1)),9,false),
 (zo 46 (.idxA 1 (.t 42) (.t 45)),10,false),
 (zo 47 (.ld 1 false (.t 46)),11,false),
 (zo 48 (.call 66 [(.t 41),(.t 47)]),12,true),
 (zm 7 48,13,false)] [0,1,6,7])
 (.seq (.reg [zm 49 0,zo 50 (.len false (.t 49)),zo 51 (.un .neg (.t 50)),zo 52 (.bin .quo (.t 51) (zK 2)),zm 53 0,zo 54 (.call 20 [(.t 52),(.t 53)]),zm 55 1,zo 56 (.len false (.t 55)),zo 57 (.un .neg (.t 56)),zo 58 (.bin .quo (.t 57) (zK 2)),zm 59 1,zo 60 (.call 20 [(.t 58),(.t 59)]),zo 8 (.new [.bool false,.nilS]),zo 9 (.new [.bool false,.nilS]),⟨none,.st 2 (.t 8) (.t 54),none⟩,⟨none,.st 2 (.t 9) (.t 60),none⟩] [0,1,6,7,8,9])
 (.seq (.skip)
 (.seq (.seq (.reg [zo 61 (.call 95 [(zK 8)]),zo 62 (.len false (.t 61)),zo 63 (.mv (zK 0))] [0,1,6,7,8,9,61,62,63])
 (.block 0 (.loop [0,1,6,7,8,9,61,62,63] b67L0)))
 (.seq (.reg [zo 4 (.mv (.k (.sc .nilS))),zo 5 (.mv (.k (.sc (.bool false))))] [4,5])
 (.ret)))))))))
def a67:AFun:=⟨2,b67,[.t 4,.t 5]⟩
def b68L0:AC :=
 .seq (.reg [zo 19 (.bin .lss (.t 18) (.t 17))] [1,2,5,17,18,19])
 (.seq (.cond (.t 19)
 (.skip)
 (.exit 0))
 (.seq (.block 1 (.seq (.reg [zm 20 18,zm 6 20] [1,2,5,6,17,18])
 (.regd [(zm 21 5,0,false),
 (zm 22 6,1,false),
 (zo 23 (.ld 2 true (.t 2)),2,false),
 (zo 24 (.ld 2 true (.t 2)),3,false),
 (zo 25 (.call 53 [(.t 24)]),4,false),
 (zm 26 6,5,false),
 (zm 27 1,6,false),
 (zo 28 (.bin .mul (.t 26) (.t 27)),7,false),
 (zo 29 (.bin .add (.t 25) (.t 28)),8,false),
 (zo 30 (.call 62 [(.t 23),(.t 29)]),9,true),
 (zo 31 (.idxA 1 (.t 21) (.t 22)),10,false),
 (⟨none,.st 1 (.t 31) (.t 30),none⟩,11,true)] [1,2,5,17,18])))
 (.reg [zo 32 (.bin .add (.t 18) (zK 1)),zm 18 32] [1,2,5,17,18])))
def b68:AC :=
 .seq (.reg [zo 2 (.box (.t 0)),zo 4 (.mv (.k (.sc .nilS)))] [1,2])
 (.seq (.regd [(zo 7 (.ld 2 true (.t 2)),0,false),
 (zo 8 (.call 54 [(.t 7)]),1,false),
 (zo 9 (.ld 2 true (.t 2)),2,false),
 (zo 10 (.call 53 [(.t 9)]),3,true),
 (zo 11 (.bin .sub (.t 8) (.t 10)),4,false),
 (zm 12 1,5,false),
 (zo 13 (.bin .quo (.t 11) (.t 12)),6,false),
 (zo 14 (.bin .add (.t 13) (zK 1)),7,false),
 (zo 15 (.mk 1 8 [.int .i64 0] (.t 14) (.t 14)),8,true),
 (zm 5 15,9,false)] [1,2,5])
 (.seq (.seq (.reg [zm 16 5,zo 17 (.len false (.t 16)),zo 18 (.mv (zK 0))] [1,2,5,17,18])
 (.block 0 (.loop [1,2,5,17,18] b68L0)))
 (.seq (.reg [zm 33 5,zm 4 33] [4])
 (.ret))))
def a68:AFun:=⟨2,b68,[.t 4]⟩
def b69:AC :=
 .seq (.reg [zo 2 (.new [.bool false,.nilS])] [0,2])
 (.seq (.seq (.reg [zm 4 0,zo 5 (.len false (.t 4))] [0,2,5])
 (.block 0 (.seq (.reg [zo 7 (.bin .eql (.t 5) (zK 0)),zm 6 7] [0,2,5,6])
 (.cond (.t 6)
 (.seq (.reg [zo 8 (.bld [.bool false,.nilS] []),⟨none,.st 2 (.t 2) (.t 8),none⟩] [2])
 (.ret))
 (.seq (.reg [zo 10 (.bin .eql (.t 5) (zK 1)),zm 9 10] [0,2,9])
 (.cond (.t 9)
 (.seq (.regd [(zm 11 0,0,false),
 (zo 12 (.idxA 2 (.t 11) (zK 0)),1,false),
 (zo 13 (.fldA 1 (.t 12)),2,false),
 (zo 14 (.ld 1 false (.t 13)),3,false),
 (zm 15 0,4,false),
 (zo 16 (.idxA 2 (.t 15) (zK 0)),5,false),
 (zo 17 (.fldA 0 (.t 16)),6,false),
 (zo 18 (.ld 1 false (.t 17)),7,false),
 (zo 19 (.call 100 [(.t 14),(.t 18)]),8,true),
 (⟨none,.st 2 (.t 2) (.t 19),none⟩,9,true)] [2])
 (.ret))
 (.skip)))))))
 (.seq (.reg [zm 20 0,zo 21 (.len false (.t 20)),zo 22 (.bin .quo (.t 21) (zK 2)),zm 3 22] [0,2,3])
 (.seq (.regd [(zm 23 0,0,false),
 (zm 24 3,1,false),
 (zo 25 (.sl 2 (.t 23) none (some (.t 24))),2,false),
 (zo 26 (.call 69 [(.t 25)]),3,false),
 (zm 27 0,4,false),
 (zm 28 3,5,false),
 (zo 29 (.sl 2 (.t 27) (some (.t 28)) none),6,false),
 (zo 30 (.call 69 [(.t 29)]),7,true),
 (zo 31 (.call 21 [(.t 26),(.t 30)]),8,true),
 (⟨none,.st 2 (.t 2) (.t 31),none⟩,9,true)] [2])
 (.ret))))
def a69:AFun:=⟨1,b69,[.cell 2 2 true]⟩
def b71:AC :=
 .seq (.reg [zo 2 (.new [.int .u64 0,.int .u64 0])] [0,2])
 (.seq (.reg [zm 3 0,zo 4 (.bin .shr (.t 3) (.k (.sc (.int .u64 63)))),zo 5 (.conv .u64 (.t 4)),zm 6 0,zo 7 (.conv .u64 (.t 6)),zo 8 (.bld [.int .u64 0,.int .u64 0] [(0,1,.t 5),(1,1,.t 7)]),⟨none,.st 2 (.t 2) (.t 8),none⟩] [2])
 (.ret))
def a71:AFun:=⟨1,b71,[.cell 2 2 true]⟩
def b72:AC :=
 .seq (.reg [zo 1 (.box (.t 0)),zo 2 (.mv (.k (.sc (.bool false))))] [1])
 (.seq (.reg [zo 3 (.fldA 0 (.t 1)),zo 4 (.ld 1 false (.t 3)),zo 5 (.bin .eql (.t 4) (.k (.sc (.int .u64 0)))),zm 6 5,⟨some 7,.fldA 1 (.t 1),(some (6,true))⟩,⟨some 8,.ld 1 false (.t 7),(some (6,true))⟩,⟨some 9,.bin .eql (.t 8) (.k (.sc (.int .u64 0))),(some (6,true))⟩,zo 10 (.pick (.t 6) (.t 9) (.k (.sc (.bool false)))),zm 2 10] [2])
 (.ret))
def a72:AFun:=⟨1,b72,[.t 2]⟩
def b73:AC :=
 .seq (.reg [zo 2 (.box (.t 0)),zo 4 (.mv (zK 0)),zo 5 (.mv (.k (.sc (.bool false))))] [1,2])
 (.seq (.reg [zo 12 (.ld 2 true (.t 2)),zo 13 (.call 88 [(.t 12)]),zm 11 13,zo 14 (.ext (.t 11) 0),zo 15 (.ext (.t 11) 1),zo 6 (.new [.int .u64 0,.int .u64 0]),⟨none,.st 2 (.t 6) (.t 14),none⟩,zm 7 15] [1,6,7])
 (.seq (.reg [zm 16 1,zo 17 (.call 101 [(.t 16)]),zm 8 17] [1,6,7,8])
 (.seq (.seq (.reg [zo 18 (.fldA 0 (.t 6)),zo 19 (.ld 1 false (.t 18)),zm 20 8,zo 21 (.bin .geq (.t 19) (.t 20))] [1,6,7,8,21])
 (.cond (.t 21)
 (.seq (.reg [zo 4 (.mv (zK 0)),zo 5 (.mv (.k (.sc (.bool false))))] [4,5])
 (.ret))
 (.skip)))
 (.seq (.reg [zo 23 (.fldA 0 (.t 6)),zo 24 (.ld 1 false (.t 23)),zo 25 (.fldA 1 (.t 6)),zo 26 (.ld 1 false (.t 25)),zm 27 8,zo 28 (.call 102 [(.t 24),(.t 26),(.t 27)]),zm 22 28,zo 29 (.ext (.t 22) 0),zo 30 (.ext (.t 22) 1),zm 9 29,zm 10 30] [1,7,9,10])
 (.seq (.seq (.reg [zm 31 10,zo 32 (.bin .neq (.t 31) (.k (.sc (.int .u64 0)))),zm 33 32,⟨some 34,.mv (.t 9),(some (33,false))⟩,⟨some 35,.bin .gtr (.t 34) (.k (.sc (.int .u64 1125899906842624))),(some (33,false))⟩,zo 36 (.pick (.t 33) (.k (.sc (.bool true))) (.t 35))] [1,7,9,36])
 (.cond (.t 36)
 (.seq (.reg [zo 4 (.mv (zK 0)),zo 5 (.mv (.k (.sc (.bool false))))] [4,5])
 (.ret))
 (.skip)))
 (.seq (.seq (.reg [zm 37 7,zm 38 1,zo 39 (.bin .lss (.t 38) (zK 0)),zo 40 (.beq true (.t 37) (.t 39))] [9,40])
 (.cond (.t 40)
 (.seq (.reg [zm 41 9,zo 42 (.conv .i64 (.t 41)),zo 43 (.un .neg (.t 42)),zm 4 43,zo 5 (.mv (.k (.sc (.bool true))))] [4,5])
 (.ret))
 (.skip)))
 (.seq (.reg [zm 44 9,zo 45 (.conv .i64 (.t 44)),zm 4 45,zo 5 (.mv (.k (.sc (.bool true))))] [4,5])
 (.ret))))))))
def a73:AFun:=⟨2,b73,[.t 4,.t 5]⟩
def b74:AC :=
 .seq (.reg [zo 4 (.new [.int .u64 0,.int .u64 0])] [0,1,4])
 (.seq (.reg [zm 9 0,zo 10 (.call 101 [(.t 9)]),zm 11 1,zo 12 (.call 101 [(.t 11)]),zo 13 (.call 103 [(.t 10),(.t 12)]),zm 8 13,zo 14 (.ext (.t 8) 0),zo 15 (.ext (.t 8) 1),zm 5 14,zm 6 15] [0,1,4,5,6])
 (.seq (.reg [zm 16 5,zm 17 6,zo 18 (.bld [.int .u64 0,.int .u64 0] [(0,1,.t 16),(1,1,.t 17)]),zo 7 (.new [.int .u64 0,.int .u64 0]),⟨none,.st 2 (.t 7) (.t 18),none⟩] [0,1,4,7])
 (.seq (.seq (.reg [zm 19 0,zo 20 (.bin .lss (.t 19) (zK 0)),zm 21 1,zo 22 (.bin .lss (.t 21) (zK 0)),zo 23 (.beq true (.t 20) (.t 22))] [4,7,23])
 (.cond (.t 23)
 (.seq (.reg [zo 24 (.ld 2 true (.t 7)),zo 25 (.call 104 [(.t 24)]),⟨none,.st 2 (.t 4) (.t 25),none⟩] [4])
 (.ret))
 (.skip)))
 (.seq (.reg [zo 26 (.ld 2 true (.t 7)),⟨none,.st 2 (.t 4) (.t 26),none⟩] [4])
 (.ret)))))
def a74:AFun:=⟨2,b74,[.cell 4 2 true]⟩
def Qkw:AC :=
 .seq (.reg [zo 9 (.bin .lss (.t 8) (.t 7))] [0,1,7,8,9])
 (.seq (.cond (.t 9)
 (.skip)
 (.exit 0))
 (.seq (.block 1 (.seq (.reg [zm 10 8,zm 5 10] [0,1,5,7,8])
 (.seq (.reg [zm 11 1,zm 12 0,zm 13 5,zo 14 (.idxA 2 (.t 12) (.t 13)),zo 15 (.ld 2 true (.t 14)),zo 16 (.callv (.t 11) [(.t 15)])] [0,1,5,7,8,16])
 (.cond (.t 16)
 (.seq (.reg [zm 17 5,zm 4 17] [4])
 (.ret))
 (.skip)))))
 (.reg [zo 18 (.bin .add (.t 8) (zK 1)),zm 8 18] [0,1,7,8])))
def b75:AC :=
 .seq (.reg [zo 4 (.mv (zK 0))] [0,1])
 (.seq (.seq (.reg [zm 6 0,zo 7 (.len false (.t 6)),zo 8 (.mv (zK 0))] [0,1,7,8])
 (.block 0 (.loop [0,1,7,8] Qkw)))
 (.seq (.reg [⟨some 4, .mv (.k (.sc (.int .i64 (-1)))), none⟩] [4])
 (.ret)))
def a75:AFun:=⟨2,b75,[.t 4]⟩
def Qku:AC :=
 .seq (.reg [zo 40 (.bin .lss (.t 39) (.t 38))] [0,1,7,9,10,22,23,24,37,38,39,40])
 (.seq (.cond (.t 40)
 (.skip)
 (.exit 2))
 (.seq (.block 3 (.seq (.reg [zm 41 39,zo 42 (.idxA 1 (.t 37) (.t 39)),zo 43 (.ld 1 false (.t 42)),zm 11 41,zm 12 43] [0,1,7,9,10,11,12,22,23,24,37,38,39])
 (.seq (.reg [zm 44 7,zm 45 11,zo 46 (.ld 2 true (.t 9)),zm 47 12,zo 48 (.call 97 [(.t 46),(.t 47)]),zo 49 (.idxA 1 (.t 44) (.t 45)),⟨none,.st 1 (.t 49) (.t 48),none⟩] [0,1,7,9,10,11,22,23,24,37,38,39])
 (.seq (.reg [zm 50 7,zm 51 11,zo 52 (.idxA 1 (.t 50) (.t 51)),zo 53 (.ld 1 false (.t 52)),zo 54 (.bin .gtr (.t 53) (zK 1125899906842624)),zm 55 54,⟨some 56,.mv (.t 7),(some (55,false))⟩,⟨some 57,.mv (.t 11),(some (55,false))⟩,⟨some 58,.idxA 1 (.t 56) (.t 57),(some (55,false))⟩,⟨some 59,.ld 1 false (.t 58),(some (55,false))⟩,⟨some 60,.bin .lss (.t 59) (.k (.sc (.int .i64 (-1125899906842624)))),(some (55,false))⟩,zo 61 (.pick (.t 55) (.k (.sc (.bool true))) (.t 60))] [0,1,7,9,10,22,23,24,37,38,39,61])
 (.cond (.t 61)
 (.seq (.reg [zo 4 (.mv (.k (.sc .nilS))),zo 5 (.mv (.k (.sc (.bool false))))] [4,5])
 (.ret))
 (.skip))))))
 (.reg [zo 62 (.bin .add (.t 39) (zK 1)),zm 39 62] [0,1,7,9,10,22,23,24,37,38,39])))
def Qkt:AC :=
 .seq (.reg [zo 66 (.bin .lss (.t 65) (.t 64))] [0,1,7,9,22,23,24,63,64,65,66])
 (.seq (.cond (.t 66)
 (.skip)
 (.exit 4))
 (.seq (.block 5 (.seq (.reg [zm 67 65,zo 68 (.idxA 1 (.t 63) (.t 65)),zo 69 (.ld 1 false (.t 68)),zm 13 67,zm 14 69] [0,1,7,9,13,14,22,23,24,63,64,65])
 (.seq (.regd [(zo 70 (.ld 2 true (.t 9)),0,false),
 (zm 71 7,1,false),
 (zm 72 13,2,false),
 (zo 73 (.idxA 1 (.t 71) (.t 72)),3,false),
 (zo 74 (.ld 1 false (.t 73)),4,false),
 (zo 75 (.call 99 [(.t 70),(.t 74)]),5,true),
 (zm 76 14,6,false),
 (zo 77 (.bin .neq (.t 75) (.t 76)),7,false)] [0,1,7,9,22,23,24,63,64,65,77])
 (.cond (.t 77)
 (.seq (.reg [zo 4 (.mv (.k (.sc .nilS))),zo 5 (.mv (.k (.sc (.bool false))))] [4,5])
 (.ret))
 (.skip)))))
 (.reg [zo 78 (.bin .add (.t 65) (zK 1)),zm 65 78] [0,1,7,9,22,23,24,63,64,65])))
def Qkv:AC :=
 .seq (.reg [zo 25 (.bin .lss (.t 24) (.t 23))] [0,1,7,22,23,24,25])
 (.seq (.cond (.t 25)
 (.skip)
 (.exit 0))
 (.seq (.block 1 (.seq (.reg [zo 26 (.idxA 2 (.t 22) (.t 24)),zo 27 (.ld 2 true (.t 26)),zo 9 (.new [.int .u64 0,.int .u64 0]),⟨none,.st 2 (.t 9) (.t 27),none⟩] [0,1,7,9,22,23,24])
 (.seq (.reg [zo 28 (.ld 2 true (.t 9)),zm 29 0,zm 30 1,zo 31 (.call 108 [(.t 28),(.t 29),(.t 30)]),zm 10 31] [0,1,7,9,10,22,23,24])
 (.seq (.seq (.reg [zm 32 7,zo 33 (.isnil 1 false (.t 32))] [0,1,7,9,10,22,23,24,33])
 (.cond (.t 33)
 (.seq (.reg [zm 34 10,zo 35 (.len false (.t 34)),zo 36 (.mk 1 8 [.int .i64 0] (.t 35) (.t 35)),zm 7 36] [0,1,7,9,10,22,23,24])
 (.seq (.reg [zm 37 10,zo 38 (.len false (.t 37)),zo 39 (.mv (zK 0))] [0,1,7,9,10,22,23,24,37,38,39])
 (.block 2 (.loop [0,1,7,9,10,22,23,24,37,38,39] Qku))))
 (.skip)))
 (.seq (.reg [zm 63 10,zo 64 (.len false (.t 63)),zo 65 (.mv (zK 0))] [0,1,7,9,22,23,24,63,64,65])
 (.block 4 (.loop [0,1,7,9,22,23,24,63,64,65] Qkt)))))))
 (.reg [zo 79 (.bin .add (.t 24) (zK 1)),zm 24 79] [0,1,7,22,23,24])))
def b77:AC :=
 .seq (.reg [zo 4 (.mv (.k (.sc .nilS))),zo 5 (.mv (.k (.sc (.bool false))))] [0,1])
 (.seq (.reg [zm 15 0,zo 16 (.call 107 [(.t 15)]),zo 17 (.mm true (.t 16) [(zK 50)]),zo 18 (.bin .add (.t 17) (zK 1)),zo 19 (.bin .quo (.t 18) (zK 60)),zo 20 (.bin .add (.t 19) (zK 1)),zm 6 20] [0,1,6])
 (.seq (.reg [⟨some 7, .mv (.k (.sc .nilS)), none⟩] [0, 1, 6, 7])
 (.seq (.seq (.reg [zm 21 6,zo 22 (.call 95 [(.t 21)]),zo 23 (.len false (.t 22)),zo 24 (.mv (zK 0))] [0,1,7,22,23,24])
 (.block 0 (.loop [0,1,7,22,23,24] Qkv)))
 (.seq (.reg [zm 80 7,zm 4 80,zo 5 (.mv (.k (.sc (.bool true))))] [4,5])
 (.ret)))))
def a77:AFun:=⟨2,b77,[.t 4,.t 5]⟩
def b83:AC :=
 .seq (.reg [zo 10 (.ld 1 false (.t 3)),zm 11 1,zm 12 2,zo 13 (.callv (.t 10) [(.t 11),(.t 12)]),zm 9 13] [0,4,5,9])
 (.seq (.reg [zo 14 (.ld 1 false (.t 4)),zm 15 14,⟨some 16,.mv (.t 9),(some (15,true))⟩,⟨some 17,.call 50 [(.t 16),(zK 1125899906842624)],(some (15,true))⟩,zo 18 (.pick (.t 15) (.t 17) (.k (.sc (.bool false)))),⟨none,.st 1 (.t 4) (.t 18),none⟩] [0,5,9])
 (.seq (.reg [zm 19 9,zo 20 (.bin .neq (.t 19) (zK 0))] [0,5,9,20])
 (.cond (.t 20)
 (.reg [zo 21 (.fldA 1 (.t 5)),zo 22 (.ld 1 false (.t 21)),zm 23 0,zm 24 9,zo 25 (.bld [.int .i64 0,.int .i64 0] [(0,1,.t 23),(1,1,.t 24)]),zo 26 (.bsl 2 [.int .i64 0,.int .i64 0] 1 [(0,.t 25)]),zo 27 (.app 2 16 [.int .i64 0,.int .i64 0] (.t 22) (.t 26)),zo 28 (.fldA 1 (.t 5)),⟨none,.st 1 (.t 28) (.t 27),none⟩] [])
 (.skip))))
def a83:AFun:=⟨6,b83,[]⟩
def b84:AC :=
 .seq (.reg [zo 4 (.box (.t 1))] [0,2,4])
 (.regd [(zo 5 (.ld 1 false (.t 2)),0,false),
 (zm 6 0,1,false),
 (zo 7 (.ld 1 false (.t 2)),2,false),
 (zm 8 0,3,false),
 (⟨some 9,.mpL ⟨1001002,none⟩ [.int .u64 0,.int .u64 0] false (.t 7) (.t 8),none⟩,4,false),
 (zo 10 (.ld 2 true (.t 4)),5,false),
 (zo 11 (.call 58 [(.t 9),(.t 10)]),6,false),
 (⟨none,.mpU ⟨1001002,none⟩ (.t 5) (.t 6) (.t 11),none⟩,7,true)] [])
def a84:AFun:=⟨3,b84,[]⟩
def b88:AC :=
 .seq (.reg [zo 1 (.box (.t 0)),zo 2 (.new [.int .u64 0,.int .u64 0]),zo 3 (.mv (.k (.sc (.bool false))))] [1,2])
 (.seq (.seq (.reg [zo 4 (.fldA 0 (.t 1)),zo 5 (.ld 1 false (.t 4)),zo 6 (.bin .shr (.t 5) (.k (.sc (.int .u64 63)))),zo 7 (.bin .eql (.t 6) (.k (.sc (.int .u64 1))))] [1,2,7])
 (.cond (.t 7)
 (.seq (.reg [zo 8 (.ld 2 true (.t 1)),zo 9 (.call 104 [(.t 8)]),⟨none,.st 2 (.t 2) (.t 9),none⟩,zo 3 (.mv (.k (.sc (.bool true))))] [2,3])
 (.ret))
 (.skip)))
 (.seq (.reg [zo 10 (.ld 2 true (.t 1)),⟨none,.st 2 (.t 2) (.t 10),none⟩,zo 3 (.mv (.k (.sc (.bool false))))] [2,3])
 (.ret)))
def a88:AFun:=⟨1,b88,[.cell 2 2 true,.t 3]⟩
def Qks:AC :=
 .seq (.seq (.reg [zm 15 9,zm 16 10,zo 17 (.bin .lss (.t 15) (.t 16))] [0,1,2,8,9,10,17])
 (.cond (.t 17)
 (.skip)
 (.exit 0)))
 (.block 1 (.seq (.reg [zm 18 9,zm 19 10,zo 20 (.bin .add (.t 18) (.t 19)),zo 21 (.conv .u64 (.t 20)),zo 22 (.bin .shr (.t 21) (.k (.sc (.int .u64 1)))),zo 23 (.conv .i64 (.t 22)),zm 11 23] [0,1,2,8,9,10,11])
 (.seq (.reg [zm 24 2,zm 25 0,zm 26 11,zo 27 (.idxA 2 (.t 25) (.t 26)),zo 28 (.ld 2 true (.t 27)),zm 29 1,zo 30 (.callv (.t 24) [(.t 28),(.t 29)]),zo 31 (.bin .lss (.t 30) (zK 0))] [0,1,2,8,9,10,11,31])
 (.cond (.t 31)
 (.reg [zm 32 11,zo 33 (.bin .add (.t 32) (zK 1)),zm 9 33] [0,1,2,8,9,10])
 (.reg [zm 34 11,zm 10 34] [0,1,2,8,9,10])))))
def b89:AC :=
 .seq (.reg [zo 6 (.mv (zK 0)),zo 7 (.mv (.k (.sc (.bool false))))] [0,1,2])
 (.seq (.reg [zm 12 0,zo 13 (.len false (.t 12)),zm 8 13] [0,1,2,8])
 (.seq (.reg [zm 14 8,zo 9 (.mv (zK 0)),zm 10 14] [0,1,2,8,9,10])
 (.seq (.block 0 (.loop [0, 1, 2, 8, 9, 10] Qks))
 (.seq (.reg [zm 35 9,zm 36 9,zm 37 8,zo 38 (.bin .lss (.t 36) (.t 37)),zm 39 38,⟨some 40,.mv (.t 2),(some (39,true))⟩,⟨some 41,.mv (.t 0),(some (39,true))⟩,⟨some 42,.mv (.t 9),(some (39,true))⟩,⟨some 43,.idxA 2 (.t 41) (.t 42),(some (39,true))⟩,⟨some 44,.ld 2 true (.t 43),(some (39,true))⟩,⟨some 45,.mv (.t 1),(some (39,true))⟩,⟨some 46,.callv (.t 40) [(.t 44),(.t 45)],(some (39,true))⟩,⟨some 47,.bin .eql (.t 46) (zK 0),(some (39,true))⟩,zo 48 (.pick (.t 39) (.t 47) (.k (.sc (.bool false)))),zm 6 35,zm 7 48] [6,7])
 (.ret)))))
def a89:AFun:=⟨3,b89,[.t 6,.t 7]⟩
def b90:AC :=
 .seq (.reg [zo 2 (.box (.t 0)),zo 4 (.mv (zK 0))] [1,2])
 (.seq (.reg [zo 5 (.fldA 0 (.t 2)),zo 6 (.ld 1 false (.t 5)),zm 7 1,zo 8 (.call 91 [(.t 6),(.t 7)]),zm 4 8] [4])
 (.ret))
def a90:AFun:=⟨2,b90,[.t 4]⟩
def b91:AC :=
 .seq (.reg [zo 4 (.mv (zK 0))] [0,1])
 (.seq (.reg [zm 7 0,zo 8 (.call 117 [(.t 7)]),zm 5 8] [0,1,5])
 (.seq (.reg [zm 9 1,zo 10 (.call 117 [(.t 9)]),zm 6 10] [0,1,5,6])
 (.seq (.seq (.reg [zm 11 5] [0,1,6,11])
 (.cond (.t 11)
 (.seq (.seq (.reg [zm 12 6] [12])
 (.cond (.t 12)
 (.seq (.reg [⟨some 4, .mv (zK 0), none⟩] [4])
 (.ret))
 (.skip)))
 (.seq (.reg [⟨some 4, .mv (.k (.sc (.int .i64 (-1)))), none⟩] [4])
 (.ret)))
 (.skip)))
 (.seq (.seq (.reg [zm 13 6] [0,1,13])
 (.cond (.t 13)
 (.seq (.reg [⟨some 4, .mv (zK 1), none⟩] [4])
 (.ret))
 (.skip)))
 (.seq (.seq (.reg [zm 14 0,zm 15 1,zo 16 (.bin .lss (.t 14) (.t 15))] [0,1,16])
 (.cond (.t 16)
 (.seq (.reg [⟨some 4, .mv (.k (.sc (.int .i64 (-1)))), none⟩] [4])
 (.ret))
 (.skip)))
 (.seq (.seq (.reg [zm 17 0,zm 18 1,zo 19 (.bin .gtr (.t 17) (.t 18))] [19])
 (.cond (.t 19)
 (.seq (.reg [⟨some 4, .mv (zK 1), none⟩] [4])
 (.ret))
 (.skip)))
 (.seq (.reg [⟨some 4, .mv (zK 0), none⟩] [4])
 (.ret))))))))
def a91:AFun:=⟨2,b91,[.t 4]⟩
def b92L0:AC :=
 .seq (.seq (.reg [zm 7 2,zm 8 3,zo 9 (.bin .lss (.t 7) (.t 8))] [0,2,3,9])
 (.cond (.t 9)
 (.skip)
 (.exit 0)))
 (.seq (.block 1 (.regd [(zm 14 0,0,false),
 (zm 15 2,1,false),
 (zm 16 0,2,false),
 (zm 17 3,3,false),
 (zm 18 0,4,false),
 (zm 19 3,5,false),
 (zo 20 (.idxA 2 (.t 18) (.t 19)),6,false),
 (zo 21 (.ld 2 true (.t 20)),7,false),
 (zm 22 0,8,false),
 (zm 23 2,9,false),
 (zo 24 (.idxA 2 (.t 22) (.t 23)),10,false),
 (zo 25 (.ld 2 true (.t 24)),11,false),
 (zo 26 (.idxA 2 (.t 14) (.t 15)),12,false),
 (⟨none,.st 2 (.t 26) (.t 21),none⟩,13,true),
 (zo 27 (.idxA 2 (.t 16) (.t 17)),14,false),
 (⟨none,.st 2 (.t 27) (.t 25),none⟩,15,true)] [0,2,3]))
 (.reg [zm 10 2,zo 11 (.bin .add (.t 10) (zK 1)),zm 12 3,zo 13 (.bin .sub (.t 12) (zK 1)),zm 2 11,zm 3 13] [0,2,3]))
def b92:AC :=
 .seq (.reg [zm 4 0,zo 5 (.len false (.t 4)),zo 6 (.bin .sub (.t 5) (zK 1)),zo 2 (.mv (zK 0)),zm 3 6] [0,2,3])
 (.block 0 (.loop [0,2,3] b92L0))
def a92:AFun:=⟨1,b92,[]⟩
def b93L0:AC :=
 .seq (.reg [zo 9 (.bin .lss (.t 8) (.t 7))] [3,6,7,8,9])
 (.seq (.cond (.t 9)
 (.skip)
 (.exit 0))
 (.seq (.block 1 (.seq (.reg [zo 10 (.idxA 1 (.t 6) (.t 8)),zo 11 (.ld 1 false (.t 10)),zm 5 11] [3,5,6,7,8])
 (.reg [zm 12 3,zm 13 5,zo 14 (.call 66 [(.t 12),(.t 13)]),zm 3 14] [3,6,7,8])))
 (.reg [zo 15 (.bin .add (.t 8) (zK 1)),zm 8 15] [3,6,7,8])))
def b93:AC :=
 .seq (.reg [zo 2 (.mv (zK 0))] [0])
 (.seq (.reg [⟨some 3, .mv (zK 0), none⟩] [0, 3])
 (.seq (.seq (.reg [zm 6 0,zo 7 (.len false (.t 6)),zo 8 (.mv (zK 0))] [3,6,7,8])
 (.block 0 (.loop [3,6,7,8] b93L0)))
 (.seq (.reg [zm 16 3,zm 2 16] [2])
 (.ret))))
def a93:AFun:=⟨1,b93,[.t 2]⟩
def b94L0:AC :=
 .seq (.reg [zo 14 (.bin .lss (.t 13) (.t 12))] [1,5,11,12,13,14])
 (.seq (.cond (.t 14)
 (.skip)
 (.exit 0))
 (.seq (.block 1 (.seq (.reg [zm 15 13,zo 16 (.idxA 1 (.t 11) (.t 13)),zo 17 (.ld 1 false (.t 16)),zm 6 15,zm 7 17] [1,5,6,7,11,12,13])
 (.reg [zm 18 5,zm 19 6,zm 20 7,zm 21 1,zo 22 (.bin .quo (.t 20) (.t 21)),zo 23 (.idxA 1 (.t 18) (.t 19)),⟨none,.st 1 (.t 23) (.t 22),none⟩] [1,5,11,12,13])))
 (.reg [zo 24 (.bin .add (.t 13) (zK 1)),zm 13 24] [1,5,11,12,13])))
def b94:AC :=
 .seq (.reg [zo 4 (.mv (.k (.sc .nilS)))] [0,1])
 (.seq (.reg [zm 8 0,zo 9 (.len false (.t 8)),zo 10 (.mk 1 8 [.int .i64 0] (.t 9) (.t 9)),zm 5 10] [0,1,5])
 (.seq (.seq (.reg [zm 11 0,zo 12 (.len false (.t 11)),zo 13 (.mv (zK 0))] [1,5,11,12,13])
 (.block 0 (.loop [1,5,11,12,13] b94L0)))
 (.seq (.reg [zm 25 5,zm 4 25] [4])
 (.ret))))
def a94:AFun:=⟨2,b94,[.t 4]⟩
def Qkq:AC :=
 .seq (.block 3 (.seq (.reg [zo 22 (.ld 2 true (.t 5)),zm 23 6,zm 24 4,zo 25 (.bin .sub (.t 24) (.k (.sc (.int .u64 1)))),zo 26 (.bin .shr (.t 25) (.k (.sc (.int .u64 17)))),zo 27 (.call 119 [(.t 22),(.t 23),(.t 26)]),zo 28 (.fldA 1 (.t 5)),⟨none,.st 1 (.t 28) (.t 27),none⟩] [0,3,4,5,6])
 (.seq (.reg [zo 29 (.ld 2 true (.t 5)),zo 30 (.fldA 1 (.t 5)),zo 31 (.ld 1 false (.t 30)),zo 32 (.call 119 [(.t 29),(.t 31),(.k (.sc (.int .u64 65536)))]),zm 33 4,zo 34 (.bin .sub (.t 33) (.k (.sc (.int .u64 1)))),zo 35 (.bin .eql (.t 32) (.t 34))] [0,3,4,5,6,35])
 (.cond (.t 35)
 (.exit 2)
 (.skip)))))
 (.reg [zm 20 6,zo 21 (.bin .add (.t 20) (.k (.sc (.int .u64 1)))),zm 6 21] [0,3,4,5,6])
def Qkr:AC :=
 .seq (.seq (.reg [zm 9 3,zo 10 (.len false (.t 9)),zm 11 0,zo 12 (.bin .lss (.t 10) (.t 11))] [0,3,4,12])
 (.cond (.t 12)
 (.skip)
 (.exit 0)))
 (.seq (.block 1 (.seq (.seq (.reg [⟨some 15, .mv (.t 4), none⟩,zo 16 (.call 118 [(.t 15)]),zo 17 (.un .not (.t 16))] [0,3,4,17])
 (.cond (.t 17)
 (.exit 1)
 (.skip)))
 (.seq (.reg [zm 18 4,zo 19 (.bld [.int .u64 0,.int .u64 0] [(0,1,.t 18)]),zo 5 (.new [.int .u64 0,.int .u64 0]),⟨none,.st 2 (.t 5) (.t 19),none⟩] [0,3,4,5])
 (.seq (.seq (.reg [zo 6 (.mv (.k (.sc (.int .u64 2))))] [0,3,4,5,6])
 (.block 2 (.loop [0,3,4,5,6] Qkq)))
 (.reg [zm 36 3,zo 37 (.ld 2 true (.t 5)),zo 38 (.bsl 2 [.int .u64 0,.int .u64 0] 1 [(0,.t 37)]),zo 39 (.app 2 16 [.int .u64 0,.int .u64 0] (.t 36) (.t 38)),zm 3 39] [0,3,4])))))
 (.reg [zm 13 4,zo 14 (.bin .sub (.t 13) (.k (.sc (.int .u64 131072)))),zm 4 14] [0,3,4]))
def b95:AC :=
 .seq (.reg [zo 2 (.mv (.k (.sc .nilS)))] [0])
 (.seq (.reg [zm 7 0,zo 8 (.mk 2 16 [.int .u64 0,.int .u64 0] (zK 0) (.t 7)),zm 3 8] [0,3])
 (.seq (.seq (.reg [zo 4 (.mv (.k (.sc (.int .u64 2305843009213562881))))] [0,3,4])
 (.block 0 (.loop [0,3,4] Qkr)))
 (.seq (.reg [zm 40 3,zm 2 40] [2])
 (.ret))))
def a95:AFun:=⟨1,b95,[.t 2]⟩
def b96L2:AC :=
 .seq (.reg [zo 58 (.bin .lss (.t 57) (.t 56))] [3,8,9,10,11,12,55,56,57,58])
 (.seq (.cond (.t 58)
 (.skip)
 (.exit 4))
 (.seq (.block 5 (.seq (.reg [zm 59 57,zo 60 (.idxA 1 (.t 55) (.t 57)),zo 61 (.ld 1 false (.t 60)),zm 13 59,zm 14 61] [3,8,9,10,11,12,13,14,55,56,57])
 (.regd [(zm 62 8,0,false),
 (zm 63 11,1,false),
 (zm 64 13,2,false),
 (zo 65 (.bin .add (.t 63) (.t 64)),3,false),
 (zo 66 (.ld 2 true (.t 3)),4,false),
 (zm 67 8,5,false),
 (zm 68 11,6,false),
 (zm 69 13,7,false),
 (zo 70 (.bin .add (.t 68) (.t 69)),8,false),
 (zo 71 (.idxA 1 (.t 67) (.t 70)),9,false),
 (zo 72 (.ld 1 false (.t 71)),10,false),
 (zo 73 (.ld 2 true (.t 3)),11,false),
 (zm 74 12,12,false),
 (zm 75 14,13,false),
 (zo 76 (.call 98 [(.t 73),(.t 74),(.t 75)]),14,false),
 (zo 77 (.call 122 [(.t 66),(.t 72),(.t 76)]),15,true),
 (zo 78 (.idxA 1 (.t 62) (.t 65)),16,false),
 (⟨none,.st 1 (.t 78) (.t 77),none⟩,17,true)] [3,8,9,10,11,12,55,56,57])))
 (.reg [zo 79 (.bin .add (.t 57) (zK 1)),zm 57 79] [3,8,9,10,11,12,55,56,57])))
def b96L3:AC :=
 .seq (.seq (.reg [zm 80 8,zo 81 (.len false (.t 80)),zo 82 (.bin .gtr (.t 81) (zK 0)),zm 83 82,⟨some 84,.mv (.t 8),(some (83,true))⟩,⟨some 85,.mv (.t 8),(some (83,true))⟩,⟨some 86,.len false (.t 85),(some (83,true))⟩,⟨some 87,.bin .sub (.t 86) (zK 1),(some (83,true))⟩,⟨some 88,.idxA 1 (.t 84) (.t 87),(some (83,true))⟩,⟨some 89,.ld 1 false (.t 88),(some (83,true))⟩,⟨some 90,.bin .eql (.t 89) (.k (.sc (.int .u64 0))),(some (83,true))⟩,zo 91 (.pick (.t 83) (.t 90) (.k (.sc (.bool false))))] [3,8,9,10,91])
 (.cond (.t 91)
 (.skip)
 (.exit 6)))
 (.block 7 (.reg [zm 92 8,zm 93 8,zo 94 (.len false (.t 93)),zo 95 (.bin .sub (.t 94) (zK 1)),zo 96 (.sl1 (.t 92) none (some (.t 95))),zm 8 96] [3,8,9,10]))
def b96L1:AC :=
 .seq (.seq (.reg [zm 36 8,zo 37 (.len false (.t 36)),zm 38 9,zo 39 (.len false (.t 38)),zo 40 (.bin .geq (.t 37) (.t 39))] [3,8,9,10,40])
 (.cond (.t 40)
 (.skip)
 (.exit 2)))
 (.block 3 (.seq (.reg [zm 41 8,zo 42 (.len false (.t 41)),zm 43 9,zo 44 (.len false (.t 43)),zo 45 (.bin .sub (.t 42) (.t 44)),zm 11 45] [3,8,9,10,11])
 (.seq (.regd [(zo 46 (.ld 2 true (.t 3)),0,false),
 (zm 47 8,1,false),
 (zm 48 8,2,false),
 (zo 49 (.len false (.t 48)),3,false),
 (zo 50 (.bin .sub (.t 49) (zK 1)),4,false),
 (zo 51 (.idxA 1 (.t 47) (.t 50)),5,false),
 (zo 52 (.ld 1 false (.t 51)),6,false),
 (zm 53 10,7,false),
 (zo 54 (.call 98 [(.t 46),(.t 52),(.t 53)]),8,true),
 (zm 12 54,9,false)] [3,8,9,10,11,12])
 (.seq (.seq (.reg [zm 55 9,zo 56 (.len false (.t 55)),zo 57 (.mv (zK 0))] [3,8,9,10,11,12,55,56,57])
 (.block 4 (.loop [3,8,9,10,11,12,55,56,57] b96L2)))
 (.block 6 (.loop [3,8,9,10] b96L3))))))
def b96L0:AC :=
 .seq (.seq (.reg [zm 25 9,zo 26 (.len false (.t 25)),zo 27 (.bin .gtr (.t 26) (zK 0))] [3,8,9,27])
 (.cond (.t 27)
 (.skip)
 (.exit 0)))
 (.block 1 (.seq (.regd [(zo 28 (.ld 2 true (.t 3)),0,false),
 (zm 29 9,1,false),
 (zm 30 9,2,false),
 (zo 31 (.len false (.t 30)),3,false),
 (zo 32 (.bin .sub (.t 31) (zK 1)),4,false),
 (zo 33 (.idxA 1 (.t 29) (.t 32)),5,false),
 (zo 34 (.ld 1 false (.t 33)),6,false),
 (zo 35 (.call 121 [(.t 28),(.t 34)]),7,true),
 (zm 10 35,8,false)] [3,8,9,10])
 (.seq (.block 2 (.loop [3, 8, 9, 10] b96L1))
 (.reg [zm 97 9,zm 98 8,zm 8 97,zm 9 98] [3,8,9]))))
def b96L4:AC :=
 .seq (.reg [zo 112 (.bin .lss (.t 111) (.t 110))] [3,15,16,110,111,112])
 (.seq (.cond (.t 112)
 (.skip)
 (.exit 8))
 (.seq (.block 9 (.seq (.reg [zm 113 111,zm 17 113] [3,15,16,17,110,111])
 (.regd [(zm 114 15,0,false),
 (zm 115 17,1,false),
 (zo 116 (.ld 2 true (.t 3)),2,false),
 (zm 117 15,3,false),
 (zm 118 17,4,false),
 (zo 119 (.idxA 1 (.t 117) (.t 118)),5,false),
 (zo 120 (.ld 1 false (.t 119)),6,false),
 (zm 121 16,7,false),
 (zo 122 (.call 98 [(.t 116),(.t 120),(.t 121)]),8,true),
 (zo 123 (.idxA 1 (.t 114) (.t 115)),9,false),
 (⟨none,.st 1 (.t 123) (.t 122),none⟩,10,true)] [3,15,16,110,111])))
 (.reg [zo 124 (.bin .add (.t 111) (zK 1)),zm 111 124] [3,15,16,110,111])))
def b96:AC :=
 .seq (.reg [zo 3 (.box (.t 0)),zo 6 (.mv (.k (.sc .nilS)))] [1,2,3])
 (.seq (.reg [zo 18 (.mkf 120 [(.t 3)]),zm 7 18] [1,2,3,7])
 (.seq (.reg [zm 19 7,zm 20 1,zo 21 (.callv (.t 19) [(.t 20)]),zm 22 7,zm 23 2,zo 24 (.callv (.t 22) [(.t 23)]),zm 8 21,zm 9 24] [3,8,9])
 (.seq (.block 0 (.loop [3, 8, 9] b96L0))
 (.seq (.reg [zm 99 8,zo 100 (.call 123 [(.t 99)]),zm 15 100] [3,8,15])
 (.seq (.regd [(zo 101 (.ld 2 true (.t 3)),0,false),
 (zm 102 8,1,false),
 (zm 103 8,2,false),
 (zo 104 (.len false (.t 103)),3,false),
 (zo 105 (.bin .sub (.t 104) (zK 1)),4,false),
 (zo 106 (.idxA 1 (.t 102) (.t 105)),5,false),
 (zo 107 (.ld 1 false (.t 106)),6,false),
 (zo 108 (.call 121 [(.t 101),(.t 107)]),7,true),
 (zm 16 108,8,false)] [3,15,16])
 (.seq (.seq (.reg [zm 109 15,zo 110 (.len false (.t 109)),zo 111 (.mv (zK 0))] [3,15,16,110,111])
 (.block 8 (.loop [3,15,16,110,111] b96L4)))
 (.seq (.reg [zm 125 15,zm 6 125] [6])
 (.ret))))))))
def a96:AFun:=⟨3,b96,[.t 6]⟩
def b97:AC :=
 .seq (.reg [zo 2 (.box (.t 0)),zo 4 (.mv (zK 0))] [1,2])
 (.seq (.seq (.reg [zm 5 1,zo 6 (.fldA 0 (.t 2)),zo 7 (.ld 1 false (.t 6)),zo 8 (.bin .quo (.t 7) (.k (.sc (.int .u64 2)))),zo 9 (.bin .gtr (.t 5) (.t 8))] [1,2,9])
 (.cond (.t 9)
 (.seq (.reg [zo 10 (.fldA 0 (.t 2)),zo 11 (.ld 1 false (.t 10)),zm 12 1,zo 13 (.bin .sub (.t 11) (.t 12)),zo 14 (.conv .i64 (.t 13)),zo 15 (.un .neg (.t 14)),zm 4 15] [4])
 (.ret))
 (.skip)))
 (.seq (.reg [zm 16 1,zo 17 (.conv .i64 (.t 16)),zm 4 17] [4])
 (.ret)))
def a97:AFun:=⟨2,b97,[.t 4]⟩
def b98:AC :=
 .seq (.reg [zo 3 (.box (.t 0)),zo 6 (.mv (.k (.sc (.int .u64 0))))] [1,2,3])
 (.seq (.reg [zm 10 1,zm 11 2,zo 12 (.call 103 [(.t 10),(.t 11)]),zm 9 12,zo 13 (.ext (.t 9) 0),zo 14 (.ext (.t 9) 1),zm 7 13,zm 8 14] [3,7,8])
 (.seq (.reg [zm 15 7,zm 16 8,zo 17 (.fldA 0 (.t 3)),zo 18 (.ld 1 false (.t 17)),zo 19 (.call 124 [(.t 15),(.t 16),(.t 18)]),zm 6 19] [6])
 (.ret)))
def a98:AFun:=⟨3,b98,[.t 6]⟩
def b99:AC :=
 .seq (.reg [zo 2 (.box (.t 0)),zo 4 (.mv (.k (.sc (.int .u64 0))))] [1,2])
 (.seq (.seq (.reg [zm 5 1,zo 6 (.bin .lss (.t 5) (zK 0))] [1,2,6])
 (.cond (.t 6)
 (.seq (.reg [zo 7 (.fldA 0 (.t 2)),zo 8 (.ld 1 false (.t 7)),zm 9 1,zo 10 (.un .neg (.t 9)),zo 11 (.conv .u64 (.t 10)),zo 12 (.bin .sub (.t 8) (.t 11)),zm 4 12] [4])
 (.ret))
 (.skip)))
 (.seq (.reg [zm 13 1,zo 14 (.conv .u64 (.t 13)),zm 4 14] [4])
 (.ret)))
def a99:AFun:=⟨2,b99,[.t 4]⟩
def b100:AC :=
 .seq (.reg [zo 4 (.new [.bool false,.nilS])] [0,1,4])
 (.seq (.block 0 (.seq (.reg [zm 6 0,zo 7 (.bin .eql (.t 6) (zK 0)),zm 5 7] [0,1,4,5])
 (.cond (.t 5)
 (.seq (.reg [zo 8 (.bld [.bool false,.nilS] []),⟨none,.st 2 (.t 4) (.t 8),none⟩] [4])
 (.ret))
 (.seq (.reg [zm 10 0,zo 11 (.call 50 [(.t 10),(zK 1125899906842624)]),zo 12 (.un .not (.t 11)),zm 13 12,⟨some 14,.mv (.t 1),(some (13,false))⟩,⟨some 15,.call 50 [(.t 14),(zK 1048576)],(some (13,false))⟩,⟨some 16,.un .not (.t 15),(some (13,false))⟩,zo 17 (.pick (.t 13) (.k (.sc (.bool true))) (.t 16)),zm 9 17] [0,1,4,9])
 (.cond (.t 9)
 (.seq (.reg [zo 18 (.bld [.bool false,.nilS] [(0,1,.k (.sc (.bool true)))]),⟨none,.st 2 (.t 4) (.t 18),none⟩] [4])
 (.ret))
 (.skip))))))
 (.seq (.reg [zm 19 1,zm 20 0,zo 21 (.bld [.int .i64 0,.int .i64 0] [(0,1,.t 19),(1,1,.t 20)]),zo 22 (.bsl 2 [.int .i64 0,.int .i64 0] 1 [(0,.t 21)]),zo 23 (.bld [.bool false,.nilS] [(1,1,.t 22)]),⟨none,.st 2 (.t 4) (.t 23),none⟩] [4])
 (.ret)))
def a100:AFun:=⟨2,b100,[.cell 4 2 true]⟩
def b101:AC :=
 .seq (.reg [zo 2 (.mv (.k (.sc (.int .u64 0))))] [0])
 (.seq (.seq (.reg [zm 3 0,zo 4 (.bin .lss (.t 3) (zK 0))] [0,4])
 (.cond (.t 4)
 (.seq (.reg [zm 5 0,zo 6 (.conv .u64 (.t 5)),zo 7 (.un .neg (.t 6)),zm 2 7] [2])
 (.ret))
 (.skip)))
 (.seq (.reg [zm 8 0,zo 9 (.conv .u64 (.t 8)),zm 2 9] [2])
 (.ret)))
def a101:AFun:=⟨1,b101,[.t 2]⟩
def QhK:AC :=
 .seq (.seq (.reg [zm 67 15,zo 68 (.bin .geq (.t 67) (.k (.sc (.int .u64 4294967296)))),zm 69 68,⟨some 70,.mv (.t 15),(some (69,false))⟩,⟨some 71,.mv (.t 10),(some (69,false))⟩,⟨some 72,.bin .mul (.t 70) (.t 71),(some (69,false))⟩,⟨some 73,.mv (.t 16),(some (69,false))⟩,⟨some 74,.bin .mul (.k (.sc (.int .u64 4294967296))) (.t 73),(some (69,false))⟩,⟨some 75,.mv (.t 13),(some (69,false))⟩,⟨some 76,.bin .add (.t 74) (.t 75),(some (69,false))⟩,⟨some 77,.bin .gtr (.t 72) (.t 76),(some (69,false))⟩,zo 78 (.pick (.t 69) (.k (.sc (.bool true))) (.t 77))] [2,8,9,10,11,13,14,15,16,78])
 (.cond (.t 78)
 (.skip)
 (.exit 0)))
 (.block 1 (.seq (.reg [zm 79 15,zo 80 (.bin .sub (.t 79) (.k (.sc (.int .u64 1)))),zm 15 80] [2,8,9,10,11,13,14,15,16])
 (.seq (.reg [zm 81 16,zm 82 9,zo 83 (.bin .add (.t 81) (.t 82)),zm 16 83] [2,8,9,10,11,13,14,15,16])
 (.seq (.reg [zm 84 16,zo 85 (.bin .geq (.t 84) (.k (.sc (.int .u64 4294967296))))] [2,8,9,10,11,13,14,15,16,85])
 (.cond (.t 85)
 (.exit 0)
 (.skip))))))
def QhJ:AC :=
 .seq (.seq (.reg [zm 102 18,zo 103 (.bin .geq (.t 102) (.k (.sc (.int .u64 4294967296)))),zm 104 103,⟨some 105,.mv (.t 18),(some (104,false))⟩,⟨some 106,.mv (.t 10),(some (104,false))⟩,⟨some 107,.bin .mul (.t 105) (.t 106),(some (104,false))⟩,⟨some 108,.mv (.t 16),(some (104,false))⟩,⟨some 109,.bin .mul (.k (.sc (.int .u64 4294967296))) (.t 108),(some (104,false))⟩,⟨some 110,.mv (.t 14),(some (104,false))⟩,⟨some 111,.bin .add (.t 109) (.t 110),(some (104,false))⟩,⟨some 112,.bin .gtr (.t 107) (.t 111),(some (104,false))⟩,zo 113 (.pick (.t 104) (.k (.sc (.bool true))) (.t 112))] [2,8,9,10,14,15,16,17,18,113])
 (.cond (.t 113)
 (.skip)
 (.exit 2)))
 (.block 3 (.seq (.reg [zm 114 18,zo 115 (.bin .sub (.t 114) (.k (.sc (.int .u64 1)))),zm 18 115] [2,8,9,10,14,15,16,17,18])
 (.seq (.reg [zm 116 16,zm 117 9,zo 118 (.bin .add (.t 116) (.t 117)),zm 16 118] [2,8,9,10,14,15,16,17,18])
 (.seq (.reg [zm 119 16,zo 120 (.bin .geq (.t 119) (.k (.sc (.int .u64 4294967296))))] [2,8,9,10,14,15,16,17,18,120])
 (.cond (.t 120)
 (.exit 2)
 (.skip))))))
def b102:AC :=
 .seq (.reg [zo 6 (.mv (.k (.sc (.int .u64 0)))),zo 7 (.mv (.k (.sc (.int .u64 0))))] [0,1,2])
 (.seq (.seq (.reg [zm 19 2,zo 20 (.bin .eql (.t 19) (.k (.sc (.int .u64 0))))] [0,1,2,20])
 (.cond (.t 20)
 (.reg [zo 21 .bad,⟨none,.bad,none⟩] [0,1,2])
 (.skip)))
 (.seq (.seq (.reg [zm 22 2,zm 23 0,zo 24 (.bin .leq (.t 22) (.t 23))] [0,1,2,24])
 (.cond (.t 24)
 (.reg [zo 25 .bad,⟨none,.bad,none⟩] [0,1,2])
 (.skip)))
 (.seq (.seq (.reg [zm 26 0,zo 27 (.bin .eql (.t 26) (.k (.sc (.int .u64 0))))] [0,1,2,27])
 (.cond (.t 27)
 (.seq (.regd [(zm 28 1,0,false),
 (zm 29 2,1,false),
 (zo 30 (.bin .quo (.t 28) (.t 29)),2,false),
 (zm 31 1,3,false),
 (zm 32 2,4,false),
 (zo 33 (.bin .rem (.t 31) (.t 32)),5,false),
 (zm 6 30,6,false),
 (zm 7 33,7,false)] [6,7])
 (.ret))
 (.skip)))
 (.seq (.reg [zm 34 2,zo 35 (.call 125 [(.t 34)]),zo 36 (.conv .u64 (.t 35)),zm 8 36] [0,1,2,8])
 (.seq (.reg [zm 37 2,zm 38 8,zo 39 (.bin .shl (.t 37) (.t 38)),zm 2 39] [0,1,2,8])
 (.seq (.reg [zm 40 2,zo 41 (.bin .shr (.t 40) (.k (.sc (.int .u64 32)))),zm 9 41] [0,1,2,8,9])
 (.seq (.reg [zm 42 2,zo 43 (.bin .and (.t 42) (.k (.sc (.int .u64 4294967295)))),zm 10 43] [0,1,2,8,9,10])
 (.seq (.reg [zm 44 0,zm 45 8,zo 46 (.bin .shl (.t 44) (.t 45)),zm 47 1,zm 48 8,zo 49 (.bin .sub (.k (.sc (.int .u64 64))) (.t 48)),zo 50 (.bin .shr (.t 47) (.t 49)),zo 51 (.bin .or (.t 46) (.t 50)),zm 11 51] [1,2,8,9,10,11])
 (.seq (.reg [zm 52 1,zm 53 8,zo 54 (.bin .shl (.t 52) (.t 53)),zm 12 54] [2,8,9,10,11,12])
 (.seq (.reg [zm 55 12,zo 56 (.bin .shr (.t 55) (.k (.sc (.int .u64 32)))),zm 13 56] [2,8,9,10,11,12,13])
 (.seq (.reg [zm 57 12,zo 58 (.bin .and (.t 57) (.k (.sc (.int .u64 4294967295)))),zm 14 58] [2,8,9,10,11,13,14])
 (.seq (.reg [zm 59 11,zm 60 9,zo 61 (.bin .quo (.t 59) (.t 60)),zm 15 61] [2,8,9,10,11,13,14,15])
 (.seq (.reg [zm 62 11,zm 63 15,zm 64 9,zo 65 (.bin .mul (.t 63) (.t 64)),zo 66 (.bin .sub (.t 62) (.t 65)),zm 16 66] [2,8,9,10,11,13,14,15,16])
 (.seq (.block 0 (.loop [2, 8, 9, 10, 11, 13, 14, 15, 16] QhK))
 (.seq (.reg [zm 86 11,zo 87 (.bin .mul (.t 86) (.k (.sc (.int .u64 4294967296)))),zm 88 13,zo 89 (.bin .add (.t 87) (.t 88)),zm 90 15,zm 91 2,zo 92 (.bin .mul (.t 90) (.t 91)),zo 93 (.bin .sub (.t 89) (.t 92)),zm 17 93] [2,8,9,10,14,15,17])
 (.seq (.reg [zm 94 17,zm 95 9,zo 96 (.bin .quo (.t 94) (.t 95)),zm 18 96] [2,8,9,10,14,15,17,18])
 (.seq (.reg [zm 97 17,zm 98 18,zm 99 9,zo 100 (.bin .mul (.t 98) (.t 99)),zo 101 (.bin .sub (.t 97) (.t 100)),zm 16 101] [2,8,9,10,14,15,16,17,18])
 (.seq (.block 2 (.loop [2, 8, 9, 10, 14, 15, 16, 17, 18] QhJ))
 (.seq (.reg [zm 121 15,zo 122 (.bin .mul (.t 121) (.k (.sc (.int .u64 4294967296)))),zm 123 18,zo 124 (.bin .add (.t 122) (.t 123)),zm 125 17,zo 126 (.bin .mul (.t 125) (.k (.sc (.int .u64 4294967296)))),zm 127 14,zo 128 (.bin .add (.t 126) (.t 127)),zm 129 18,zm 130 2,zo 131 (.bin .mul (.t 129) (.t 130)),zo 132 (.bin .sub (.t 128) (.t 131)),zm 133 8,zo 134 (.bin .shr (.t 132) (.t 133)),zm 6 124,zm 7 134] [6,7])
 (.ret))))))))))))))))))))
def a102:AFun:=⟨3,b102,[.t 6,.t 7]⟩
def b103:AC :=
 .seq (.reg [zo 4 (.mv (.k (.sc (.int .u64 0)))),zo 5 (.mv (.k (.sc (.int .u64 0))))] [0,1])
 (.seq (.reg [zm 14 0,zo 15 (.bin .and (.t 14) (.k (.sc (.int .u64 4294967295)))),zm 6 15] [0,1,6])
 (.seq (.reg [zm 16 0,zo 17 (.bin .shr (.t 16) (.k (.sc (.int .u64 32)))),zm 7 17] [0,1,6,7])
 (.seq (.reg [zm 18 1,zo 19 (.bin .and (.t 18) (.k (.sc (.int .u64 4294967295)))),zm 8 19] [0,1,6,7,8])
 (.seq (.reg [zm 20 1,zo 21 (.bin .shr (.t 20) (.k (.sc (.int .u64 32)))),zm 9 21] [0,1,6,7,8,9])
 (.seq (.reg [zm 22 6,zm 23 8,zo 24 (.bin .mul (.t 22) (.t 23)),zm 10 24] [0,1,6,7,8,9,10])
 (.seq (.reg [zm 25 7,zm 26 8,zo 27 (.bin .mul (.t 25) (.t 26)),zm 28 10,zo 29 (.bin .shr (.t 28) (.k (.sc (.int .u64 32)))),zo 30 (.bin .add (.t 27) (.t 29)),zm 11 30] [0,1,6,7,9,11])
 (.seq (.reg [zm 31 11,zo 32 (.bin .and (.t 31) (.k (.sc (.int .u64 4294967295)))),zm 12 32] [0,1,6,7,9,11,12])
 (.seq (.reg [zm 33 11,zo 34 (.bin .shr (.t 33) (.k (.sc (.int .u64 32)))),zm 13 34] [0,1,6,7,9,12,13])
 (.seq (.reg [zm 35 12,zm 36 6,zm 37 9,zo 38 (.bin .mul (.t 36) (.t 37)),zo 39 (.bin .add (.t 35) (.t 38)),zm 12 39] [0,1,7,9,12,13])
 (.seq (.reg [zm 40 7,zm 41 9,zo 42 (.bin .mul (.t 40) (.t 41)),zm 43 13,zo 44 (.bin .add (.t 42) (.t 43)),zm 45 12,zo 46 (.bin .shr (.t 45) (.k (.sc (.int .u64 32)))),zo 47 (.bin .add (.t 44) (.t 46)),zm 4 47] [0,1,4])
 (.seq (.reg [zm 48 0,zm 49 1,zo 50 (.bin .mul (.t 48) (.t 49)),zm 5 50] [4,5])
 (.ret))))))))))))
def QhZ:AFun:=⟨2,b103,[.t 4,.t 5]⟩
def b104:AC :=
 .seq (.reg [zo 1 (.box (.t 0)),zo 2 (.new [.int .u64 0,.int .u64 0])] [1,2])
 (.seq (.reg [zo 8 (.fldA 1 (.t 1)),zo 9 (.ld 1 false (.t 8)),zo 10 (.car true (.k (.sc (.int .u64 0))) (.t 9) (.k (.sc (.int .u64 0)))),zm 7 10,zo 11 (.ext (.t 7) 0),zo 12 (.ext (.t 7) 1),zm 3 11,zm 4 12] [1,2,3,4])
 (.seq (.reg [zo 14 (.fldA 0 (.t 1)),zo 15 (.ld 1 false (.t 14)),zm 16 4,zo 17 (.car true (.k (.sc (.int .u64 0))) (.t 15) (.t 16)),zm 13 17,zo 18 (.ext (.t 13) 0),zo 19 (.ext (.t 13) 1),zm 5 18,zm 6 19] [2,3,5])
 (.seq (.reg [zm 20 5,zm 21 3,zo 22 (.bld [.int .u64 0,.int .u64 0] [(0,1,.t 20),(1,1,.t 21)]),⟨none,.st 2 (.t 2) (.t 22),none⟩] [2])
 (.ret))))
def a104:AFun:=⟨1,b104,[.cell 2 2 true]⟩
def QhG:AC :=
 .seq (.reg [zo 26 (.bin .lss (.t 25) (.t 24))] [3,6,11,12,13,17,18,19,23,24,25,26])
 (.seq (.cond (.t 26)
 (.skip)
 (.exit 4))
 (.seq (.block 5 (.seq (.reg [zo 27 (.idxA 2 (.t 23) (.t 25)),zo 28 (.ld 2 true (.t 27)),zo 10 (.new [.int .i64 0,.int .i64 0]),⟨none,.st 2 (.t 10) (.t 28),none⟩] [3,6,10,11,12,13,17,18,19,23,24,25])
 (.reg [zm 29 6,zo 30 (.fldA 1 (.t 10)),zo 31 (.ld 1 false (.t 30)),zo 32 (.fldA 1 (.t 10)),zo 33 (.ld 1 false (.t 32)),zo 34 (.un .neg (.t 33)),zo 35 (.mm true (.t 31) [(.t 34)]),zo 36 (.bin .add (.t 29) (.t 35)),zo 37 (.mm false (.t 36) [(zK 4611686018427387904)]),zm 6 37] [3,6,11,12,13,17,18,19,23,24,25])))
 (.reg [zo 38 (.bin .add (.t 25) (zK 1)),zm 25 38] [3,6,11,12,13,17,18,19,23,24,25])))
def QhH:AC :=
 .seq (.reg [zo 20 (.bin .lss (.t 19) (.t 18))] [3,6,11,12,13,17,18,19,20])
 (.seq (.cond (.t 20)
 (.skip)
 (.exit 2))
 (.seq (.block 3 (.seq (.reg [zo 21 (.idxA 1 (.t 17) (.t 19)),zo 22 (.ld 1 false (.t 21)),zm 8 22] [3,6,8,11,12,13,17,18,19])
 (.seq (.reg [zm 23 8,zo 24 (.len false (.t 23)),zo 25 (.mv (zK 0))] [3,6,11,12,13,17,18,19,23,24,25])
 (.block 4 (.loop [3,6,11,12,13,17,18,19,23,24,25] QhG)))))
 (.reg [zo 39 (.bin .add (.t 19) (zK 1)),zm 19 39] [3,6,11,12,13,17,18,19])))
def QhI:AC :=
 .seq (.reg [zo 14 (.bin .lss (.t 13) (.t 12))] [3,11,12,13,14])
 (.seq (.cond (.t 14)
 (.skip)
 (.exit 0))
 (.seq (.block 1 (.seq (.reg [zo 15 (.idxA 1 (.t 11) (.t 13)),zo 16 (.ld 1 false (.t 15)),zm 5 16] [3,5,11,12,13])
 (.seq (.reg [⟨some 6, .mv (zK 0), none⟩] [3, 5, 6, 11, 12, 13])
 (.seq (.seq (.reg [zm 17 5,zo 18 (.len false (.t 17)),zo 19 (.mv (zK 0))] [3,6,11,12,13,17,18,19])
 (.block 2 (.loop [3,6,11,12,13,17,18,19] QhH)))
 (.seq (.reg [zm 40 6,zo 41 (.bin .eql (.t 40) (zK 4611686018427387904))] [3,6,11,12,13,41])
 (.cond (.t 41)
 (.reg [zm 42 3,zo 43 (.bin .add (.t 42) (zK 75)),zm 3 43] [3,11,12,13])
 (.reg [zm 44 3,zm 45 6,zo 46 (.conv .u64 (.t 45)),zo 47 (.call 128 [(.t 46)]),zo 48 (.bin .add (.t 44) (.t 47)),zm 3 48] [3,11,12,13])))))))
 (.reg [zo 49 (.bin .add (.t 13) (zK 1)),zm 13 49] [3,11,12,13])))
def b107:AC :=
 .seq (.reg [zo 2 (.mv (zK 0))] [0])
 (.seq (.reg [⟨some 3, .mv (zK 0), none⟩] [0, 3])
 (.seq (.seq (.reg [zm 11 0,zo 12 (.len false (.t 11)),zo 13 (.mv (zK 0))] [3,11,12,13])
 (.block 0 (.loop [3,11,12,13] QhI)))
 (.seq (.reg [zm 50 3,zm 2 50] [2])
 (.ret))))
def a107:AFun:=⟨1,b107,[.t 2]⟩
def QhF:AC :=
 .seq (.seq (.reg [zm 27 7,zm 28 2,zo 29 (.bin .leq (.t 27) (.t 28))] [1,2,3,7,8,29])
 (.cond (.t 29)
 (.skip)
 (.exit 0)))
 (.block 1 (.reg [zm 30 7,zo 31 (.bin .mul (.t 30) (zK 2)),zm 7 31] [1,2,3,7,8]))
def QhE:AC :=
 .seq (.seq (.reg [zm 32 9,zm 33 7,zo 34 (.bin .gtr (.t 32) (.t 33))] [1,2,3,7,8,9,34])
 (.cond (.t 34)
 (.skip)
 (.exit 2)))
 (.seq (.block 3 (.reg [zo 37 (.ld 2 true (.t 3)),zm 38 8,zm 39 8,zo 40 (.call 98 [(.t 37),(.t 38),(.t 39)]),zm 8 40] [1,2,3,7,8,9]))
 (.reg [zm 35 9,zo 36 (.bin .quo (.t 35) (zK 2)),zm 9 36] [1,2,3,7,8,9]))
def QhD:AC :=
 .seq (.seq (.reg [zm 45 11,zm 46 7,zo 47 (.bin .lss (.t 45) (.t 46))] [1,2,3,7,8,10,11,47])
 (.cond (.t 47)
 (.skip)
 (.exit 4)))
 (.seq (.block 5 (.regd [(zm 50 10,0,false),
 (zm 51 11,1,false),
 (zo 52 (.ld 2 true (.t 3)),2,false),
 (zm 53 10,3,false),
 (zm 54 11,4,false),
 (zo 55 (.bin .sub (.t 54) (zK 1)),5,false),
 (zo 56 (.idxA 1 (.t 53) (.t 55)),6,false),
 (zo 57 (.ld 1 false (.t 56)),7,false),
 (zm 58 8,8,false),
 (zo 59 (.call 98 [(.t 52),(.t 57),(.t 58)]),9,true),
 (zo 60 (.idxA 1 (.t 50) (.t 51)),10,false),
 (⟨none,.st 1 (.t 60) (.t 59),none⟩,11,true)] [1,2,3,7,8,10,11]))
 (.reg [zm 48 11,zo 49 (.bin .add (.t 48) (zK 1)),zm 11 49] [1,2,3,7,8,10,11]))
def Qhz:AC :=
 .seq (.reg [zo 94 (.bin .lss (.t 93) (.t 92))] [1,2,3,7,8,10,12,13,14,15,17,64,65,71,72,73,84,85,86,91,92,93,94])
 (.seq (.cond (.t 94)
 (.skip)
 (.exit 12))
 (.seq (.block 13 (.seq (.reg [zo 95 (.idxA 2 (.t 91) (.t 93)),zo 96 (.ld 2 true (.t 95)),zo 20 (.new [.int .i64 0,.int .i64 0]),⟨none,.st 2 (.t 20) (.t 96),none⟩] [1,2,3,7,8,10,12,13,14,15,17,20,64,65,71,72,73,84,85,86,91,92,93])
 (.seq (.reg [zm 97 10,zo 98 (.fldA 0 (.t 20)),zo 99 (.ld 1 false (.t 98)),zm 100 13,zo 101 (.bin .mul (.t 99) (.t 100)),zm 102 7,zo 103 (.bin .rem (.t 101) (.t 102)),zo 104 (.idxA 1 (.t 97) (.t 103)),zo 105 (.ld 1 false (.t 104)),zm 21 105] [1,2,3,7,8,10,12,13,14,15,17,20,21,64,65,71,72,73,84,85,86,91,92,93])
 (.regd [(zm 106 14,0,false),
 (zm 107 15,1,false),
 (zo 108 (.idxA 1 (.t 106) (.t 107)),2,false),
 (zo 109 (.ld 1 false (.t 108)),3,false),
 (zm 110 17,4,false),
 (zo 111 (.ld 2 true (.t 3)),5,false),
 (zm 112 14,6,false),
 (zm 113 15,7,false),
 (zo 114 (.idxA 1 (.t 112) (.t 113)),8,false),
 (zo 115 (.ld 1 false (.t 114)),9,false),
 (zm 116 17,10,false),
 (zo 117 (.idxA 1 (.t 115) (.t 116)),11,false),
 (zo 118 (.ld 1 false (.t 117)),12,false),
 (zo 119 (.ld 2 true (.t 3)),13,false),
 (zo 120 (.ld 2 true (.t 3)),14,false),
 (zo 121 (.fldA 1 (.t 20)),15,false),
 (zo 122 (.ld 1 false (.t 121)),16,false),
 (zo 123 (.call 99 [(.t 120),(.t 122)]),17,false),
 (zm 124 21,18,false),
 (zo 125 (.call 98 [(.t 119),(.t 123),(.t 124)]),19,false),
 (zo 126 (.call 129 [(.t 111),(.t 118),(.t 125)]),20,false),
 (zo 127 (.idxA 1 (.t 109) (.t 110)),21,false),
 (⟨none,.st 1 (.t 127) (.t 126),none⟩,22,true)] [1,2,3,7,8,10,12,13,14,15,17,64,65,71,72,73,84,85,86,91,92,93]))))
 (.reg [zo 128 (.bin .add (.t 93) (zK 1)),zm 93 128] [1,2,3,7,8,10,12,13,14,15,17,64,65,71,72,73,84,85,86,91,92,93])))
def QhA:AC :=
 .seq (.reg [zo 87 (.bin .lss (.t 86) (.t 85))] [1,2,3,7,8,10,12,13,14,15,64,65,71,72,73,84,85,86,87])
 (.seq (.cond (.t 87)
 (.skip)
 (.exit 10))
 (.seq (.block 11 (.seq (.reg [zm 88 86,zo 89 (.idxA 1 (.t 84) (.t 86)),zo 90 (.ld 1 false (.t 89)),zm 17 88,zm 18 90] [1,2,3,7,8,10,12,13,14,15,17,18,64,65,71,72,73,84,85,86])
 (.seq (.reg [zm 91 18,zo 92 (.len false (.t 91)),zo 93 (.mv (zK 0))] [1,2,3,7,8,10,12,13,14,15,17,64,65,71,72,73,84,85,86,91,92,93])
 (.block 12 (.loop [1,2,3,7,8,10,12,13,14,15,17,64,65,71,72,73,84,85,86,91,92,93] Qhz)))))
 (.reg [zo 129 (.bin .add (.t 86) (zK 1)),zm 86 129] [1,2,3,7,8,10,12,13,14,15,64,65,71,72,73,84,85,86])))
def QhB:AC :=
 .seq (.reg [zo 74 (.bin .lss (.t 73) (.t 72))] [1,2,3,7,8,10,12,13,14,64,65,71,72,73,74])
 (.seq (.cond (.t 74)
 (.skip)
 (.exit 8))
 (.seq (.block 9 (.seq (.reg [zm 75 73,zo 76 (.idxA 1 (.t 71) (.t 73)),zo 77 (.ld 1 false (.t 76)),zm 15 75,zm 16 77] [1,2,3,7,8,10,12,13,14,15,16,64,65,71,72,73])
 (.seq (.reg [zm 78 14,zm 79 15,zm 80 16,zo 81 (.len false (.t 80)),zo 82 (.mk 1 8 [.int .u64 0] (.t 81) (.t 81)),zo 83 (.idxA 1 (.t 78) (.t 79)),⟨none,.st 1 (.t 83) (.t 82),none⟩] [1,2,3,7,8,10,12,13,14,15,16,64,65,71,72,73])
 (.seq (.reg [zm 84 16,zo 85 (.len false (.t 84)),zo 86 (.mv (zK 0))] [1,2,3,7,8,10,12,13,14,15,64,65,71,72,73,84,85,86])
 (.block 10 (.loop [1,2,3,7,8,10,12,13,14,15,64,65,71,72,73,84,85,86] QhA))))))
 (.reg [zo 130 (.bin .add (.t 73) (zK 1)),zm 73 130] [1,2,3,7,8,10,12,13,14,64,65,71,72,73])))
def QhC:AC :=
 .seq (.reg [zo 66 (.bin .lss (.t 65) (.t 64))] [1,2,3,7,8,10,12,64,65,66])
 (.seq (.cond (.t 66)
 (.skip)
 (.exit 6))
 (.seq (.block 7 (.seq (.reg [zm 67 65,zm 13 67] [1,2,3,7,8,10,12,13,64,65])
 (.seq (.reg [zm 68 1,zo 69 (.len false (.t 68)),zo 70 (.mk 1 24 [.nilS] (.t 69) (.t 69)),zm 14 70] [1,2,3,7,8,10,12,13,14,64,65])
 (.seq (.seq (.reg [zm 71 1,zo 72 (.len false (.t 71)),zo 73 (.mv (zK 0))] [1,2,3,7,8,10,12,13,14,64,65,71,72,73])
 (.block 8 (.loop [1,2,3,7,8,10,12,13,14,64,65,71,72,73] QhB)))
 (.reg [zm 131 12,zm 132 13,zo 133 (.ld 2 true (.t 3)),zm 134 14,zo 135 (.call 130 [(.t 133),(.t 134)]),zo 136 (.idxA 1 (.t 131) (.t 132)),⟨none,.st 1 (.t 136) (.t 135),none⟩] [1,2,3,7,8,10,12,64,65])))))
 (.reg [zo 137 (.bin .add (.t 65) (zK 1)),zm 65 137] [1,2,3,7,8,10,12,64,65])))
def Qhy:AC :=
 .seq (.reg [zo 151 (.bin .lss (.t 150) (.t 149))] [2,3,22,23,149,150,151])
 (.seq (.cond (.t 151)
 (.skip)
 (.exit 14))
 (.seq (.block 15 (.seq (.reg [zm 152 150,zm 24 152] [2,3,22,23,24,149,150])
 (.regd [(zm 153 22,0,false),
 (zm 154 24,1,false),
 (zo 155 (.ld 2 true (.t 3)),2,false),
 (zm 156 22,3,false),
 (zm 157 24,4,false),
 (zo 158 (.idxA 1 (.t 156) (.t 157)),5,false),
 (zo 159 (.ld 1 false (.t 158)),6,false),
 (zm 160 23,7,false),
 (zo 161 (.call 98 [(.t 155),(.t 159),(.t 160)]),8,true),
 (zo 162 (.idxA 1 (.t 153) (.t 154)),9,false),
 (⟨none,.st 1 (.t 162) (.t 161),none⟩,10,true)] [2,3,22,23,149,150])))
 (.reg [zo 163 (.bin .add (.t 150) (zK 1)),zm 150 163] [2,3,22,23,149,150])))
def b108:AC :=
 .seq (.reg [zo 3 (.box (.t 0)),zo 6 (.mv (.k (.sc .nilS)))] [1,2,3])
 (.seq (.regd [(zo 25 (.fldA 1 (.t 3)),0,false),
 (zo 26 (.ld 1 false (.t 25)),1,true),
 (zo 7 (.mv (zK 1)),2,false),
 (zm 8 26,3,false)] [1,2,3,7,8])
 (.seq (.block 0 (.loop [1, 2, 3, 7, 8] QhF))
 (.seq (.seq (.reg [zo 9 (.mv (zK 131072))] [1,2,3,7,8,9])
 (.block 2 (.loop [1,2,3,7,8,9] QhE)))
 (.seq (.reg [zm 41 7,zo 42 (.mk 1 8 [.int .u64 0] (.t 41) (.t 41)),zm 10 42] [1,2,3,7,8,10])
 (.seq (.reg [zm 43 10,zo 44 (.idxA 1 (.t 43) (zK 0)),⟨none,.st 1 (.t 44) (.k (.sc (.int .u64 1))),none⟩] [1,2,3,7,8,10])
 (.seq (.seq (.reg [zo 11 (.mv (zK 1))] [1,2,3,7,8,10,11])
 (.block 4 (.loop [1,2,3,7,8,10,11] QhD)))
 (.seq (.reg [zm 61 7,zo 62 (.mk 1 8 [.int .u64 0] (.t 61) (.t 61)),zm 12 62] [1,2,3,7,8,10,12])
 (.seq (.seq (.reg [zm 63 12,zo 64 (.len false (.t 63)),zo 65 (.mv (zK 0))] [1,2,3,7,8,10,12,64,65])
 (.block 6 (.loop [1,2,3,7,8,10,12,64,65] QhC)))
 (.seq (.regd [(zo 138 (.ld 2 true (.t 3)),0,false),
 (zm 139 12,1,false),
 (zo 140 (.ld 2 true (.t 3)),2,false),
 (zm 141 8,3,false),
 (zo 142 (.call 121 [(.t 140),(.t 141)]),4,false),
 (zo 143 (.call 131 [(.t 138),(.t 139),(.t 142)]),5,true),
 (zm 22 143,6,false)] [2,3,7,22])
 (.seq (.reg [zo 144 (.ld 2 true (.t 3)),zm 145 7,zo 146 (.conv .u64 (.t 145)),zo 147 (.call 121 [(.t 144),(.t 146)]),zm 23 147] [2,3,22,23])
 (.seq (.seq (.reg [zm 148 22,zo 149 (.len false (.t 148)),zo 150 (.mv (zK 0))] [2,3,22,23,149,150])
 (.block 14 (.loop [2,3,22,23,149,150] Qhy)))
 (.seq (.reg [zm 164 22,zm 165 2,zo 166 (.bin .add (.t 165) (zK 1)),zo 167 (.sl1 (.t 164) none (some (.t 166))),zm 6 167] [6])
 (.ret)))))))))))))
def a108:AFun:=⟨3,b108,[.t 6]⟩
def b117:AC :=
 .seq (.reg [zo 2 (.mv (.k (.sc (.bool false))))] [0])
 (.seq (.reg [zm 3 0,zm 4 0,zo 5 (.bin .neq (.t 3) (.t 4)),zm 2 5] [2])
 (.ret))
def a117:AFun:=⟨1,b117,[.t 2]⟩
def Qhw:AC :=
 .seq (.seq (.reg [zm 27 8,zm 28 4,zo 29 (.bin .lss (.t 27) (.t 28)),zm 30 29,⟨some 31,.mv (.t 7),(some (30,true))⟩,⟨some 32,.mv (.t 0),(some (30,true))⟩,⟨some 33,.bin .sub (.t 32) (.k (.sc (.int .u64 1))),(some (30,true))⟩,⟨some 34,.bin .neq (.t 31) (.t 33),(some (30,true))⟩,zo 35 (.pick (.t 30) (.t 34) (.k (.sc (.bool false))))] [0,3,4,7,8,14,15,35])
 (.cond (.t 35)
 (.skip)
 (.exit 2)))
 (.seq (.block 3 (.reg [zo 38 (.ld 2 true (.t 3)),zm 39 7,zm 40 7,zo 41 (.call 98 [(.t 38),(.t 39),(.t 40)]),zm 7 41] [0,3,4,7,8,14,15]))
 (.reg [zm 36 8,zo 37 (.bin .add (.t 36) (zK 1)),zm 8 37] [0,3,4,7,8,14,15]))
def Qhx:AC :=
 .seq (.reg [zo 16 (.bin .lss (.t 15) (zK 12))] [0,3,4,14,15,16])
 (.seq (.cond (.t 16)
 (.skip)
 (.exit 0))
 (.seq (.block 1 (.seq (.reg [zo 17 (.idxG 12 1 false (.t 14) (.t 15)),zm 6 17] [0,3,4,6,14,15])
 (.seq (.regd [(zo 18 (.ld 2 true (.t 3)),0,true),
 (zm 19 6,1,false),
 (zm 20 0,2,false),
 (zo 21 (.bin .sub (.t 20) (.k (.sc (.int .u64 1)))),3,false),
 (zm 22 4,4,false),
 (zo 23 (.bin .shr (.t 21) (.t 22)),5,false),
 (zo 24 (.call 119 [(.t 18),(.t 19),(.t 23)]),6,true),
 (zm 7 24,7,false)] [0,3,4,7,14,15])
 (.seq (.seq (.reg [zm 25 7,zo 26 (.bin .eql (.t 25) (.k (.sc (.int .u64 1))))] [0,3,4,7,14,15,26])
 (.cond (.t 26)
 (.exit 1)
 (.skip)))
 (.seq (.seq (.reg [zo 8 (.mv (zK 1))] [0,3,4,7,8,14,15])
 (.block 2 (.loop [0,3,4,7,8,14,15] Qhw)))
 (.seq (.reg [zm 42 7,zm 43 0,zo 44 (.bin .sub (.t 43) (.k (.sc (.int .u64 1)))),zo 45 (.bin .neq (.t 42) (.t 44))] [0,3,4,14,15,45])
 (.cond (.t 45)
 (.seq (.reg [⟨some 2, .mv (.k (.sc (.bool false))), none⟩] [2])
 (.ret))
 (.skip))))))))
 (.reg [zo 46 (.bin .add (.t 15) (zK 1)),zm 15 46] [0,3,4,14,15])))
def b118:AC :=
 .seq (.reg [zo 2 (.mv (.k (.sc (.bool false))))] [0])
 (.seq (.reg [zm 9 0,zo 10 (.bld [.int .u64 0,.int .u64 0] [(0,1,.t 9)]),zo 3 (.new [.int .u64 0,.int .u64 0]),⟨none,.st 2 (.t 3) (.t 10),none⟩] [0,3])
 (.seq (.reg [zm 11 0,zo 12 (.bin .sub (.t 11) (.k (.sc (.int .u64 1)))),zo 13 (.call 138 [(.t 12)]),zm 4 13] [0,3,4])
 (.seq (.seq (.reg [zo 14 (.bld [.int .u64 0,.int .u64 0,.int .u64 0,.int .u64 0,.int .u64 0,.int .u64 0,.int .u64 0,.int .u64 0,.int .u64 0,.int .u64 0,.int .u64 0,.int .u64 0] [(0,1,.k (.sc (.int .u64 2))),(1,1,.k (.sc (.int .u64 3))),(2,1,.k (.sc (.int .u64 5))),(3,1,.k (.sc (.int .u64 7))),(4,1,.k (.sc (.int .u64 11))),(5,1,.k (.sc (.int .u64 13))),(6,1,.k (.sc (.int .u64 17))),(7,1,.k (.sc (.int .u64 19))),(8,1,.k (.sc (.int .u64 23))),(9,1,.k (.sc (.int .u64 29))),(10,1,.k (.sc (.int .u64 31))),(11,1,.k (.sc (.int .u64 37)))]),zo 15 (.mv (zK 0))] [0,3,4,14,15])
 (.block 0 (.loop [0,3,4,14,15] Qhx)))
 (.seq (.reg [⟨some 2, .mv (.k (.sc (.bool true))), none⟩] [2])
 (.ret)))))
def a118:AFun:=⟨1,b118,[.t 2]⟩
def Qhv:AC :=
 .seq (.seq (.reg [zm 8 2,zo 9 (.bin .gtr (.t 8) (.k (.sc (.int .u64 0))))] [1,2,3,7,9])
 (.cond (.t 9)
 (.skip)
 (.exit 0)))
 (.seq (.block 1 (.seq (.seq (.reg [⟨some 12, .mv (.t 2), none⟩,zo 13 (.bin .and (.t 12) (.k (.sc (.int .u64 1)))),zo 14 (.bin .eql (.t 13) (.k (.sc (.int .u64 1))))] [1,2,3,7,14])
 (.cond (.t 14)
 (.reg [zo 15 (.ld 2 true (.t 3)),zm 16 7,zm 17 1,zo 18 (.call 98 [(.t 15),(.t 16),(.t 17)]),zm 7 18] [1,2,3,7])
 (.skip)))
 (.reg [zo 19 (.ld 2 true (.t 3)),zm 20 1,zm 21 1,zo 22 (.call 98 [(.t 19),(.t 20),(.t 21)]),zm 1 22] [1,2,3,7])))
 (.reg [zm 10 2,zo 11 (.bin .shr (.t 10) (.k (.sc (.int .u64 1)))),zm 2 11] [1,2,3,7]))
def b119:AC :=
 .seq (.reg [zo 3 (.box (.t 0)),zo 6 (.mv (.k (.sc (.int .u64 0))))] [1,2,3])
 (.seq (.reg [⟨some 7, .mv (.k (.sc (.int .u64 1))), none⟩] [1, 2, 3, 7])
 (.seq (.block 0 (.loop [1, 2, 3, 7] Qhv))
 (.seq (.reg [zm 23 7,zm 6 23] [6])
 (.ret))))
def a119:AFun:=⟨3,b119,[.t 6]⟩
def QmT:AC :=
 .seq (.reg [zo 13 (.bin .lss (.t 12) (.t 11))] [1,4,10,11,12,13])
 (.seq (.cond (.t 13)
 (.skip)
 (.exit 0))
 (.seq (.block 1 (.seq (.reg [zm 14 12,zo 15 (.idxA 1 (.t 10) (.t 12)),zo 16 (.ld 1 false (.t 15)),zm 5 14,zm 6 16] [1,4,5,6,10,11,12])
 (.reg [zm 17 4,zm 18 5,zo 19 (.ld 2 true (.t 1)),zm 20 6,zo 21 (.call 99 [(.t 19),(.t 20)]),zo 22 (.idxA 1 (.t 17) (.t 18)),⟨none,.st 1 (.t 22) (.t 21),none⟩] [1,4,10,11,12])))
 (.reg [zo 23 (.bin .add (.t 12) (zK 1)),zm 12 23] [1,4,10,11,12])))
def b120:AC :=
 .seq (.reg [zo 3 (.mv (.k (.sc .nilS)))] [0,1])
 (.seq (.reg [zm 7 0,zo 8 (.len false (.t 7)),zo 9 (.mk 1 8 [.int .u64 0] (.t 8) (.t 8)),zm 4 9] [0,1,4])
 (.seq (.seq (.reg [zm 10 0,zo 11 (.len false (.t 10)),zo 12 (.mv (zK 0))] [1,4,10,11,12])
 (.block 0 (.loop [1,4,10,11,12] QmT)))
 (.seq (.reg [zm 24 4,zm 3 24] [3])
 (.ret))))
def a120:AFun:=⟨2,b120,[.t 3]⟩
def b121:AC :=
 .seq (.reg [zo 2 (.box (.t 0)),zo 4 (.mv (.k (.sc (.int .u64 0))))] [1,2])
 (.seq (.reg [zo 5 (.ld 2 true (.t 2)),zm 6 1,zo 7 (.fldA 0 (.t 2)),zo 8 (.ld 1 false (.t 7)),zo 9 (.bin .sub (.t 8) (.k (.sc (.int .u64 2)))),zo 10 (.call 119 [(.t 5),(.t 6),(.t 9)]),zm 4 10] [4])
 (.ret))
def a121:AFun:=⟨2,b121,[.t 4]⟩
def b122:AC :=
 .seq (.reg [zo 3 (.box (.t 0)),zo 6 (.mv (.k (.sc (.int .u64 0))))] [1,2,3])
 (.seq (.seq (.reg [zm 7 1,zm 8 2,zo 9 (.bin .lss (.t 7) (.t 8))] [1,2,3,9])
 (.cond (.t 9)
 (.reg [zm 10 1,zo 11 (.fldA 0 (.t 3)),zo 12 (.ld 1 false (.t 11)),zo 13 (.bin .add (.t 10) (.t 12)),zm 1 13] [1,2])
 (.skip)))
 (.seq (.reg [zm 14 1,zm 15 2,zo 16 (.bin .sub (.t 14) (.t 15)),zm 6 16] [6])
 (.ret)))
def a122:AFun:=⟨3,b122,[.t 6]⟩
def b123:AC :=
 .seq (.reg [zo 2 (.mv (.k (.sc .nilS)))] [0])
 (.seq (.seq (.reg [zm 3 0,zo 4 (.isnil 1 false (.t 3))] [0,4])
 (.cond (.t 4)
 (.seq (.reg [⟨some 2, .mv (.k (.sc .nilS)), none⟩] [2])
 (.ret))
 (.skip)))
 (.seq (.reg [zo 5 (.bsl 1 [.int .u64 0] 0 []),zm 6 0,zo 7 (.app 1 8 [.int .u64 0] (.t 5) (.t 6)),zm 2 7] [2])
 (.ret)))
def a123:AFun:=⟨1,b123,[.t 2]⟩
def b124:AC :=
 .seq (.reg [zo 6 (.mv (.k (.sc (.int .u64 0))))] [0,1,2])
 (.seq (.reg [zm 10 0,zm 11 2,zo 12 (.bin .rem (.t 10) (.t 11)),zm 13 1,zm 14 2,zo 15 (.call 102 [(.t 12),(.t 13),(.t 14)]),zm 9 15,zo 16 (.ext (.t 9) 0),zo 17 (.ext (.t 9) 1),zm 7 16,zm 8 17] [8])
 (.seq (.reg [zm 18 8,zm 6 18] [6])
 (.ret)))
def a124:AFun:=⟨3,b124,[.t 6]⟩
def b125:AC :=
 .seq (.reg [zo 2 (.mv (zK 0))] [0])
 (.seq (.reg [zm 3 0,zo 4 (.call 139 [(.t 3)]),zo 5 (.bin .sub (zK 64) (.t 4)),zm 2 5] [2])
 (.ret))
def a125:AFun:=⟨1,b125,[.t 2]⟩
def b128:AC :=
 .seq (.reg [zo 2 (.mv (zK 0))] [0])
 (.seq (.cond (.k (.sc (.bool false)))
 (.seq (.reg [zm 3 0,zo 4 (.conv .u32 (.t 3)),zo 5 (.call 140 [(.t 4)]),zm 2 5] [2])
 (.ret))
 (.skip))
 (.seq (.reg [zm 6 0,zo 7 (.call 139 [(.t 6)]),zm 2 7] [2])
 (.ret)))
def a128:AFun:=⟨1,b128,[.t 2]⟩
def b129:AC :=
 .seq (.reg [zo 3 (.box (.t 0)),zo 6 (.mv (.k (.sc (.int .u64 0))))] [1,2,3])
 (.seq (.seq (.reg [zm 7 1,zm 8 2,zo 9 (.bin .add (.t 7) (.t 8)),zm 1 9] [1,3])
 (.seq (.reg [zm 10 1,zo 11 (.fldA 0 (.t 3)),zo 12 (.ld 1 false (.t 11)),zo 13 (.bin .geq (.t 10) (.t 12))] [1,3,13])
 (.cond (.t 13)
 (.reg [zm 14 1,zo 15 (.fldA 0 (.t 3)),zo 16 (.ld 1 false (.t 15)),zo 17 (.bin .sub (.t 14) (.t 16)),zm 1 17] [1])
 (.skip))))
 (.seq (.reg [zm 18 1,zm 6 18] [6])
 (.ret)))
def a129:AFun:=⟨3,b129,[.t 6]⟩
def Qhu:AC :=
 .seq (.seq (.regd [(zm 19 7,0,false),
 (zm 20 1,1,false),
 (zo 21 (.len false (.t 20)),2,false),
 (zo 22 (.bin .lss (.t 19) (.t 21)),3,false),
 (zm 23 22,4,false),
 (⟨some 24,.mv (.t 1),(some (23,true))⟩,5,false),
 (⟨some 25,.mv (.t 7),(some (23,true))⟩,6,false),
 (⟨some 26,.idxA 1 (.t 24) (.t 25),(some (23,true))⟩,7,false),
 (⟨some 27,.ld 1 false (.t 26),(some (23,true))⟩,8,false),
 (⟨some 28,.ld 1 false (.t 6),(some (23,true))⟩,9,false),
 (⟨some 29,.idxA 1 (.t 27) (.t 28),(some (23,true))⟩,10,false),
 (⟨some 30,.ld 1 false (.t 29),(some (23,true))⟩,11,true),
 (⟨some 31,.bin .eql (.t 30) (.k (.sc (.int .u64 0))),(some (23,true))⟩,12,false),
 (zo 32 (.pick (.t 23) (.t 31) (.k (.sc (.bool false)))),13,false)] [1,2,5,6,7,14,15,32])
 (.cond (.t 32)
 (.skip)
 (.exit 2)))
 (.block 3 (.reg [zm 33 7,zo 34 (.bin .add (.t 33) (zK 1)),zm 7 34] [1,2,5,6,7,14,15]))
def Qht:AC :=
 .seq (.reg [zo 83 (.bin .lss (.t 82) (.t 81))] [1,2,5,6,9,10,14,15,80,81,82,83])
 (.seq (.cond (.t 83)
 (.skip)
 (.exit 4))
 (.seq (.block 5 (.seq (.reg [zo 84 (.idxA 1 (.t 80) (.t 82)),zo 85 (.ld 1 false (.t 84)),zm 12 85] [1,2,5,6,9,10,12,14,15,80,81,82])
 (.seq (.reg [zm 86 12,zo 87 (.ld 1 false (.t 6)),zo 88 (.idxA 1 (.t 86) (.t 87)),zo 89 (.ld 1 false (.t 88)),zo 90 (.bin .neq (.t 89) (.k (.sc (.int .u64 0))))] [1,2,5,6,9,10,12,14,15,80,81,82,90])
 (.cond (.t 90)
 (.regd [(zm 91 10,0,false),
 (zm 92 12,1,false),
 (zo 93 (.ld 2 true (.t 2)),2,false),
 (zm 94 12,3,false),
 (zo 95 (.ld 1 false (.t 6)),4,false),
 (zo 96 (.idxA 1 (.t 94) (.t 95)),5,false),
 (zo 97 (.ld 1 false (.t 96)),6,false),
 (zm 98 9,7,false),
 (zo 99 (.call 98 [(.t 93),(.t 97),(.t 98)]),8,true),
 (zo 100 (.callv (.t 91) [(.t 92),(.t 99)]),9,true)] [1,2,5,6,9,10,14,15,80,81,82])
 (.skip)))))
 (.reg [zo 101 (.bin .add (.t 82) (zK 1)),zm 82 101] [1,2,5,6,9,10,14,15,80,81,82])))
def YQ:AC :=
 .seq (.reg [zo 16 (.bin .lss (.t 15) (.t 14))] [1,2,5,14,15,16])
 (.seq (.cond (.t 16)
 (.skip)
 (.exit 0))
 (.seq (.block 1 (.seq (.reg [zm 17 15,zo 6 (.new [.int .i64 0]),⟨none,.st 1 (.t 6) (.t 17),none⟩] [1,2,5,6,14,15])
 (.seq (.reg [zo 18 (.ld 1 false (.t 6)),zm 7 18] [1,2,5,6,7,14,15])
 (.seq (.block 2 (.loop [1, 2, 5, 6, 7, 14, 15] Qhu))
 (.seq (.seq (.reg [zm 35 7,zm 36 1,zo 37 (.len false (.t 36)),zo 38 (.bin .eql (.t 35) (.t 37))] [1,2,5,6,7,14,15,38])
 (.cond (.t 38)
 (.seq (.reg [⟨some 4, .mv (.k (.sc (.int .u64 0))), none⟩] [4])
 (.ret))
 (.skip)))
 (.seq (.seq (.reg [zm 39 7,zo 40 (.ld 1 false (.t 6)),zo 41 (.bin .neq (.t 39) (.t 40))] [1,2,5,6,7,14,15,41])
 (.cond (.t 41)
 (.seq (.regs [(zm 42 1,0,false),
 (zm 43 7,1,false),
 (zm 44 1,2,false),
 (zo 45 (.ld 1 false (.t 6)),3,false),
 (zm 46 1,4,false),
 (zo 47 (.ld 1 false (.t 6)),5,true),
 (zo 48 (.idxA 1 (.t 46) (.t 47)),6,false),
 (zo 49 (.ld 1 false (.t 48)),7,true),
 (zm 50 1,8,false),
 (zm 51 7,9,false),
 (zo 52 (.idxA 1 (.t 50) (.t 51)),10,false),
 (zo 53 (.ld 1 false (.t 52)),11,true),
 (zo 54 (.idxA 1 (.t 42) (.t 43)),12,false),
 (⟨none,.st 1 (.t 54) (.t 49),none⟩,13,true),
 (zo 55 (.idxA 1 (.t 44) (.t 45)),14,false),
 (⟨none,.st 1 (.t 55) (.t 53),none⟩,15,true)] [15] [1,2,5,6,14,15])
 (.reg [zo 56 (.ld 2 true (.t 2)),zm 57 5,zo 58 (.call 122 [(.t 56),(.k (.sc (.int .u64 0))),(.t 57)]),zm 5 58] [1,2,5,6,14,15]))
 (.skip)))
 (.seq (.reg [zm 59 1,zo 60 (.ld 1 false (.t 6)),zo 61 (.idxA 1 (.t 59) (.t 60)),zo 62 (.ld 1 false (.t 61)),zo 8 (.new [.nilS]),⟨none,.st 1 (.t 8) (.t 62),none⟩] [1,2,5,6,8,14,15])
 (.seq (.regd [(zo 63 (.ld 2 true (.t 2)),0,false),
 (zm 64 5,1,false),
 (zo 65 (.ld 1 false (.t 8)),2,false),
 (zo 66 (.ld 1 false (.t 6)),3,false),
 (zo 67 (.idxA 1 (.t 65) (.t 66)),4,false),
 (zo 68 (.ld 1 false (.t 67)),5,false),
 (zo 69 (.call 98 [(.t 63),(.t 64),(.t 68)]),6,true),
 (zm 5 69,7,false)] [1,2,5,6,8,14,15])
 (.seq (.regd [(zo 70 (.ld 2 true (.t 2)),0,false),
 (zo 71 (.ld 1 false (.t 8)),1,false),
 (zo 72 (.ld 1 false (.t 6)),2,false),
 (zo 73 (.idxA 1 (.t 71) (.t 72)),3,false),
 (zo 74 (.ld 1 false (.t 73)),4,false),
 (zo 75 (.call 121 [(.t 70),(.t 74)]),5,true),
 (zm 9 75,6,false)] [1,2,5,6,8,9,14,15])
 (.seq (.reg [zo 76 (.mkf 141 [(.t 6),(.t 8),(.t 2)]),zm 10 76] [1,2,5,6,9,10,14,15])
 (.seq (.reg [zm 77 1,zo 78 (.ld 1 false (.t 6)),zo 79 (.bin .add (.t 78) (zK 1)),zo 80 (.sl1 (.t 77) (some (.t 79)) none),zo 81 (.len false (.t 80)),zo 82 (.mv (zK 0))] [1,2,5,6,9,10,14,15,80,81,82])
 (.block 4 (.loop [1,2,5,6,9,10,14,15,80,81,82] Qht)))))))))))))
 (.reg [zo 102 (.bin .add (.t 15) (zK 1)),zm 15 102] [1,2,5,14,15])))
def b130:AC :=
 .seq (.reg [zo 2 (.box (.t 0)),zo 4 (.mv (.k (.sc (.int .u64 0))))] [1,2])
 (.seq (.reg [⟨some 5, .mv (.k (.sc (.int .u64 1))), none⟩] [1, 2, 5])
 (.seq (.seq (.reg [zm 13 1,zo 14 (.len false (.t 13)),zo 15 (.mv (zK 0))] [1,2,5,14,15])
 (.block 0 (.loop [1,2,5,14,15] YQ)))
 (.seq (.reg [zm 103 5,zm 4 103] [4])
 (.ret))))
def a130:AFun:=⟨2,b130,[.t 4]⟩
def Qhs:AC :=
 .seq (.reg [zo 32 (.bin .lss (.t 31) (.t 30))] [1,2,3,7,8,9,30,31,32])
 (.seq (.cond (.t 32)
 (.skip)
 (.exit 0))
 (.seq (.block 1 (.seq (.reg [zm 33 31,zm 10 33] [1,2,3,7,8,9,10,30,31])
 (.regd [(zm 34 8,0,false),
 (zm 35 10,1,false),
 (zm 36 9,2,false),
 (zm 37 10,3,false),
 (zm 38 1,4,false),
 (zm 39 10,5,false),
 (zo 40 (.bin .mul (zK 2) (.t 39)),6,false),
 (zo 41 (.idxA 1 (.t 38) (.t 40)),7,false),
 (zo 42 (.ld 1 false (.t 41)),8,false),
 (zm 43 1,9,false),
 (zm 44 10,10,false),
 (zo 45 (.bin .mul (zK 2) (.t 44)),11,false),
 (zo 46 (.bin .add (.t 45) (zK 1)),12,false),
 (zo 47 (.idxA 1 (.t 43) (.t 46)),13,false),
 (zo 48 (.ld 1 false (.t 47)),14,false),
 (zo 49 (.idxA 1 (.t 34) (.t 35)),15,false),
 (⟨none,.st 1 (.t 49) (.t 42),none⟩,16,true),
 (zo 50 (.idxA 1 (.t 36) (.t 37)),17,false),
 (⟨none,.st 1 (.t 50) (.t 48),none⟩,18,true)] [1,2,3,7,8,9,30,31])))
 (.reg [zo 51 (.bin .add (.t 31) (zK 1)),zm 31 51] [1,2,3,7,8,9,30,31])))
def Qhr:AC :=
 .seq (.reg [zo 69 (.bin .lss (.t 68) (.t 67))] [2,3,7,8,9,12,13,67,68,69])
 (.seq (.cond (.t 69)
 (.skip)
 (.exit 2))
 (.seq (.block 3 (.seq (.reg [zm 70 68,zm 14 70] [2,3,7,8,9,12,13,14,67,68])
 (.seq (.regd [(zo 71 (.ld 2 true (.t 3)),0,false),
 (zm 72 13,1,false),
 (zm 73 9,2,false),
 (zm 74 14,3,false),
 (zo 75 (.idxA 1 (.t 73) (.t 74)),4,false),
 (zo 76 (.ld 1 false (.t 75)),5,false),
 (zo 77 (.call 98 [(.t 71),(.t 72),(.t 76)]),6,true),
 (zm 15 77,7,false)] [2,3,7,8,9,12,13,14,15,67,68])
 (.seq (.regd [(zm 78 12,0,false),
 (zm 79 14,1,false),
 (zm 80 12,2,false),
 (zm 81 14,3,false),
 (zm 82 7,4,false),
 (zo 83 (.bin .add (.t 81) (.t 82)),5,false),
 (zo 84 (.ld 2 true (.t 3)),6,false),
 (zm 85 8,7,false),
 (zm 86 14,8,false),
 (zo 87 (.idxA 1 (.t 85) (.t 86)),9,false),
 (zo 88 (.ld 1 false (.t 87)),10,false),
 (zm 89 15,11,false),
 (zo 90 (.call 129 [(.t 84),(.t 88),(.t 89)]),12,false),
 (zo 91 (.ld 2 true (.t 3)),13,false),
 (zm 92 8,14,false),
 (zm 93 14,15,false),
 (zo 94 (.idxA 1 (.t 92) (.t 93)),16,false),
 (zo 95 (.ld 1 false (.t 94)),17,false),
 (zm 96 15,18,false),
 (zo 97 (.call 122 [(.t 91),(.t 95),(.t 96)]),19,true),
 (zo 98 (.idxA 1 (.t 78) (.t 79)),20,false),
 (⟨none,.st 1 (.t 98) (.t 90),none⟩,21,true),
 (zo 99 (.idxA 1 (.t 80) (.t 83)),22,false),
 (⟨none,.st 1 (.t 99) (.t 97),none⟩,23,true)] [2,3,7,8,9,12,13,67,68])
 (.reg [zo 100 (.ld 2 true (.t 3)),zm 101 13,zm 102 2,zo 103 (.call 98 [(.t 100),(.t 101),(.t 102)]),zm 13 103] [2,3,7,8,9,12,13,67,68])))))
 (.reg [zo 104 (.bin .add (.t 68) (zK 1)),zm 68 104] [2,3,7,8,9,12,13,67,68])))
def b131:AC :=
 .seq (.reg [zo 3 (.box (.t 0)),zo 6 (.mv (.k (.sc .nilS)))] [1,2,3])
 (.seq (.seq (.reg [zm 16 1,zo 17 (.len false (.t 16)),zo 18 (.bin .eql (.t 17) (zK 1))] [1,2,3,18])
 (.cond (.t 18)
 (.seq (.reg [zm 19 1,zo 20 (.idxA 1 (.t 19) (zK 0)),zo 21 (.ld 1 false (.t 20)),zo 22 (.bsl 1 [.int .u64 0] 1 [(0,.t 21)]),zm 6 22] [6])
 (.ret))
 (.skip)))
 (.seq (.reg [zm 23 1,zo 24 (.len false (.t 23)),zo 25 (.bin .quo (.t 24) (zK 2)),zm 7 25] [1,2,3,7])
 (.seq (.regd [(zm 26 7,0,false),
 (zo 27 (.mk 1 8 [.int .u64 0] (.t 26) (.t 26)),1,false),
 (zm 28 7,2,false),
 (zo 29 (.mk 1 8 [.int .u64 0] (.t 28) (.t 28)),3,false),
 (zm 8 27,4,false),
 (zm 9 29,5,false)] [1,2,3,7,8,9])
 (.seq (.seq (.reg [zm 30 7,zo 31 (.mv (zK 0))] [1,2,3,7,8,9,30,31])
 (.block 0 (.loop [1,2,3,7,8,9,30,31] Qhs)))
 (.seq (.reg [zo 52 (.ld 2 true (.t 3)),zm 53 2,zm 54 2,zo 55 (.call 98 [(.t 52),(.t 53),(.t 54)]),zm 11 55] [1,2,3,7,8,9,11])
 (.seq (.regd [(zo 56 (.ld 2 true (.t 3)),0,false),
 (zm 57 8,1,false),
 (zm 58 11,2,false),
 (zo 59 (.call 131 [(.t 56),(.t 57),(.t 58)]),3,false),
 (zo 60 (.ld 2 true (.t 3)),4,false),
 (zm 61 9,5,false),
 (zm 62 11,6,false),
 (zo 63 (.call 131 [(.t 60),(.t 61),(.t 62)]),7,true),
 (zm 8 59,8,false),
 (zm 9 63,9,false)] [1,2,3,7,8,9])
 (.seq (.reg [zm 64 1,zo 65 (.len false (.t 64)),zo 66 (.mk 1 8 [.int .u64 0] (.t 65) (.t 65)),zm 12 66] [2,3,7,8,9,12])
 (.seq (.reg [⟨some 13, .mv (.k (.sc (.int .u64 1))), none⟩] [2, 3, 7, 8, 9, 12, 13])
 (.seq (.seq (.reg [zm 67 7,zo 68 (.mv (zK 0))] [2,3,7,8,9,12,13,67,68])
 (.block 2 (.loop [2,3,7,8,9,12,13,67,68] Qhr)))
 (.seq (.reg [zm 105 12,zm 6 105] [6])
 (.ret)))))))))))
def Qj0:AFun:=⟨3,b131,[.t 6]⟩
def b138:AC :=
 .seq (.reg [zo 2 (.mv (zK 0))] [0])
 (.seq (.seq (.reg [zm 3 0,zo 4 (.bin .eql (.t 3) (.k (.sc (.int .u64 0))))] [0,4])
 (.cond (.t 4)
 (.seq (.reg [⟨some 2, .mv (zK 64), none⟩] [2])
 (.ret))
 (.skip)))
 (.seq (.reg [zm 5 0,zm 6 0,zo 7 (.un .neg (.t 6)),zo 8 (.bin .and (.t 5) (.t 7)),zo 9 (.bin .mul (.t 8) (.k (.sc (.int .u64 285870213051353865)))),zo 10 (.bin .shr (.t 9) (.k (.sc (.int .u64 58)))),zo 11 .bad,zo 12 (.ld 1 false (.t 11)),zo 13 (.conv .i64 (.t 12)),zm 2 13] [2])
 (.ret)))
def a138:AFun:=⟨1,b138,[.t 2]⟩
def b139:AC :=
 .seq (.reg [zo 2 (.mv (zK 0))] [0,2])
 (.seq (.seq (.reg [zm 3 0,zo 4 (.bin .geq (.t 3) (.k (.sc (.int .u64 4294967296))))] [0,2,4])
 (.cond (.t 4)
 (.seq (.reg [zm 5 0,zo 6 (.bin .shr (.t 5) (.k (.sc (.int .u64 32)))),zm 0 6] [0])
 (.reg [zo 2 (.mv (zK 32))] [0,2]))
 (.skip)))
 (.seq (.seq (.reg [zm 7 0,zo 8 (.bin .geq (.t 7) (.k (.sc (.int .u64 65536))))] [0,2,8])
 (.cond (.t 8)
 (.seq (.reg [zm 9 0,zo 10 (.bin .shr (.t 9) (.k (.sc (.int .u64 16)))),zm 0 10] [0,2])
 (.reg [zm 11 2,zo 12 (.bin .add (.t 11) (zK 16)),zm 2 12] [0,2]))
 (.skip)))
 (.seq (.seq (.reg [zm 13 0,zo 14 (.bin .geq (.t 13) (.k (.sc (.int .u64 256))))] [0,2,14])
 (.cond (.t 14)
 (.seq (.reg [zm 15 0,zo 16 (.bin .shr (.t 15) (.k (.sc (.int .u64 8)))),zm 0 16] [0,2])
 (.reg [zm 17 2,zo 18 (.bin .add (.t 17) (zK 8)),zm 2 18] [0,2]))
 (.skip)))
 (.seq (.reg [zm 19 2,zm 20 0,zo 21 (.conv .u8 (.t 20)),⟨some 22,.idxS (.k (.sc (.str ⟨#[0,1,2,2,3,3,3,3,4,4,4,4,4,4,4,4,5,5,5,5,5,5,5,5,5,5,5,5,5,5,5,5,6,6,6,6,6,6,6,6,6,6,6,6,6,6,6,6,6,6,6,6,6,6,6,6,6,6,6,6,6,6,6,6,7,7,7,7,7,7,7,7,7,7,7,7,7,7,7,7,7,7,7,7,7,7,7,7,7,7,7,7,7,7,7,7,7,7,7,7,7,7,7,7,7,7,7,7,7,7,7,7,7,7,7,7,7,7,7,7,7,7,7,7,7,7,7,7,8,8,8,8,8,8,8,8,8,8,8,8,8,8,8,8,8,8,8,8,8,8,8,8,8,8,8,8,8,8,8,8,8,8,8,8,8,8,8,8,8,8,8,8,8,8,8,8,8,8,8,8,8,8,8,8,8,8,8,8,8,8,8,8,8,8,8,8,8,8,8,8,8,8,8,8,8,8,8,8,8,8,8,8,8,8,8,8,8,8,8,8,8,8,8,8,8,8,8,8,8,8,8,8,8,8,8,8,8,8,8,8,8,8,8,8,8,8,8,8,8,8,8,8,8,8,8,8]⟩))) (.t 21),none⟩,zo 23 (.conv .i64 (.t 22)),zo 24 (.bin .add (.t 19) (.t 23)),zm 2 24] [2])
 (.ret)))))
def a139:AFun:=⟨1,b139,[.t 2]⟩
def Qhq:AC :=
 .seq (.seq (.reg [zm 10 7,zm 11 0,zo 12 (.len false (.t 11)),zo 13 (.bin .lss (.t 10) (.t 12))] [0,1,3,4,7,13])
 (.cond (.t 13)
 (.skip)
 (.exit 0)))
 (.seq (.block 1 (.seq (.reg [zo 16 (.ld 1 false (.t 3)),zm 17 7,zo 18 (.idxA 1 (.t 16) (.t 17)),zo 19 (.ld 1 false (.t 18)),zo 20 (.bin .neq (.t 19) (.k (.sc (.int .u64 0))))] [0,1,3,4,7,20])
 (.cond (.t 20)
 (.regd [(zm 21 0,0,false),
 (zm 22 7,1,false),
 (zo 23 (.ld 2 true (.t 4)),2,false),
 (zm 24 0,3,false),
 (zm 25 7,4,false),
 (zo 26 (.idxA 1 (.t 24) (.t 25)),5,false),
 (zo 27 (.ld 1 false (.t 26)),6,false),
 (zo 28 (.ld 2 true (.t 4)),7,false),
 (zm 29 1,8,false),
 (zo 30 (.ld 1 false (.t 3)),9,false),
 (zm 31 7,10,false),
 (zo 32 (.idxA 1 (.t 30) (.t 31)),11,false),
 (zo 33 (.ld 1 false (.t 32)),12,false),
 (zo 34 (.call 98 [(.t 28),(.t 29),(.t 33)]),13,false),
 (zo 35 (.call 122 [(.t 23),(.t 27),(.t 34)]),14,true),
 (zo 36 (.idxA 1 (.t 21) (.t 22)),15,false),
 (⟨none,.st 1 (.t 36) (.t 35),none⟩,16,true)] [0,1,3,4,7])
 (.skip))))
 (.reg [zm 14 7,zo 15 (.bin .add (.t 14) (zK 1)),zm 7 15] [0,1,3,4,7]))
def b141:AC :=
 .seq (.reg [zo 8 (.ld 1 false (.t 2)),zo 9 (.bin .add (.t 8) (zK 1)),zm 7 9] [0,1,3,4,7])
 (.block 0 (.loop [0,1,3,4,7] Qhq))
def a141:AFun:=⟨5,b141,[]⟩
def FT:FuncId→Option AFun
 | 4=>some a4
 | 9=>some a9
 | 10=>some a10
 | 11=>some a11
 | 12=>some a12
 | 13=>some a13
 | 14=>some a14
 | 15=>some a15
 | 19=>some a19
 | 20=>some a20
 | 21=>some a21
 | 22=>some a22
 | 23=>some a23
 | 24=>some a24
 | 25=>some a25
 | 28=>some a28
 | 29=>some a29
 | 30=>some a30
 | 32=>some a32
 | 35=>some a35
 | 36=>some a36
 | 37=>some a37
 | 38=>some a38
 | 39=>some a39
 | 40=>some a40
 | 41=>some a41
 | 42=>some a42
 | 44=>some a44
 | 50=>some a50
 | 51=>some a51
 | 52=>some a52
 | 53=>some a53
 | 54=>some a54
 | 55=>some a55
 | 56=>some a56
 | 57=>some a57
 | 58=>some a58
 | 59=>some a59
 | 60=>some a60
 | 61=>some a61
 | 62=>some a62
 | 63=>some a63
 | 64=>some a64
 | 65=>some a65
 | 66=>some a66
 | 67=>some a67
 | 68=>some a68
 | 69=>some a69
 | 71=>some a71
 | 72=>some a72
 | 73=>some a73
 | 74=>some a74
 | 75=>some a75
 | 77=>some a77
 | 83=>some a83
 | 84=>some a84
 | 88=>some a88
 | 89=>some a89
 | 90=>some a90
 | 91=>some a91
 | 92=>some a92
 | 93=>some a93
 | 94=>some a94
 | 95=>some a95
 | 96=>some a96
 | 97=>some a97
 | 98=>some a98
 | 99=>some a99
 | 100=>some a100
 | 101=>some a101
 | 102=>some a102
 | 103=>some QhZ
 | 104=>some a104
 | 107=>some a107
 | 108=>some a108
 | 117=>some a117
 | 118=>some a118
 | 119=>some a119
 | 120=>some a120
 | 121=>some a121
 | 122=>some a122
 | 123=>some a123
 | 124=>some a124
 | 125=>some a125
 | 128=>some a128
 | 129=>some a129
 | 130=>some a130
 | 131=>some Qj0
 | 138=>some a138
 | 139=>some a139
 | 141=>some a141
 | _=>none
theorem ok4:QR Tryz.prog a4 Tryz.f4=true:=by kernel_rfl
theorem ok9:QR Tryz.prog a9 Tryz.f9=true:=by kernel_rfl
theorem ok10:QR Tryz.prog a10 Tryz.f10=true:=by kernel_rfl
theorem ok11:QR Tryz.prog a11 Tryz.f11=true:=by kernel_rfl
theorem ok12:QR Tryz.prog a12 Tryz.f12=true:=by kernel_rfl
theorem ok13:QR Tryz.prog a13 Tryz.f13=true:=by kernel_rfl
theorem ok14:QR Tryz.prog a14 Tryz.f14=true:=by kernel_rfl
theorem ok15:QR Tryz.prog a15 Tryz.f15=true:=by kernel_rfl
theorem ok19:QR Tryz.prog a19 Tryz.f19=true:=by kernel_rfl
theorem ok20:QR Tryz.prog a20 Tryz.f20=true:=by kernel_rfl
theorem ok21:QR Tryz.prog a21 Tryz.f21=true:=by kernel_rfl
theorem ok22:QR Tryz.prog a22 Tryz.f22=true:=by kernel_rfl
theorem ok23:QR Tryz.prog a23 Tryz.f23=true:=by kernel_rfl
theorem ok24:QR Tryz.prog a24 Tryz.f24=true:=by kernel_rfl
theorem ok25:QR Tryz.prog a25 Tryz.f25=true:=by kernel_rfl
theorem ok28:QR Tryz.prog a28 Tryz.f28=true:=by kernel_rfl
theorem ok29:QR Tryz.prog a29 Tryz.f29=true:=by kernel_rfl
theorem ok30:QR Tryz.prog a30 Tryz.f30=true:=by kernel_rfl
theorem ok32:QR Tryz.prog a32 Tryz.f32=true:=by kernel_rfl
theorem ok35:QR Tryz.prog a35 Tryz.f35=true:=by kernel_rfl
theorem ok36:QR Tryz.prog a36 Tryz.f36=true:=by kernel_rfl
theorem ok37:QR Tryz.prog a37 Tryz.f37=true:=by kernel_rfl
theorem ok38:QR Tryz.prog a38 Tryz.f38=true:=by kernel_rfl
theorem ok39:QR Tryz.prog a39 Tryz.f39=true:=by kernel_rfl
theorem ok40:QR Tryz.prog a40 Tryz.f40=true:=by kernel_rfl
theorem ok41:QR Tryz.prog a41 Tryz.f41=true:=by kernel_rfl
theorem ok42:QR Tryz.prog a42 Tryz.f42=true:=by kernel_rfl
theorem ok44:QR Tryz.prog a44 Tryz.f44=true:=by kernel_rfl
theorem ok50:QR Tryz.prog a50 Tryz.f50=true:=by kernel_rfl
theorem ok51:QR Tryz.prog a51 Tryz.f51=true:=by kernel_rfl
theorem ok52:QR Tryz.prog a52 Tryz.f52=true:=by kernel_rfl
theorem ok53:QR Tryz.prog a53 Tryz.f53=true:=by kernel_rfl
theorem ok54:QR Tryz.prog a54 Tryz.f54=true:=by kernel_rfl
theorem ok55:QR Tryz.prog a55 Tryz.f55=true:=by kernel_rfl
theorem ok56:QR Tryz.prog a56 Tryz.f56=true:=by kernel_rfl
theorem ok57:QR Tryz.prog a57 Tryz.f57=true:=by kernel_rfl
theorem ok58:QR Tryz.prog a58 Tryz.f58=true:=by kernel_rfl
theorem ok59:QR Tryz.prog a59 Tryz.f59=true:=by kernel_rfl
theorem ok60:QR Tryz.prog a60 Tryz.f60=true:=by kernel_rfl
theorem ok61:QR Tryz.prog a61 Tryz.f61=true:=by kernel_rfl
theorem ok62:QR Tryz.prog a62 Tryz.f62=true:=by kernel_rfl
theorem ok63:QR Tryz.prog a63 Tryz.f63=true:=by kernel_rfl
theorem ok64:QR Tryz.prog a64 Tryz.f64=true:=by kernel_rfl
theorem ok65:QR Tryz.prog a65 Tryz.f65=true:=by kernel_rfl
theorem ok66:QR Tryz.prog a66 Tryz.f66=true:=by kernel_rfl
theorem ok67:QR Tryz.prog a67 Tryz.f67=true:=by kernel_rfl
theorem ok68:QR Tryz.prog a68 Tryz.f68=true:=by kernel_rfl
theorem ok69:QR Tryz.prog a69 Tryz.f69=true:=by kernel_rfl
theorem ok71:QR Tryz.prog a71 Tryz.f71=true:=by kernel_rfl
theorem ok72:QR Tryz.prog a72 Tryz.f72=true:=by kernel_rfl
theorem ok73:QR Tryz.prog a73 Tryz.f73=true:=by kernel_rfl
theorem ok74:QR Tryz.prog a74 Tryz.f74=true:=by kernel_rfl
theorem ok75:QR Tryz.prog a75 Tryz.f75=true:=by kernel_rfl
theorem ok77:QR Tryz.prog a77 Tryz.f77=true:=by kernel_rfl
theorem ok83:QR Tryz.prog a83 Tryz.f83=true:=by kernel_rfl
theorem ok84:QR Tryz.prog a84 Tryz.f84=true:=by kernel_rfl
theorem ok88:QR Tryz.prog a88 Tryz.f88=true:=by kernel_rfl
theorem ok89:QR Tryz.prog a89 Tryz.f89=true:=by kernel_rfl
theorem ok90:QR Tryz.prog a90 Tryz.f90=true:=by kernel_rfl
theorem ok91:QR Tryz.prog a91 Tryz.f91=true:=by kernel_rfl
theorem ok92:QR Tryz.prog a92 Tryz.f92=true:=by kernel_rfl
theorem ok93:QR Tryz.prog a93 Tryz.f93=true:=by kernel_rfl
theorem ok94:QR Tryz.prog a94 Tryz.f94=true:=by kernel_rfl
theorem ok95:QR Tryz.prog a95 Tryz.f95=true:=by kernel_rfl
theorem ok96:QR Tryz.prog a96 Tryz.f96=true:=by kernel_rfl
theorem ok97:QR Tryz.prog a97 Tryz.f97=true:=by kernel_rfl
theorem ok98:QR Tryz.prog a98 Tryz.f98=true:=by kernel_rfl
theorem ok99:QR Tryz.prog a99 Tryz.f99=true:=by kernel_rfl
theorem ok100:QR Tryz.prog a100 Tryz.f100=true:=by kernel_rfl
theorem ok101:QR Tryz.prog a101 Tryz.f101=true:=by kernel_rfl
theorem ok102:QR Tryz.prog a102 Tryz.f102=true:=by kernel_rfl
theorem ok103:QR Tryz.prog QhZ Tryz.f103=true:=by kernel_rfl
theorem ok104:QR Tryz.prog a104 Tryz.f104=true:=by kernel_rfl
theorem ok107:QR Tryz.prog a107 Tryz.f107=true:=by kernel_rfl
theorem ok108:QR Tryz.prog a108 Tryz.f108=true:=by kernel_rfl
theorem ok117:QR Tryz.prog a117 Tryz.f117=true:=by kernel_rfl
theorem ok118:QR Tryz.prog a118 Tryz.f118=true:=by kernel_rfl
theorem ok119:QR Tryz.prog a119 Tryz.f119=true:=by kernel_rfl
theorem ok120:QR Tryz.prog a120 Tryz.f120=true:=by kernel_rfl
theorem ok121:QR Tryz.prog a121 Tryz.f121=true:=by kernel_rfl
theorem ok122:QR Tryz.prog a122 Tryz.f122=true:=by kernel_rfl
theorem ok123:QR Tryz.prog a123 Tryz.f123=true:=by kernel_rfl
theorem ok124:QR Tryz.prog a124 Tryz.f124=true:=by kernel_rfl
theorem ok125:QR Tryz.prog a125 Tryz.f125=true:=by kernel_rfl
theorem ok128:QR Tryz.prog a128 Tryz.f128=true:=by kernel_rfl
theorem ok129:QR Tryz.prog a129 Tryz.f129=true:=by kernel_rfl
theorem ok130:QR Tryz.prog a130 Tryz.f130=true:=by kernel_rfl
theorem ok131:QR Tryz.prog Qj0 Tryz.f131=true:=by kernel_rfl
theorem ok138:QR Tryz.prog a138 Tryz.f138=true:=by kernel_rfl
theorem ok139:QR Tryz.prog a139 Tryz.f139=true:=by kernel_rfl
theorem ok141:QR Tryz.prog a141 Tryz.f141=true:=by kernel_rfl
theorem mixed:Tryz.prog.follows .mixedOrders=true:=by kernel_rfl
theorem yr:FTok Tryz.prog FT:=by
 refine ⟨mixed,fun f F h=>?_⟩
 unfold FT at h
 split at h
 ·simp at h;subst h;exact ⟨_,Tryz.func4,ok4⟩
 ·simp at h;subst h;exact ⟨_,Tryz.func9,ok9⟩
 ·simp at h;subst h;exact ⟨_,Tryz.func10,ok10⟩
 ·simp at h;subst h;exact ⟨_,Tryz.func11,ok11⟩
 ·simp at h;subst h;exact ⟨_,Tryz.func12,ok12⟩
 ·simp at h;subst h;exact ⟨_,Tryz.func13,ok13⟩
 ·simp at h;subst h;exact ⟨_,Tryz.func14,ok14⟩
 ·simp at h;subst h;exact ⟨_,Tryz.func15,ok15⟩
 ·simp at h;subst h;exact ⟨_,Tryz.func19,ok19⟩
 ·simp at h;subst h;exact ⟨_,Tryz.func20,ok20⟩
 ·simp at h;subst h;exact ⟨_,Tryz.func21,ok21⟩
 ·simp at h;subst h;exact ⟨_,Tryz.func22,ok22⟩
 ·simp at h;subst h;exact ⟨_,Tryz.func23,ok23⟩
 ·simp at h;subst h;exact ⟨_,Tryz.func24,ok24⟩
 ·simp at h;subst h;exact ⟨_,Tryz.func25,ok25⟩
 ·simp at h;subst h;exact ⟨_,Tryz.func28,ok28⟩
 ·simp at h;subst h;exact ⟨_,Tryz.func29,ok29⟩
 ·simp at h;subst h;exact ⟨_,Tryz.func30,ok30⟩
 ·simp at h;subst h;exact ⟨_,Tryz.func32,ok32⟩
 ·simp at h;subst h;exact ⟨_,Tryz.func35,ok35⟩
 ·simp at h;subst h;exact ⟨_,Tryz.func36,ok36⟩
 ·simp at h;subst h;exact ⟨_,Tryz.func37,ok37⟩
 ·simp at h;subst h;exact ⟨_,Tryz.func38,ok38⟩
 ·simp at h;subst h;exact ⟨_,Tryz.func39,ok39⟩
 ·simp at h;subst h;exact ⟨_,Tryz.func40,ok40⟩
 ·simp at h;subst h;exact ⟨_,Tryz.func41,ok41⟩
 ·simp at h;subst h;exact ⟨_,Tryz.func42,ok42⟩
 ·simp at h;subst h;exact ⟨_,Tryz.func44,ok44⟩
 ·simp at h;subst h;exact ⟨_,Tryz.func50,ok50⟩
 ·simp at h;subst h;exact ⟨_,Tryz.func51,ok51⟩
 ·simp at h;subst h;exact ⟨_,Tryz.func52,ok52⟩
 ·simp at h;subst h;exact ⟨_,Tryz.func53,ok53⟩
 ·simp at h;subst h;exact ⟨_,Tryz.func54,ok54⟩
 ·simp at h;subst h;exact ⟨_,Tryz.func55,ok55⟩
 ·simp at h;subst h;exact ⟨_,Tryz.func56,ok56⟩
 ·simp at h;subst h;exact ⟨_,Tryz.func57,ok57⟩
 ·simp at h;subst h;exact ⟨_,Tryz.func58,ok58⟩
 ·simp at h;subst h;exact ⟨_,Tryz.func59,ok59⟩
 ·simp at h;subst h;exact ⟨_,Tryz.func60,ok60⟩
 ·simp at h;subst h;exact ⟨_,Tryz.func61,ok61⟩
 ·simp at h;subst h;exact ⟨_,Tryz.func62,ok62⟩
 ·simp at h;subst h;exact ⟨_,Tryz.func63,ok63⟩
 ·simp at h;subst h;exact ⟨_,Tryz.func64,ok64⟩
 ·simp at h;subst h;exact ⟨_,Tryz.func65,ok65⟩
 ·simp at h;subst h;exact ⟨_,Tryz.func66,ok66⟩
 ·simp at h;subst h;exact ⟨_,Tryz.func67,ok67⟩
 ·simp at h;subst h;exact ⟨_,Tryz.func68,ok68⟩
 ·simp at h;subst h;exact ⟨_,Tryz.func69,ok69⟩
 ·simp at h;subst h;exact ⟨_,Tryz.func71,ok71⟩
 ·simp at h;subst h;exact ⟨_,Tryz.func72,ok72⟩
 ·simp at h;subst h;exact ⟨_,Tryz.func73,ok73⟩
 ·simp at h;subst h;exact ⟨_,Tryz.func74,ok74⟩
 ·simp at h;subst h;exact ⟨_,Tryz.func75,ok75⟩
 ·simp at h;subst h;exact ⟨_,Tryz.func77,ok77⟩
 ·simp at h;subst h;exact ⟨_,Tryz.func83,ok83⟩
 ·simp at h;subst h;exact ⟨_,Tryz.func84,ok84⟩
 ·simp at h;subst h;exact ⟨_,Tryz.func88,ok88⟩
 ·simp at h;subst h;exact ⟨_,Tryz.func89,ok89⟩
 ·simp at h;subst h;exact ⟨_,Tryz.func90,ok90⟩
 ·simp at h;subst h;exact ⟨_,Tryz.func91,ok91⟩
 ·simp at h;subst h;exact ⟨_,Tryz.func92,ok92⟩
 ·simp at h;subst h;exact ⟨_,Tryz.func93,ok93⟩
 ·simp at h;subst h;exact ⟨_,Tryz.func94,ok94⟩
 ·simp at h;subst h;exact ⟨_,Tryz.func95,ok95⟩
 ·simp at h;subst h;exact ⟨_,Tryz.func96,ok96⟩
 ·simp at h;subst h;exact ⟨_,Tryz.func97,ok97⟩
 ·simp at h;subst h;exact ⟨_,Tryz.func98,ok98⟩
 ·simp at h;subst h;exact ⟨_,Tryz.func99,ok99⟩
 ·simp at h;subst h;exact ⟨_,Tryz.func100,ok100⟩
 ·simp at h;subst h;exact ⟨_,Tryz.func101,ok101⟩
 ·simp at h;subst h;exact ⟨_,Tryz.func102,ok102⟩
 ·simp at h;subst h;exact ⟨_,Tryz.func103,ok103⟩
 ·simp at h;subst h;exact ⟨_,Tryz.func104,ok104⟩
 ·simp at h;subst h;exact ⟨_,Tryz.func107,ok107⟩
 ·simp at h;subst h;exact ⟨_,Tryz.func108,ok108⟩
 ·simp at h;subst h;exact ⟨_,Tryz.func117,ok117⟩
 ·simp at h;subst h;exact ⟨_,Tryz.func118,ok118⟩
 ·simp at h;subst h;exact ⟨_,Tryz.func119,ok119⟩
 ·simp at h;subst h;exact ⟨_,Tryz.func120,ok120⟩
 ·simp at h;subst h;exact ⟨_,Tryz.func121,ok121⟩
 ·simp at h;subst h;exact ⟨_,Tryz.func122,ok122⟩
 ·simp at h;subst h;exact ⟨_,Tryz.func123,ok123⟩
 ·simp at h;subst h;exact ⟨_,Tryz.func124,ok124⟩
 ·simp at h;subst h;exact ⟨_,Tryz.func125,ok125⟩
 ·simp at h;subst h;exact ⟨_,Tryz.func128,ok128⟩
 ·simp at h;subst h;exact ⟨_,Tryz.func129,ok129⟩
 ·simp at h;subst h;exact ⟨_,Tryz.func130,ok130⟩
 ·simp at h;subst h;exact ⟨_,Tryz.func131,ok131⟩
 ·simp at h;subst h;exact ⟨_,Tryz.func138,ok138⟩
 ·simp at h;subst h;exact ⟨_,Tryz.func139,ok139⟩
 ·simp at h;subst h;exact ⟨_,Tryz.func141,ok141⟩
 ·simp at h
