/- The annotated c -/
import Derived.Test.YtofknpknogfijaaGreatDoorProg
import Derived.Test.YtofknpknogfijaaGreatDoorAb17
namespace Go.Proofs.YtofknpknogfijaaGreatDoor
open Go.Ab
abbrev zm(d s:Nat):AOp:=⟨some d,.mv (.t s),none⟩
abbrev zo(d:Nat)(k:AK):AOp:=⟨some d,k,none⟩
abbrev zK(n:Int):AO:=.k (.sc (.int .i64 n))
abbrev zl(d n x:Nat):AOp:=⟨some d,.ld n false (.t x),none⟩
abbrev zL(d n x:Nat):AOp:=⟨some d,.ld n true (.t x),none⟩
abbrev zs(n x y:Nat):AOp:=⟨none,.st n (.t x) (.t y),none⟩
abbrev zi(d n x y:Nat):AOp:=⟨some d,.idxA n (.t x) (.t y),none⟩
abbrev zf(d n x:Nat):AOp:=⟨some d,.fldA n (.t x),none⟩
abbrev zn(d x:Nat):AOp:=⟨some d,.len false (.t x),none⟩
abbrev zc(d:Nat)(n:Int):AOp:=⟨some d,.mv (zK n),none⟩
abbrev ze(d x n:Nat):AOp:=⟨some d,.ext (.t x) n,none⟩
abbrev zt(d:Nat)(k:AK)(c:Nat):AOp:=⟨some d,k,some (c,true)⟩
abbrev zu(d:Nat)(k:AK)(c:Nat):AOp:=⟨some d,k,some (c,false)⟩
abbrev zk(d:Nat)(o:BinOp)(x:Nat)(n:Int):AOp:=⟨some d,.bin o (.t x) (zK n),none⟩
abbrev zb(d:Nat)(o:BinOp)(x y:Nat):AOp:=⟨some d,.bin o (.t x) (.t y),none⟩
abbrev zF:AO:=.k (.sc (.bool false))
abbrev zT:AO:=.k (.sc (.bool true))
def b7:AC :=
 .seq (.reg [zo 3 (.box (.t 0)),zo 4 (.box (.t 1)),zo 5 (.box (.t 2)),zo 6 (.mv zF)] [3,4,5])
 (.seq (.seq (.reg [zo 22 (.call 9 []),zo 23 (.un .not (.t 22))] [3,4,5,23])
 (.cond (.t 23)
 (.seq (.reg [⟨some 6,.mv zF,none⟩] [6])
 .ret)
 .skip))
 (.seq (.seq (.reg [zL 24 2 3,zo 25 (.call 19 [.t 24]),zk 26 .eql 25 0,zm 27 26,zu 28 (.ld 2 true (.t 4)) 27,zu 29 (.call 19 [.t 28]) 27,zu 30 (.bin .eql (.t 29) (zK 0)) 27,zo 31 (.pick (.t 27) zT (.t 30)),zm 32 31,zu 33 (.ld 2 true (.t 5)) 32,zu 34 (.call 19 [.t 33]) 32,zu 35 (.bin .eql (.t 34) (zK 0)) 32,zo 36 (.pick (.t 32) zT (.t 35))] [3,4,5,36])
 (.cond (.t 36)
 (.seq (.reg [⟨some 6,.mv zT,none⟩] [6])
 .ret)
 .skip))
 (.seq (.reg [zf 37 0 5,zl 38 1 37,zf 39 1 5,zl 40 1 39,zo 41 (.call 20 [.t 38,.t 40]),zo 7 (.new [.bool false,.nilS]),zs 2 7 41] [3,4,7])
 (.seq (.regd [(zf 42 0 3,0,false),(zl 43 1 42,1,false),(zf 44 1 3,2,false),(zl 45 1 44,3,false),(zo 46 (.call 20 [.t 43,.t 45]),4,false),(zL 47 2 7,5,false),(zo 48 (.call 22 [.t 46,.t 47]),6,false),(zf 49 0 4,7,false),(zl 50 1 49,8,false),(zf 51 1 4,9,false),(zl 52 1 51,10,false),(zo 53 (.call 20 [.t 50,.t 52]),11,false),(zL 54 2 7,12,false),(zo 55 (.call 22 [.t 53,.t 54]),13,false),(zo 8 (.new [.bool false,.nilS]),14,false),(zo 9 (.new [.bool false,.nilS]),15,false),(zs 2 8 48,16,true),(zs 2 9 55,17,true)] [7,8,9])
 (.seq (.reg [zL 57 2 8,zL 58 2 9,zo 59 (.call 29 [.t 57,.t 58]),zm 56 59,ze 60 56 0,ze 61 56 1,zo 10 (.new [.bool false,.nilS]),zs 2 10 60,zm 11 61] [7,8,9,10,11])
 (.seq (.reg [zL 63 2 9,zL 64 2 8,zo 65 (.call 29 [.t 63,.t 64]),zm 62 65,ze 66 62 0,ze 67 62 1,zo 12 (.new [.bool false,.nilS]),zs 2 12 66,zm 13 67] [7,8,9,10,11,12,13])
 (.seq (.seq (.reg [zm 68 11,zk 69 .eql 68 9,zm 70 69,zu 71 (.mv (.t 13)) 70,zu 72 (.bin .eql (.t 71) (zK 9)) 70,zo 73 (.pick (.t 70) zT (.t 72))] [7,8,9,10,11,12,13,73])
 (.cond (.t 73)
 (.seq (.reg [⟨some 6,.mv zT,none⟩] [6])
 .ret)
 .skip))
 (.seq (.seq (.regd [(zm 74 11,0,false),(zk 75 .neq 74 0,1,false),(zm 76 75,2,false),(zu 77 (.mv (.t 13)) 76,3,false),(zu 78 (.bin .neq (.t 77) (zK 0)) 76,4,false),(zo 79 (.pick (.t 76) zT (.t 78)),5,false),(zm 80 79,6,false),(zu 81 (.ld 2 true (.t 10)) 80,7,false),(zu 82 (.ld 2 true (.t 12)) 80,8,false),(zu 83 (.call 23 [.t 81,.t 82]) 80,9,true),(zu 84 (.un .not (.t 83)) 80,10,false),(zo 85 (.pick (.t 80) zT (.t 84)),11,false),(zm 86 85,12,false),(zu 87 (.ld 2 true (.t 10)) 86,13,false),(zu 88 (.call 25 [.t 87]) 86,14,false),(zu 89 (.ld 2 true (.t 10)) 86,15,false),(zu 90 (.call 23 [.t 88,.t 89]) 86,16,true),(zu 91 (.un .not (.t 90)) 86,17,false),(zo 92 (.pick (.t 86) zT (.t 91)),18,false)] [7,8,9,10,92])
 (.cond (.t 92)
 (.seq (.reg [⟨some 6,.mv zF,none⟩] [6])
 .ret)
 .skip))
 (.seq (.seq (.reg [zL 93 2 8,zo 94 (.call 14 [.t 93]),zm 95 94,zu 96 (.ld 2 true (.t 9)) 95,zu 97 (.call 14 [.t 96]) 95,zo 98 (.pick (.t 95) zT (.t 97))] [7,8,9,10,98])
 (.cond (.t 98)
 (.seq (.regd [(zL 99 2 10,0,false),(zL 100 2 8,1,false),(zL 101 2 9,2,false),(zo 102 (.call 21 [.t 100,.t 101]),3,false),(zo 103 (.call 25 [.t 102]),4,false),(zo 104 (.call 23 [.t 99,.t 103]),5,true),(zm 6 104,6,false)] [6])
 .ret)
 .skip))
 (.seq (.reg [zL 106 2 8,zL 107 2 10,zo 108 (.call 30 [.t 106,.t 107]),zm 105 108,ze 109 105 0,ze 110 105 1,zo 14 (.new [.bool false,.nilS]),zs 2 14 109,zm 15 110] [7,9,10,14,15])
 (.seq (.reg [zL 112 2 9,zL 113 2 10,zo 114 (.call 30 [.t 112,.t 113]),zm 111 114,ze 115 111 0,ze 116 111 1,zo 16 (.new [.bool false,.nilS]),zs 2 16 115,zm 17 116] [7,10,14,15,16,17])
 (.seq (.reg [zL 118 2 10,zL 119 2 7,zo 120 (.call 30 [.t 118,.t 119]),zm 117 120,ze 121 117 0,ze 122 117 1,zo 18 (.new [.bool false,.nilS]),zs 2 18 121,zm 19 122] [14,15,16,17,19])
 (.seq (.reg [zL 124 2 14,zL 125 2 16,zo 126 (.call 29 [.t 124,.t 125]),zm 123 126,ze 127 123 0,ze 128 123 1,zo 20 (.new [.bool false,.nilS]),zs 2 20 127,zm 21 128] [15,17,19,20,21])
 (.seq (.regd [(zm 129 15,0,false),(zk 130 .eql 129 0,1,false),(zm 131 130,2,false),(zt 132 (.mv (.t 17)) 131,3,false),(zt 133 (.bin .eql (.t 132) (zK 0)) 131,4,false),(zo 134 (.pick (.t 131) (.t 133) zF),5,false),(zm 135 134,6,false),(zt 136 (.mv (.t 19)) 135,7,false),(zt 137 (.bin .eql (.t 136) (zK 0)) 135,8,false),(zo 138 (.pick (.t 135) (.t 137) zF),9,false),(zm 139 138,10,false),(zt 140 (.mv (.t 21)) 139,11,false),(zt 141 (.bin .eql (.t 140) (zK 9)) 139,12,false),(zt 142 (.mv (.t 141)) 139,13,false),(zu 143 (.mv (.t 21)) 142,14,false),(zu 144 (.bin .eql (.t 143) (zK 0)) 142,15,false),(zu 145 (.mv (.t 144)) 142,16,false),(zt 146 (.ld 2 true (.t 20)) 145,17,false),(zt 147 (.bsl 1 [.int .i64 0] 1 [(0,.k (.sc (.int .i64 1)))]) 145,18,false),(zt 148 (.call 20 [zK 0,.t 147]) 145,19,false),(zt 149 (.call 23 [.t 146,.t 148]) 145,20,true),(zu 150 (.pick (.t 145) (.t 149) zF) 142,21,false),(zt 151 (.pick (.t 142) zT (.t 150)) 139,22,false),(zo 152 (.pick (.t 139) (.t 151) zF),23,false),(zm 6 152,24,false)] [6])
 .ret))))))))))))))
def a7:AFun:=⟨3,b7,[.t 6]⟩
def b9:AC :=
 .seq (.reg [zo 0 (.mv zF)] [])
 (.seq (.reg [zo 6 (.bsl 1 [.int .i64 0] 2 [(0,.k (.sc (.int .i64 1))),(1,.k (.sc (.int .i64 (-1))))]),zo 7 (.bld [.int .i64 0,.nilS] [(0,1,.k (.sc (.int .i64 0))),(1,1,.t 6)]),zo 8 (.bsl 1 [.int .i64 0] 1 [(0,.k (.sc (.int .i64 1)))]),zo 9 (.bld [.int .i64 0,.nilS] [(0,1,.k (.sc (.int .i64 1))),(1,1,.t 8)]),zo 10 (.bsl 2 [.int .i64 0,.nilS] 2 [(0,.t 7),(1,.t 9)]),zo 11 (.bsl 1 [.int .i64 0] 1 [(0,.k (.sc (.int .i64 (-1))))]),zo 12 (.bld [.int .i64 0,.nilS] [(0,1,.k (.sc (.int .i64 0))),(1,1,.t 11)]),zo 13 (.bsl 1 [.int .i64 0] 2 [(0,.k (.sc (.int .i64 1))),(1,.k (.sc (.int .i64 (-1))))]),zo 14 (.bld [.int .i64 0,.nilS] [(0,1,.k (.sc (.int .i64 0))),(1,1,.t 13)]),zo 15 (.bsl 2 [.int .i64 0,.nilS] 2 [(0,.t 12),(1,.t 14)]),zo 16 (.bsl 1 [.nilS] 2 [(0,.t 10),(1,.t 15)]),zo 17 (.call 12 [.t 16]),zm 1 17] [1])
 (.seq (.reg [zm 19 1,zo 20 (.call 11 [.t 19]),zm 18 20,ze 21 18 0,ze 22 18 1,zo 2 (.new [.bool false,.nilS]),zs 2 2 21,zm 3 22] [2,3])
 (.seq (.reg [zo 24 (.bsl 1 [.int .i64 0] 3 [(0,.k (.sc (.int .i64 2))),(1,.k (.sc (.int .i64 0))),(2,.k (.sc (.int .i64 (-2))))]),zo 25 (.call 20 [zK 0,.t 24]),zo 26 (.bsl 1 [.int .i64 0] 2 [(0,.k (.sc (.int .i64 4))),(1,.k (.sc (.int .i64 4)))]),zo 27 (.call 20 [zK 0,.t 26]),zo 28 (.call 29 [.t 25,.t 27]),zm 23 28,ze 29 23 0,ze 30 23 1,zo 4 (.new [.bool false,.nilS]),zs 2 4 29,zm 5 30] [2,3,4,5])
 (.seq (.regd [(zm 31 3,0,false),(zk 32 .eql 31 0,1,false),(zm 33 32,2,false),(zt 34 (.ld 2 true (.t 2)) 33,3,true),(⟨some 35,.call 15 [.t 34,(.k (.sc (.str ⟨#[116]⟩)))],(some (33,true))⟩,4,true),(⟨some 36,.bin .eql (.t 35) (.k (.sc (.str ⟨#[49,45,116,43,116,94,50]⟩))),(some (33,true))⟩,5,false),(zo 37 (.pick (.t 33) (.t 36) zF),6,false),(zm 38 37,7,false),(zt 39 (.ld 2 true (.t 2)) 38,8,false),(zt 40 (.call 24 [.t 39]) 38,9,false),(zt 41 (.call 28 [.t 40,zK 3]) 38,10,false),(zt 42 (.call 25 [.t 41]) 38,11,false),(zt 43 (.ld 2 true (.t 2)) 38,12,false),(zt 44 (.call 23 [.t 42,.t 43]) 38,13,true),(zo 45 (.pick (.t 38) (.t 44) zF),14,false),(zm 46 45,15,false),(zt 47 (.mv (.t 5)) 46,16,false),(zt 48 (.bin .eql (.t 47) (zK 0)) 46,17,false),(zo 49 (.pick (.t 46) (.t 48) zF),18,false),(zm 50 49,19,false),(zt 51 (.ld 2 true (.t 4)) 50,20,true),(⟨some 52,.call 15 [.t 51,(.k (.sc (.str ⟨#[116]⟩)))],(some (50,true))⟩,21,true),(⟨some 53,.bin .eql (.t 52) (.k (.sc (.str ⟨#[50,43,50,116]⟩))),(some (50,true))⟩,22,false),(zo 54 (.pick (.t 50) (.t 53) zF),23,false),(zm 0 54,24,false)] [0])
 .ret))))
def a9:AFun:=⟨0,b9,[.t 0]⟩
def b11L0:AC :=
 .seq (.reg [zb 27 .lss 26 25] [0,2,24,25,26,27])
 (.seq (.cond (.t 27)
 .skip
 (.exit 1))
 (.seq (.block 2 (.seq (.reg [zi 28 1 24 26,zl 29 1 28,zm 5 29] [0,2,5,24,25,26])
 (.seq (.reg [zm 30 5,zo 31 (.call 38 [.t 30,(.k (.sc (.fn 39 [])))])] [0,2,24,25,26,31])
 (.cond (.t 31)
 (.seq (.reg [zo 32 (.bld [.bool false,.nilS] []),zs 2 2 32,zc 3 9] [2,3])
 .ret)
 .skip))))
 (.reg [zk 33 .add 26 1,zm 26 33] [0,2,24,25,26])))
def b11:AC :=
 .seq (.reg [zo 2 (.new [.bool false,.nilS]),zc 3 0] [0,2])
 (.seq (.block 0 (.seq (.reg [zm 9 0,zo 10 (.call 35 [.t 9]),zo 11 (.un .not (.t 10)),zm 8 11] [0,2,8])
 (.cond (.t 8)
 (.seq (.reg [zo 12 (.bld [.bool false,.nilS] []),zs 2 2 12,zc 3 3] [2,3])
 .ret)
 (.seq (.reg [zm 14 0,zo 15 (.call 36 [.t 14]),zm 13 15] [0,2,13])
 (.cond (.t 13)
 (.seq (.reg [zo 16 (.bld [.bool false,.nilS] []),zs 2 2 16,zc 3 5] [2,3])
 .ret)
 (.seq (.reg [zm 18 0,zn 19 18,zm 20 0,zo 21 (.call 37 [.t 20]),zb 22 .neq 19 21,zm 17 22] [0,2,17])
 (.cond (.t 17)
 (.seq (.reg [zo 23 (.bld [.bool false,.nilS] []),zs 2 2 23,zc 3 3] [2,3])
 .ret)
 .skip)))))))
 (.seq (.seq (.reg [zm 24 0,zn 25 24,zc 26 0] [0,2,24,25,26])
 (.block 1 (.loop [0,2,24,25,26] b11L0)))
 (.seq (.reg [zm 35 0,zo 36 (.call 40 [.t 35]),zm 34 36,ze 37 34 0,ze 38 34 1,zo 6 (.new [.bool false,.nilS]),zs 2 6 37,zm 7 38] [2,6,7])
 (.seq (.seq (.reg [zm 39 7,zo 40 (.un .not (.t 39)),zm 41 40,zu 42 (.ld 2 true (.t 6)) 41,zu 43 (.call 39 [.t 42]) 41,zo 44 (.pick (.t 41) zT (.t 43))] [2,6,44])
 (.cond (.t 44)
 (.seq (.reg [zo 45 (.bld [.bool false,.nilS] []),zs 2 2 45,zc 3 9] [2,3])
 .ret)
 .skip))
 (.seq (.reg [zL 46 2 6,zs 2 2 46,zc 3 0] [2,3])
 .ret)))))
def a11:AFun:=⟨1,b11,[.cell 2 2 true,.t 3]⟩
def b12L1:AC :=
 .seq (.seq (.reg [zm 15 6,zm 16 0,zm 17 4,zi 18 1 16 17,zl 19 1 18,zn 20 19,zb 21 .lss 15 20] [0,3,4,5,6,21])
 (.cond (.t 21)
 .skip
 (.exit 2)))
 (.seq (.block 3 (.regd [(zm 24 5,0,false),(zm 25 0,1,false),(zm 26 4,2,false),(zi 27 1 25 26,3,false),(zl 28 1 27,4,false),(zm 29 6,5,false),(zi 30 2 28 29,6,false),(zf 31 0 30,7,false),(zl 32 1 31,8,false),(zm 33 0,9,false),(zm 34 4,10,false),(zi 35 1 33 34,11,false),(zl 36 1 35,12,false),(zm 37 6,13,false),(zi 38 2 36 37,14,false),(zf 39 1 38,15,false),(zl 40 1 39,16,false),(zo 41 (.call 20 [.t 32,.t 40]),17,true),(zo 42 (.bsl 2 [.bool false,.nilS] 1 [(0,.t 41)]),18,true),(zo 43 (.app 2 32 [.bool false,.nilS] (.t 24) (.t 42)),19,true),(zm 5 43,20,false)] [0,3,4,5,6]))
 (.reg [zm 22 6,zk 23 .add 22 1,zm 6 23] [0,3,4,5,6]))
def b12L0:AC :=
 .seq (.seq (.reg [zm 8 4,zm 9 0,zn 10 9,zb 11 .lss 8 10] [0,3,4,11])
 (.cond (.t 11)
 .skip
 (.exit 0)))
 (.seq (.block 1 (.seq (.reg [zo 14 (.bsl 2 [.bool false,.nilS] 0 []),zm 5 14] [0,3,4,5])
 (.seq (.seq (.reg [zc 6 0] [0,3,4,5,6])
 (.block 2 (.loop [0,3,4,5,6] b12L1)))
 (.reg [zm 44 3,zm 45 5,zo 46 (.bsl 1 [.nilS] 1 [(0,.t 45)]),zo 47 (.app 1 24 [.nilS] (.t 44) (.t 46)),zm 3 47] [0,3,4]))))
 (.reg [zm 12 4,zk 13 .add 12 1,zm 4 13] [0,3,4]))
def b12:AC :=
 .seq (.reg [zo 2 (.mv (.k (.sc .nilS)))] [0])
 (.seq (.reg [zo 7 (.bsl 1 [.nilS] 0 []),zm 3 7] [0,3])
 (.seq (.seq (.reg [zc 4 0] [0,3,4])
 (.block 0 (.loop [0,3,4] b12L0)))
 (.seq (.reg [zm 48 3,zm 2 48] [2])
 .ret)))
def a12:AFun:=⟨1,b12,[.t 2]⟩
def b14:AC :=
 .seq (.reg [zo 1 (.box (.t 0)),zo 2 (.mv zF)] [1])
 (.seq (.reg [zf 3 0 1,zl 4 1 3,zo 5 (.un .not (.t 4)),zm 6 5,zt 7 (.fldA 1 (.t 1)) 6,zt 8 (.ld 1 false (.t 7)) 6,zt 9 (.len false (.t 8)) 6,zt 10 (.bin .eql (.t 9) (zK 0)) 6,zo 11 (.pick (.t 6) (.t 10) zF),zm 2 11] [2])
 .ret)
def a14:AFun:=⟨1,b14,[.t 2]⟩
def b15L0:AC :=
 .seq (.reg [zb 21 .lss 20 19] [1,5,18,19,20,21])
 (.seq (.cond (.t 21)
 .skip
 (.exit 1))
 (.seq (.block 2 (.seq (.reg [zm 22 20,zi 23 2 18 20,zL 24 2 23,zo 7 (.new [.int .i64 0,.int .i64 0]),zm 6 22,zs 2 7 24] [1,5,6,7,18,19,20])
 (.seq (.reg [zf 25 1 7,zl 26 1 25,zm 8 26] [1,5,6,7,8,18,19,20])
 (.seq (.seq (.reg [zm 27 8,zk 28 .lss 27 0] [1,5,6,7,8,18,19,20,28])
 (.cond (.t 28)
 (.seq (.reg [⟨some 29,.call 41 [.t 5,(.k (.sc (.int .u8 45)))],none⟩] [1,5,7,8,18,19,20])
 (.reg [zm 30 8,zo 31 (.un .neg (.t 30)),zm 8 31] [1,5,7,8,18,19,20]))
 (.seq (.reg [zm 32 6,zk 33 .gtr 32 0] [1,5,7,8,18,19,20,33])
 (.cond (.t 33)
 (.reg [zo 34 (.call 41 [.t 5,(.k (.sc (.int .u8 43)))])] [1,5,7,8,18,19,20])
 .skip))))
 (.seq (.seq (.reg [zm 35 8,zk 36 .neq 35 1,zm 37 36,zu 38 (.fldA 0 (.t 7)) 37,zu 39 (.ld 1 false (.t 38)) 37,zu 40 (.bin .eql (.t 39) (zK 0)) 37,zo 41 (.pick (.t 37) zT (.t 40))] [1,5,7,8,18,19,20,41])
 (.cond (.t 41)
 (.reg [zm 42 8,zo 43 (.call 43 [.t 42]),zo 44 (.call 42 [.t 5,.t 43])] [1,5,7,18,19,20])
 .skip))
 (.seq (.seq (.reg [zf 45 0 7,zl 46 1 45,zk 47 .neq 46 0] [1,5,7,18,19,20,47])
 (.cond (.t 47)
 (.reg [zm 48 1,zo 49 (.call 42 [.t 5,.t 48])] [1,5,7,18,19,20])
 .skip))
 (.seq (.reg [zf 50 0 7,zl 51 1 50,zk 52 .neq 51 0,zm 53 52,zt 54 (.fldA 0 (.t 7)) 53,zt 55 (.ld 1 false (.t 54)) 53,zt 56 (.bin .neq (.t 55) (zK 1)) 53,zo 57 (.pick (.t 53) (.t 56) zF)] [1,5,7,18,19,20,57])
 (.cond (.t 57)
 (.seq (.reg [⟨some 58,.call 41 [.t 5,(.k (.sc (.int .u8 94)))],none⟩] [1,5,7,18,19,20])
 (.reg [zf 59 0 7,zl 60 1 59,zo 61 (.call 43 [.t 60]),zo 62 (.call 42 [.t 5,.t 61])] [1,5,18,19,20]))
 .skip))))))))
 (.reg [zk 63 .add 20 1,zm 20 63] [1,5,18,19,20])))
def b15:AC :=
 .seq (.reg [zo 2 (.box (.t 0)),⟨some 4,.mv (.k (.sc (.str ⟨#[]⟩))),none⟩] [1,2])
 (.seq (.block 0 (.seq (.reg [zf 10 0 2,zl 11 1 10,zm 9 11] [1,2,9])
 (.cond (.t 9)
 (.seq (.reg [⟨some 4,.mv (.k (.sc (.str ⟨#[98,105,103]⟩))),none⟩] [4])
 .ret)
 (.seq (.reg [zf 13 1 2,zl 14 1 13,zn 15 14,zk 16 .eql 15 0,zm 12 16] [1,2,12])
 (.cond (.t 12)
 (.seq (.reg [⟨some 4,.mv (.k (.sc (.str ⟨#[48]⟩))),none⟩] [4])
 .ret)
 .skip)))))
 (.seq (.reg [⟨some 5,.newT 77 [.nilP,.nilS],none⟩] [1,2,5])
 (.seq (.seq (.reg [zf 17 1 2,zl 18 1 17,zn 19 18,zc 20 0] [1,5,18,19,20])
 (.block 1 (.loop [1,5,18,19,20] b15L0)))
 (.seq (.reg [zo 64 (.call 44 [.t 5]),zm 4 64] [4])
 .ret))))
def a15:AFun:=⟨2,b15,[.t 4]⟩
def Qj9:AC :=
 .seq (.seq (.reg [zm 18 3,zf 19 1 1,zl 20 1 19,zn 21 20,zb 22 .lss 18 21] [1,3,22])
 (.cond (.t 22)
 .skip
 (.exit 0)))
 (.seq (.block 1 (.seq (.reg [zf 25 1 1,zl 26 1 25,zm 27 3,zi 28 1 26 27,zl 29 1 28,zo 30 (.bin .lss (.t 29) (.k (.sc (.int .i64 (-4))))),zm 31 30,zu 32 (.fldA 1 (.t 1)) 31,zu 33 (.ld 1 false (.t 32)) 31,zu 34 (.mv (.t 3)) 31,zu 35 (.idxA 1 (.t 33) (.t 34)) 31,zu 36 (.ld 1 false (.t 35)) 31,zu 37 (.bin .gtr (.t 36) (zK 4)) 31,zo 38 (.pick (.t 31) zT (.t 37))] [1,3,38])
 (.cond (.t 38)
 (.seq (.reg [zc 2 0] [2])
 .ret)
 .skip)))
 (.reg [zm 23 3,zk 24 .add 23 1,zm 3 24] [1,3]))
def b19:AC :=
 .seq (.reg [zo 1 (.box (.t 0)),zc 2 0] [1])
 (.seq (.seq (.reg [zf 4 1 1,zl 5 1 4,zn 6 5,zk 7 .gtr 6 3,zm 8 7,zu 9 (.fldA 0 (.t 1)) 8,zu 10 (.ld 1 false (.t 9)) 8,zu 11 (.bin .lss (.t 10) (.k (.sc (.int .i64 (-10))))) 8,zo 12 (.pick (.t 8) zT (.t 11)),zm 13 12,zu 14 (.fldA 0 (.t 1)) 13,zu 15 (.ld 1 false (.t 14)) 13,zu 16 (.bin .gtr (.t 15) (zK 10)) 13,zo 17 (.pick (.t 13) zT (.t 16))] [1,17])
 (.cond (.t 17)
 (.seq (.reg [zc 2 0] [2])
 .ret)
 .skip))
 (.seq (.seq (.reg [zc 3 0] [1,3])
 (.block 0 (.loop [1,3] Qj9)))
 (.seq (.reg [zc 2 1] [2])
 .ret)))
def a19:AFun:=⟨1,b19,[.t 2]⟩
def Qj8:AC :=
 .seq (.reg [zb 11 .lss 10 9] [0,4,5,8,9,10,11])
 (.seq (.cond (.t 11)
 .skip
 (.exit 0))
 (.seq (.block 1 (.seq (.reg [zm 12 10,zi 13 1 8 10,zl 14 1 13,zm 6 12,zm 7 14] [0,4,5,6,7,8,9,10])
 (.seq (.seq (.reg [zm 15 7,zk 16 .eql 15 0] [0,4,5,6,7,8,9,10,16])
 (.cond (.t 16)
 (.exit 1)
 .skip))
 (.seq (.seq (.reg [zm 17 7,zo 18 (.call 50 [.t 17,zK 1125899906842624]),zo 19 (.un .not (.t 18)),zm 20 19,zu 21 (.mv (.t 0)) 20,zu 22 (.bin .gtr (.t 21) (zK 1048576)) 20,zo 23 (.pick (.t 20) zT (.t 22)),zm 24 23,zu 25 (.mv (.t 0)) 24,zu 26 (.mv (.t 6)) 24,zu 27 (.bin .add (.t 25) (.t 26)) 24,zu 28 (.call 50 [.t 27,zK 1048576]) 24,zu 29 (.un .not (.t 28)) 24,zo 30 (.pick (.t 24) zT (.t 29))] [0,4,5,6,7,8,9,10,30])
 (.cond (.t 30)
 (.seq (.reg [zo 31 (.bld [.bool false,.nilS] [(0,1,.k (.sc (.bool true)))]),zs 2 4 31] [4])
 .ret)
 .skip))
 (.reg [zf 32 1 5,zl 33 1 32,zm 34 0,zm 35 6,zb 36 .add 34 35,zm 37 7,zo 38 (.bld [.int .i64 0,.int .i64 0] [(0,1,.t 36),(1,1,.t 37)]),zo 39 (.bsl 2 [.int .i64 0,.int .i64 0] 1 [(0,.t 38)]),zo 40 (.app 2 16 [.int .i64 0,.int .i64 0] (.t 33) (.t 39)),zf 41 1 5,zs 1 41 40] [0,4,5,8,9,10])))))
 (.reg [zk 42 .add 10 1,zm 10 42] [0,4,5,8,9,10])))
def b20:AC :=
 .seq (.reg [zo 4 (.new [.bool false,.nilS])] [0,1,4])
 (.seq (.reg [⟨some 5,.new [.bool false,.nilS],none⟩] [0,1,4,5])
 (.seq (.seq (.reg [zm 8 1,zn 9 8,zc 10 0] [0,4,5,8,9,10])
 (.block 0 (.loop [0,4,5,8,9,10] Qj8)))
 (.seq (.reg [zL 43 2 5,zs 2 4 43] [4])
 .ret)))
def a20:AFun:=⟨2,b20,[.cell 4 2 true]⟩
def b21:AC :=
 .seq (.reg [zo 2 (.box (.t 0)),zo 3 (.box (.t 1)),zo 4 (.new [.bool false,.nilS])] [2,3,4])
 (.seq (.reg [zL 5 2 2,zL 6 2 3,zo 7 (.call 51 [.t 5,.t 6,(.k (.sc (.fn 52 [])))]),zs 2 4 7] [4])
 .ret)
def a21:AFun:=⟨2,b21,[.cell 4 2 true]⟩
def Qj7:AC :=
 .seq (.reg [zb 76 .lss 75 74] [4,5,8,73,74,75,76])
 (.seq (.cond (.t 76)
 .skip
 (.exit 0))
 (.seq (.block 1 (.seq (.reg [zm 77 75,zi 78 2 73 75,zL 79 2 78,zo 10 (.new [.int .u64 0,.int .u64 0]),zm 9 77,zs 2 10 79] [4,5,8,9,10,73,74,75])
 (.seq (.reg [zL 81 2 10,zo 82 (.call 59 [.t 81]),zm 80 82,ze 83 80 0,ze 84 80 1,zm 11 83,zm 12 84] [4,5,8,9,11,12,73,74,75])
 (.seq (.seq (.reg [zm 85 12,zo 86 (.un .not (.t 85))] [4,5,8,9,11,73,74,75,86])
 (.cond (.t 86)
 (.seq (.reg [zo 87 (.bld [.bool false,.nilS] [(0,1,.k (.sc (.bool true)))]),zs 2 4 87] [4])
 .ret)
 .skip))
 (.seq (.reg [zm 88 11,zk 89 .neq 88 0] [4,5,8,9,11,73,74,75,89])
 (.cond (.t 89)
 (.reg [zf 90 1 8,zl 91 1 90,zl 92 1 5,zm 93 9,zb 94 .add 92 93,zm 95 11,zo 96 (.bld [.int .i64 0,.int .i64 0] [(0,1,.t 94),(1,1,.t 95)]),zo 97 (.bsl 2 [.int .i64 0,.int .i64 0] 1 [(0,.t 96)]),zo 98 (.app 2 16 [.int .i64 0,.int .i64 0] (.t 91) (.t 97)),zf 99 1 8,zs 1 99 98] [4,5,8,73,74,75])
 .skip))))))
 (.reg [zk 100 .add 75 1,zm 75 100] [4,5,8,73,74,75])))
def b22:AC :=
 .seq (.reg [zo 2 (.box (.t 0)),zo 3 (.box (.t 1)),zo 4 (.new [.bool false,.nilS])] [2,3,4])
 (.seq (.seq (.reg [zf 13 0 2,zl 14 1 13,zm 15 14,zu 16 (.fldA 0 (.t 3)) 15,zu 17 (.ld 1 false (.t 16)) 15,zo 18 (.pick (.t 15) zT (.t 17))] [2,3,4,18])
 (.cond (.t 18)
 (.seq (.reg [zo 19 (.bld [.bool false,.nilS] [(0,1,.k (.sc (.bool true)))]),zs 2 4 19] [4])
 .ret)
 .skip))
 (.seq (.seq (.reg [zf 20 1 2,zl 21 1 20,zn 22 21,zk 23 .eql 22 0,zm 24 23,zu 25 (.fldA 1 (.t 3)) 24,zu 26 (.ld 1 false (.t 25)) 24,zu 27 (.len false (.t 26)) 24,zu 28 (.bin .eql (.t 27) (zK 0)) 24,zo 29 (.pick (.t 24) zT (.t 28))] [2,3,4,29])
 (.cond (.t 29)
 (.seq (.reg [zo 30 (.bld [.bool false,.nilS] []),zs 2 4 30] [4])
 .ret)
 .skip))
 (.seq (.regd [(zL 31 2 2,0,false),(zo 32 (.call 53 [.t 31]),1,false),(zL 33 2 3,2,false),(zo 34 (.call 53 [.t 33]),3,false),(zb 35 .add 32 34,4,false),(zL 36 2 2,5,false),(zo 37 (.call 54 [.t 36]),6,false),(zL 38 2 3,7,false),(zo 39 (.call 54 [.t 38]),8,false),(zb 40 .add 37 39,9,false),(zo 5 (.new [.int .i64 0]),10,false),(zs 1 5 35,11,true),(zm 6 40,12,false)] [2,3,4,5,6])
 (.seq (.seq (.reg [zl 41 1 5,zo 42 (.bin .lss (.t 41) (.k (.sc (.int .i64 (-1048576))))),zm 43 42,zu 44 (.mv (.t 6)) 43,zu 45 (.bin .gtr (.t 44) (zK 1048576)) 43,zo 46 (.pick (.t 43) zT (.t 45))] [2,3,4,5,6,46])
 (.cond (.t 46)
 (.seq (.reg [zo 47 (.bld [.bool false,.nilS] [(0,1,.k (.sc (.bool true)))]),zs 2 4 47] [4])
 .ret)
 .skip))
 (.seq (.seq (.reg [zm 48 6,zl 49 1 5,zb 50 .sub 48 49,zf 51 1 2,zl 52 1 51,zn 53 52,zo 54 (.bin .mul (zK 4) (.t 53)),zf 55 1 3,zl 56 1 55,zn 57 56,zb 58 .mul 54 57,zo 59 (.bin .add (zK 64) (.t 58)),zb 60 .gtr 50 59] [2,3,4,5,6,60])
 (.cond (.t 60)
 (.seq (.reg [zL 61 2 2,zL 62 2 3,zo 63 (.call 55 [.t 61,.t 62]),zs 2 4 63] [4])
 .ret)
 .skip))
 (.seq (.reg [zm 64 6,zl 65 1 5,zb 66 .sub 64 65,zk 67 .add 66 1,zo 68 (.mk 2 16 [.int .u64 0,.int .u64 0] (.t 67) (.t 67)),zo 7 (.new [.nilS]),zs 1 7 68] [2,3,4,5,7])
 (.seq (.reg [zL 69 2 2,zL 70 2 3,zo 71 (.mkf 57 [.t 7,.t 5]),zo 72 (.call 56 [.t 69,.t 70,.t 71])] [4,5,7])
 (.seq (.reg [⟨some 8,.new [.bool false,.nilS],none⟩] [4,5,7,8])
 (.seq (.seq (.reg [zl 73 1 7,zn 74 73,zc 75 0] [4,5,8,73,74,75])
 (.block 0 (.loop [4,5,8,73,74,75] Qj7)))
 (.seq (.reg [zL 101 2 8,zs 2 4 101] [4])
 .ret))))))))))
def a22:AFun:=⟨2,b22,[.cell 4 2 true]⟩
def b23:AC :=
 .seq (.reg [zo 2 (.box (.t 0)),zo 3 (.box (.t 1)),zo 4 (.mv zF)] [2,3])
 (.seq (.reg [zf 5 0 2,zl 6 1 5,zf 7 0 3,zl 8 1 7,zo 9 (.beq false (.t 6) (.t 8)),zm 10 9,zt 11 (.fldA 1 (.t 2)) 10,zt 12 (.ld 1 false (.t 11)) 10,zt 13 (.fldA 1 (.t 3)) 10,zt 14 (.ld 1 false (.t 13)) 10,zt 15 (.call 60 [.t 12,.t 14]) 10,zo 16 (.pick (.t 10) (.t 15) zF),zm 4 16] [4])
 .ret)
def a23:AFun:=⟨2,b23,[.t 4]⟩
def b24:AC :=
 .seq (.reg [zo 1 (.box (.t 0)),zo 2 (.new [.bool false,.nilS])] [1,2])
 (.seq (.reg [zo 3 (.bld [.bool false,.nilS] []),zL 4 2 1,zo 5 (.call 51 [.t 3,.t 4,(.k (.sc (.fn 61 [])))]),zs 2 2 5] [2])
 .ret)
def a24:AFun:=⟨1,b24,[.cell 2 2 true]⟩
def b25:AC :=
 .seq (.reg [zo 1 (.box (.t 0)),zo 2 (.new [.bool false,.nilS])] [1,2])
 (.seq (.seq (.reg [zL 3 2 1,zo 4 (.call 39 [.t 3]),zm 5 4,zu 6 (.ld 2 true (.t 1)) 5,zu 7 (.call 14 [.t 6]) 5,zo 8 (.pick (.t 5) zT (.t 7))] [1,2,8])
 (.cond (.t 8)
 (.seq (.reg [zL 9 2 1,zs 2 2 9] [2])
 .ret)
 .skip))
 (.seq (.seq (.regd [(zL 10 2 1,0,false),(zL 11 2 1,1,false),(zo 12 (.call 53 [.t 11]),2,false),(zo 13 (.call 62 [.t 10,.t 12]),3,true),(zk 14 .lss 13 0,4,false)] [1,2,14])
 (.cond (.t 14)
 (.reg [zL 15 2 1,zo 16 (.call 24 [.t 15]),zs 2 1 16] [1,2])
 .skip))
 (.seq (.regd [(zL 17 2 1,0,false),(zL 18 2 1,1,false),(zo 19 (.call 53 [.t 18]),2,false),(zo 20 (.un .neg (.t 19)),3,false),(zo 21 (.call 28 [.t 17,.t 20]),4,true),(zs 2 2 21,5,true)] [2])
 .ret)))
def a25:AFun:=⟨1,b25,[.cell 2 2 true]⟩
def b28:AC :=
 .seq (.reg [zo 2 (.box (.t 0)),zo 3 (.box (.t 1)),zo 4 (.new [.bool false,.nilS])] [2,3,4])
 (.seq (.seq (.reg [zl 5 1 3,zo 6 (.call 50 [.t 5,zK 2097152]),zo 7 (.un .not (.t 6)),zm 8 7,zt 9 (.fldA 1 (.t 2)) 8,zt 10 (.ld 1 false (.t 9)) 8,zt 11 (.len false (.t 10)) 8,zt 12 (.bin .gtr (.t 11) (zK 0)) 8,zo 13 (.pick (.t 8) (.t 12) zF)] [2,3,4,13])
 (.cond (.t 13)
 (.seq (.reg [zo 14 (.bld [.bool false,.nilS] [(0,1,.k (.sc (.bool true)))]),zs 2 4 14] [4])
 .ret)
 .skip))
 (.seq (.reg [zL 15 2 2,zo 16 (.mkf 64 [.t 3]),zo 17 (.call 63 [.t 15,.t 16]),zs 2 4 17] [4])
 .ret))
def a28:AFun:=⟨2,b28,[.cell 4 2 true]⟩
def Qj6:AC :=
 .seq (.reg [zb 44 .lss 43 42] [2,3,4,6,41,42,43,44])
 (.seq (.cond (.t 44)
 .skip
 (.exit 1))
 (.seq (.block 2 (.seq (.reg [zi 45 2 41 43,zL 46 2 45,zo 8 (.new [.int .i64 0,.int .i64 0]),zs 2 8 46] [2,3,4,6,8,41,42,43])
 (.reg [zm 47 6,zf 48 0 8,zl 49 1 48,zo 50 (.call 66 [.t 47,.t 49]),zm 6 50] [2,3,4,6,41,42,43])))
 (.reg [zk 51 .add 43 1,zm 43 51] [2,3,4,6,41,42,43])))
def Qj5:AC :=
 .seq (.reg [zb 73 .lss 72 71] [4,6,11,70,71,72,73])
 (.seq (.cond (.t 73)
 .skip
 (.exit 3))
 (.seq (.block 4 (.seq (.reg [zm 74 72,zi 75 1 70 72,zl 76 1 75,zm 12 74,zm 13 76] [4,6,11,12,13,70,71,72])
 (.reg [zm 77 11,zm 78 12,zm 79 6,zb 80 .mul 78 79,zm 81 13,zo 82 (.bld [.int .i64 0,.int .i64 0] [(0,1,.t 80),(1,1,.t 81)]),zo 83 (.bsl 2 [.int .i64 0,.int .i64 0] 1 [(0,.t 82)]),zo 84 (.app 2 16 [.int .i64 0,.int .i64 0] (.t 77) (.t 83)),zm 11 84] [4,6,11,70,71,72])))
 (.reg [zk 85 .add 72 1,zm 72 85] [4,6,11,70,71,72])))
def b29:AC :=
 .seq (.reg [zo 2 (.box (.t 0)),zo 3 (.box (.t 1)),zo 4 (.new [.bool false,.nilS]),zc 5 0] [2,3,4])
 (.seq (.block 0 (.seq (.reg [zL 16 2 2,zo 17 (.call 39 [.t 16]),zm 18 17,zu 19 (.ld 2 true (.t 3)) 18,zu 20 (.call 39 [.t 19]) 18,zo 21 (.pick (.t 18) zT (.t 20)),zm 15 21] [2,3,4,15])
 (.cond (.t 15)
 (.seq (.reg [zo 22 (.bld [.bool false,.nilS] []),zs 2 4 22,zc 5 9] [4,5])
 .ret)
 (.seq (.reg [zL 24 2 2,zo 25 (.call 14 [.t 24]),zm 23 25] [2,3,4,23])
 (.cond (.t 23)
 (.seq (.reg [zL 26 2 3,zo 27 (.call 25 [.t 26]),zs 2 4 27,zc 5 0] [4,5])
 .ret)
 (.seq (.reg [zL 29 2 3,zo 30 (.call 14 [.t 29]),zm 28 30] [2,3,4,28])
 (.cond (.t 28)
 (.seq (.reg [zL 31 2 2,zo 32 (.call 25 [.t 31]),zs 2 4 32,zc 5 0] [4,5])
 .ret)
 .skip)))))))
 (.seq (.reg [zc 6 0] [2,3,4,6])
 (.seq (.seq (.regd [(zL 33 2 2,0,false),(zL 34 2 2,1,false),(zo 35 (.call 53 [.t 34]),2,false),(zo 36 (.call 65 [.t 33,.t 35]),3,false),(zL 37 2 3,4,false),(zL 38 2 3,5,false),(zo 39 (.call 53 [.t 38]),6,false),(zo 40 (.call 65 [.t 37,.t 39]),7,true),(zo 41 (.app 2 16 [.int .i64 0,.int .i64 0] (.t 36) (.t 40)),8,true),(zn 42 41,9,false),(zc 43 0,10,false)] [2,3,4,6,41,42,43])
 (.block 1 (.loop [2,3,4,6,41,42,43] Qj6)))
 (.seq (.reg [zm 52 6,zo 53 (.mm true (.t 52) [zK 1]),zm 6 53] [2,3,4,6])
 (.seq (.regd [(zL 55 2 2,0,false),(zm 56 6,1,false),(zo 57 (.call 68 [.t 55,.t 56]),2,false),(zL 58 2 3,3,false),(zm 59 6,4,false),(zo 60 (.call 68 [.t 58,.t 59]),5,true),(zo 61 (.call 67 [.t 57,.t 60]),6,true),(zm 54 61,7,false),(ze 62 54 0,8,false),(ze 63 54 1,9,false),(zm 9 62,10,false),(zm 10 63,11,false)] [4,6,9,10])
 (.seq (.seq (.reg [zm 64 10,zo 65 (.un .not (.t 64))] [4,6,9,65])
 (.cond (.t 65)
 (.seq (.reg [zo 66 (.bld [.bool false,.nilS] []),zs 2 4 66,zc 5 9] [4,5])
 .ret)
 .skip))
 (.seq (.reg [zm 67 9,zn 68 67,zo 69 (.mk 2 16 [.int .i64 0,.int .i64 0] (zK 0) (.t 68)),zm 11 69] [4,6,9,11])
 (.seq (.seq (.reg [zm 70 9,zn 71 70,zc 72 0] [4,6,11,70,71,72])
 (.block 3 (.loop [4,6,11,70,71,72] Qj5)))
 (.seq (.reg [zm 86 11,zo 87 (.call 69 [.t 86]),zo 88 (.call 25 [.t 87]),zo 14 (.new [.bool false,.nilS]),zs 2 14 88] [4,14])
 (.seq (.seq (.reg [zL 89 2 14,zo 90 (.call 39 [.t 89])] [4,14,90])
 (.cond (.t 90)
 (.seq (.reg [zo 91 (.bld [.bool false,.nilS] []),zs 2 4 91,zc 5 9] [4,5])
 .ret)
 .skip))
 (.seq (.reg [zL 92 2 14,zs 2 4 92,zc 5 0] [4,5])
 .ret)))))))))))
def a29:AFun:=⟨2,b29,[.cell 4 2 true,.t 5]⟩
def Qj4:AC :=
 .seq (.reg [zb 78 .lss 77 76] [2,3,4,6,7,75,76,77,78])
 (.seq (.cond (.t 78)
 .skip
 (.exit 1))
 (.seq (.block 2 (.seq (.reg [zi 79 2 75 77,zL 80 2 79,zo 9 (.new [.int .i64 0,.int .i64 0]),zs 2 9 80] [2,3,4,6,7,9,75,76,77])
 (.regd [(zm 81 7,0,false),(zf 82 0 9,1,false),(zl 83 1 82,2,false),(zL 84 2 2,3,false),(zo 85 (.call 53 [.t 84]),4,false),(zb 86 .sub 83 85,5,false),(zf 87 1 9,6,false),(zl 88 1 87,7,false),(zo 89 (.call 71 [.t 88]),8,false),(zi 90 2 81 86,9,false),(zs 2 90 89,10,true)] [2,3,4,6,7,75,76,77])))
 (.reg [zk 91 .add 77 1,zm 77 91] [2,3,4,6,7,75,76,77])))
def Qj2:AC :=
 .seq (.reg [zb 142 .lss 141 140] [2,3,4,6,7,10,11,12,93,94,139,140,141,142])
 (.seq (.cond (.t 142)
 .skip
 (.exit 5))
 (.seq (.block 6 (.seq (.reg [zi 143 2 139 141,zL 144 2 143,zo 16 (.new [.int .i64 0,.int .i64 0]),zs 2 16 144] [2,3,4,6,7,10,11,12,16,93,94,139,140,141])
 (.seq (.regd [(zm 145 11,0,false),(zf 146 0 16,1,false),(zl 147 1 146,2,false),(zb 148 .add 145 147,3,false),(zL 149 2 3,4,false),(zo 150 (.call 53 [.t 149]),5,false),(zb 151 .sub 148 150,6,false),(zm 17 151,7,false)] [2,3,4,6,7,10,11,12,16,17,93,94,139,140,141])
 (.regd [(zm 152 7,0,false),(zm 153 17,1,false),(zm 154 7,2,false),(zm 155 17,3,false),(zi 156 2 154 155,4,false),(zL 157 2 156,5,false),(zm 158 12,6,false),(zo 159 (.un .neg (.t 158)),7,false),(zf 160 1 16,8,false),(zl 161 1 160,9,false),(zo 162 (.call 74 [.t 159,.t 161]),10,false),(zo 163 (.call 58 [.t 157,.t 162]),11,true),(zi 164 2 152 153,12,false),(zs 2 164 163,13,true)] [2,3,4,6,7,10,11,12,93,94,139,140,141]))))
 (.reg [zk 165 .add 141 1,zm 141 165] [2,3,4,6,7,10,11,12,93,94,139,140,141])))
def Qj3:AC :=
 .seq (.reg [zb 95 .lss 94 93] [2,3,4,6,7,10,93,94,95])
 (.seq (.cond (.t 95)
 .skip
 (.exit 3))
 (.seq (.block 4 (.seq (.reg [zm 96 94,zm 11 96] [2,3,4,6,7,10,11,93,94])
 (.seq (.seq (.reg [zm 97 7,zm 98 11,zi 99 2 97 98,zL 100 2 99,zo 101 (.call 72 [.t 100])] [2,3,4,6,7,10,11,93,94,101])
 (.cond (.t 101)
 (.exit 4)
 .skip))
 (.seq (.regd [(zm 103 7,0,false),(zm 104 11,1,false),(zi 105 2 103 104,2,false),(zL 106 2 105,3,false),(zf 107 1 3,4,false),(zl 108 1 107,5,false),(zo 109 (.idxA 2 (.t 108) (zK 0)),6,false),(zf 110 1 109,7,false),(zl 111 1 110,8,false),(zo 112 (.call 73 [.t 106,.t 111]),9,true),(zm 102 112,10,false),(ze 113 102 0,11,false),(ze 114 102 1,12,false),(zm 12 113,13,false),(zm 13 114,14,false)] [2,3,4,6,7,10,11,12,13,93,94])
 (.seq (.regd [(zL 115 2 2,0,false),(zo 116 (.call 53 [.t 115]),1,false),(zL 117 2 3,2,false),(zo 118 (.call 53 [.t 117]),3,true),(zb 119 .sub 116 118,4,false),(zm 120 11,5,false),(zb 121 .add 119 120,6,false),(zm 14 121,7,false)] [2,3,4,6,7,10,11,12,13,14,93,94])
 (.seq (.seq (.reg [zm 122 13,zo 123 (.un .not (.t 122)),zm 124 123,zu 125 (.mv (.t 14)) 124,zu 126 (.call 50 [.t 125,zK 1048576]) 124,zu 127 (.un .not (.t 126)) 124,zo 128 (.pick (.t 124) zT (.t 127))] [2,3,4,6,7,10,11,12,14,93,94,128])
 (.cond (.t 128)
 (.seq (.reg [zo 129 (.bld [.bool false,.nilS] []),zs 2 4 129,zc 5 10] [4,5])
 .ret)
 .skip))
 (.seq (.reg [zf 130 1 10,zl 131 1 130,zm 132 14,zm 133 12,zo 134 (.bld [.int .i64 0,.int .i64 0] [(0,1,.t 132),(1,1,.t 133)]),zo 135 (.bsl 2 [.int .i64 0,.int .i64 0] 1 [(0,.t 134)]),zo 136 (.app 2 16 [.int .i64 0,.int .i64 0] (.t 131) (.t 135)),zf 137 1 10,zs 1 137 136] [2,3,4,6,7,10,11,12,93,94])
 (.seq (.reg [zf 138 1 3,zl 139 1 138,zn 140 139,zc 141 0] [2,3,4,6,7,10,11,12,93,94,139,140,141])
 (.block 5 (.loop [2,3,4,6,7,10,11,12,93,94,139,140,141] Qj2))))))))))
 (.reg [zk 166 .add 94 1,zm 94 166] [2,3,4,6,7,10,93,94])))
def Qj1:AC :=
 .seq (.reg [zb 173 .lss 172 171] [4,10,170,171,172,173])
 (.seq (.cond (.t 173)
 .skip
 (.exit 7))
 (.seq (.block 8 (.seq (.reg [zi 174 2 170 172,zL 175 2 174,zo 19 (.new [.int .u64 0,.int .u64 0]),zs 2 19 175] [4,10,19,170,171,172])
 (.seq (.reg [zL 176 2 19,zo 177 (.call 72 [.t 176]),zo 178 (.un .not (.t 177))] [4,10,170,171,172,178])
 (.cond (.t 178)
 (.seq (.reg [zo 179 (.bld [.bool false,.nilS] []),zs 2 4 179,zc 5 10] [4,5])
 .ret)
 .skip))))
 (.reg [zk 180 .add 172 1,zm 172 180] [4,10,170,171,172])))
def b30:AC :=
 .seq (.reg [zo 2 (.box (.t 0)),zo 3 (.box (.t 1)),zo 4 (.new [.bool false,.nilS]),zc 5 0] [2,3,4])
 (.seq (.block 0 (.seq (.reg [zf 21 0 2,zl 22 1 21,zm 23 22,zu 24 (.fldA 0 (.t 3)) 23,zu 25 (.ld 1 false (.t 24)) 23,zo 26 (.pick (.t 23) zT (.t 25)),zm 20 26] [2,3,4,20])
 (.cond (.t 20)
 (.seq (.reg [zo 27 (.bld [.bool false,.nilS] []),zs 2 4 27,zc 5 9] [4,5])
 .ret)
 (.seq (.reg [zf 29 1 3,zl 30 1 29,zn 31 30,zk 32 .eql 31 0,zm 28 32] [2,3,4,28])
 (.cond (.t 28)
 (.seq (.reg [zo 33 (.bld [.bool false,.nilS] []),zs 2 4 33,zc 5 2] [4,5])
 .ret)
 (.seq (.reg [zf 35 1 2,zl 36 1 35,zn 37 36,zk 38 .eql 37 0,zm 34 38] [2,3,4,34])
 (.cond (.t 34)
 (.seq (.reg [zo 39 (.bld [.bool false,.nilS] []),zs 2 4 39,zc 5 0] [4,5])
 .ret)
 (.seq (.reg [zf 41 1 3,zl 42 1 41,zn 43 42,zk 44 .eql 43 1,zm 40 44] [2,3,4,40])
 (.cond (.t 40)
 (.seq (.regd [(zL 45 2 2,0,false),(zf 46 1 3,1,false),(zl 47 1 46,2,false),(zo 48 (.idxA 2 (.t 47) (zK 0)),3,false),(zL 49 2 48,4,false),(zo 50 (.call 70 [.t 45,.t 49]),5,true),(ze 51 50 0,6,false),(ze 52 50 1,7,false),(zs 2 4 51,8,true),(zm 5 52,9,false)] [4,5])
 .ret)
 .skip)))))))))
 (.seq (.regd [(zL 53 2 2,0,false),(zo 54 (.call 54 [.t 53]),1,false),(zL 55 2 2,2,false),(zo 56 (.call 53 [.t 55]),3,false),(zb 57 .sub 54 56,4,false),(zL 58 2 3,5,false),(zo 59 (.call 54 [.t 58]),6,false),(zL 60 2 3,7,false),(zo 61 (.call 53 [.t 60]),8,true),(zb 62 .sub 59 61,9,false),(zb 63 .sub 57 62,10,false),(zm 6 63,11,false)] [2,3,4,6])
 (.seq (.seq (.reg [zm 64 6,zk 65 .lss 64 0] [2,3,4,6,65])
 (.cond (.t 65)
 (.seq (.reg [zo 66 (.bld [.bool false,.nilS] []),zs 2 4 66,zc 5 10] [4,5])
 .ret)
 .skip))
 (.seq (.regd [(zL 67 2 2,0,false),(zo 68 (.call 54 [.t 67]),1,false),(zL 69 2 2,2,false),(zo 70 (.call 53 [.t 69]),3,true),(zb 71 .sub 68 70,4,false),(zk 72 .add 71 1,5,false),(zo 73 (.mk 2 16 [.int .u64 0,.int .u64 0] (.t 72) (.t 72)),6,true),(zm 7 73,7,false)] [2,3,4,6,7])
 (.seq (.seq (.reg [zf 74 1 2,zl 75 1 74,zn 76 75,zc 77 0] [2,3,4,6,7,75,76,77])
 (.block 1 (.loop [2,3,4,6,7,75,76,77] Qj4)))
 (.seq (.reg [⟨some 10,.new [.bool false,.nilS],none⟩] [2,3,4,6,7,10])
 (.seq (.seq (.reg [zm 92 6,zk 93 .add 92 1,zc 94 0] [2,3,4,6,7,10,93,94])
 (.block 3 (.loop [2,3,4,6,7,10,93,94] Qj3)))
 (.seq (.seq (.reg [zm 167 7,zm 168 6,zk 169 .add 168 1,zo 170 (.sl 2 (.t 167) (some (.t 169)) none),zn 171 170,zc 172 0] [4,10,170,171,172])
 (.block 7 (.loop [4,10,170,171,172] Qj1)))
 (.seq (.reg [zL 181 2 10,zs 2 4 181,zc 5 0] [4,5])
 .ret)))))))))
def a30:AFun:=⟨2,b30,[.cell 4 2 true,.t 5]⟩
def b35L0:AC :=
 .seq (.reg [zb 8 .lss 7 6] [0,5,6,7,8])
 (.seq (.cond (.t 8)
 .skip
 (.exit 0))
 (.seq (.block 1 (.seq (.reg [zi 9 1 5 7,zl 10 1 9,zm 4 10] [0,4,5,6,7])
 (.seq (.reg [zm 11 4,zn 12 11,zm 13 0,zo 14 (.idxA 1 (.t 13) (zK 0)),zl 15 1 14,zn 16 15,zb 17 .neq 12 16] [0,5,6,7,17])
 (.cond (.t 17)
 (.seq (.reg [⟨some 2,.mv zF,none⟩] [2])
 .ret)
 .skip))))
 (.reg [zk 18 .add 7 1,zm 7 18] [0,5,6,7])))
def b35:AC :=
 .seq (.reg [zo 2 (.mv zF)] [0])
 (.seq (.seq (.reg [zm 5 0,zn 6 5,zc 7 0] [0,5,6,7])
 (.block 0 (.loop [0,5,6,7] b35L0)))
 (.seq (.reg [⟨some 2,.mv zT,none⟩] [2])
 .ret))
def a35:AFun:=⟨1,b35,[.t 2]⟩
def b36:AC :=
 .seq (.reg [zo 2 (.mv zF)] [0])
 (.seq (.reg [zm 3 0,zn 4 3,zk 5 .gtr 4 64,zm 6 5,zu 7 (.mv (.t 0)) 6,zu 8 (.call 37 [.t 7]) 6,zu 9 (.bin .gtr (.t 8) (zK 64)) 6,zo 10 (.pick (.t 6) zT (.t 9)),zm 2 10] [2])
 .ret)
def a36:AFun:=⟨1,b36,[.t 2]⟩
def b37:AC :=
 .seq (.reg [zc 2 0] [0])
 (.seq (.seq (.reg [zm 3 0,zn 4 3,zk 5 .eql 4 0] [0,5])
 (.cond (.t 5)
 (.seq (.reg [zc 2 0] [2])
 .ret)
 .skip))
 (.seq (.reg [zm 6 0,zo 7 (.idxA 1 (.t 6) (zK 0)),zl 8 1 7,zn 9 8,zm 2 9] [2])
 .ret))
def a37:AFun:=⟨1,b37,[.t 2]⟩
def b38:AC :=
 .seq (.reg [zo 4 (.mv zF)] [0,1])
 (.seq (.reg [zm 5 0,zm 6 1,zo 7 (.call 75 [.t 5,.t 6]),zk 8 .geq 7 0,zm 4 8] [4])
 .ret)
def a38:AFun:=⟨2,b38,[.t 4]⟩
def b39:AC :=
 .seq (.reg [zo 1 (.box (.t 0)),zo 2 (.mv zF)] [1])
 (.seq (.reg [zf 3 0 1,zl 4 1 3,zm 2 4] [2])
 .ret)
def a39:AFun:=⟨1,b39,[.t 2]⟩
def b40L1:AC :=
 .seq (.reg [zb 34 .lss 33 32] [0,2,4,5,6,7,8,9,10,11,24,25,26,31,32,33,34])
 (.seq (.cond (.t 34)
 .skip
 (.exit 2))
 (.seq (.block 3 (.seq (.reg [zi 35 2 31 33,zL 36 2 35,zo 13 (.new [.bool false,.nilS]),zs 2 13 36] [0,2,4,5,6,7,8,9,10,11,13,24,25,26,31,32,33])
 (.block 4 (.seq (.reg [zL 46 2 13,zo 47 (.call 14 [.t 46]),zm 45 47] [0,2,4,5,6,7,8,9,10,11,13,24,25,26,31,32,33,45])
 (.cond (.t 45)
 .skip
 (.seq (.reg [zm 49 11,zo 50 (.un .not (.t 49)),zm 48 50] [0,2,4,5,6,7,8,9,10,11,13,24,25,26,31,32,33,48])
 (.cond (.t 48)
 (.regd [(zL 51 2 13,0,false),(zo 52 (.call 53 [.t 51]),1,false),(zL 53 2 13,2,false),(zo 54 (.call 54 [.t 53]),3,true),(zm 9 52,4,false),(zm 10 54,5,false),(zo 11 (.mv zT),6,false)] [0,2,4,5,6,7,8,9,10,11,24,25,26,31,32,33])
 (.regd [(zm 37 9,0,false),(zL 38 2 13,1,false),(zo 39 (.call 53 [.t 38]),2,false),(zo 40 (.mm false (.t 37) [.t 39]),3,false),(zm 41 10,4,false),(zL 42 2 13,5,false),(zo 43 (.call 54 [.t 42]),6,true),(zo 44 (.mm true (.t 41) [.t 43]),7,false),(zm 9 40,8,false),(zm 10 44,9,false)] [0,2,4,5,6,7,8,9,10,11,24,25,26,31,32,33]))))))))
 (.reg [zk 55 .add 33 1,zm 33 55] [0,2,4,5,6,7,8,9,10,11,24,25,26,31,32,33])))
def b40L0:AC :=
 .seq (.reg [zb 27 .lss 26 25] [0,2,4,5,6,24,25,26,27])
 (.seq (.cond (.t 27)
 .skip
 (.exit 0))
 (.seq (.block 1 (.seq (.reg [zm 28 26,zi 29 1 24 26,zl 30 1 29,zm 7 28,zm 8 30] [0,2,4,5,6,7,8,24,25,26])
 (.seq (.reg [zc 9 0,zc 10 0,zo 11 (.mv zF)] [0,2,4,5,6,7,8,9,10,11,24,25,26])
 (.seq (.seq (.reg [zm 31 8,zn 32 31,zc 33 0] [0,2,4,5,6,7,8,9,10,11,24,25,26,31,32,33])
 (.block 2 (.loop [0,2,4,5,6,7,8,9,10,11,24,25,26,31,32,33] b40L1)))
 (.seq (.seq (.reg [zm 56 11,zo 57 (.un .not (.t 56)),zm 58 57,zt 59 (.mv (.t 8)) 58,zt 60 (.len false (.t 59)) 58,zt 61 (.bin .gtr (.t 60) (zK 0)) 58,zo 62 (.pick (.t 58) (.t 61) zF)] [0,2,4,5,6,7,9,10,24,25,26,62])
 (.cond (.t 62)
 (.seq (.reg [zo 63 (.bld [.bool false,.nilS] []),zs 2 2 63,zo 3 (.mv zT)] [2,3])
 .ret)
 .skip))
 (.seq (.reg [zm 64 4,zm 65 7,zm 66 9,zi 67 1 64 65,zs 1 67 66] [0,2,4,5,6,9,10,24,25,26])
 (.seq (.reg [zm 68 5,zm 69 9,zb 70 .add 68 69,zm 5 70] [0,2,4,5,6,9,10,24,25,26])
 (.reg [zm 71 6,zm 72 10,zm 73 9,zb 74 .sub 72 73,zb 75 .add 71 74,zm 6 75] [0,2,4,5,6,24,25,26]))))))))
 (.reg [zk 76 .add 26 1,zm 26 76] [0,2,4,5,6,24,25,26])))
def b40L3:AC :=
 .seq (.reg [zb 96 .lss 95 94] [2,4,5,6,14,15,86,87,88,93,94,95,96])
 (.seq (.cond (.t 96)
 .skip
 (.exit 7))
 (.seq (.block 8 (.seq (.reg [zi 97 2 93 95,zL 98 2 97,zo 18 (.new [.bool false,.nilS]),zs 2 18 98] [2,4,5,6,14,15,18,86,87,88,93,94,95])
 (.regd [(zm 99 14,0,false),(zm 100 15,1,false),(zm 101 14,2,false),(zm 102 15,3,false),(zi 103 1 101 102,4,false),(zl 104 1 103,5,false),(zL 105 2 18,6,false),(zm 106 4,7,false),(zm 107 15,8,false),(zi 108 1 106 107,9,false),(zl 109 1 108,10,false),(zo 110 (.call 65 [.t 105,.t 109]),11,false),(zo 111 (.bsl 1 [.nilS] 1 [(0,.t 110)]),12,false),(zo 112 (.app 1 24 [.nilS] (.t 104) (.t 111)),13,true),(zi 113 1 99 100,14,false),(zs 1 113 112,15,true)] [2,4,5,6,14,15,86,87,88,93,94,95])))
 (.reg [zk 114 .add 95 1,zm 95 114] [2,4,5,6,14,15,86,87,88,93,94,95])))
def b40L2:AC :=
 .seq (.reg [zb 89 .lss 88 87] [2,4,5,6,14,86,87,88,89])
 (.seq (.cond (.t 89)
 .skip
 (.exit 5))
 (.seq (.block 6 (.seq (.reg [zm 90 88,zi 91 1 86 88,zl 92 1 91,zm 15 90,zm 16 92] [2,4,5,6,14,15,16,86,87,88])
 (.seq (.reg [zm 93 16,zn 94 93,zc 95 0] [2,4,5,6,14,15,86,87,88,93,94,95])
 (.block 7 (.loop [2,4,5,6,14,15,86,87,88,93,94,95] b40L3)))))
 (.reg [zk 115 .add 88 1,zm 88 115] [2,4,5,6,14,86,87,88])))
def b40:AC :=
 .seq (.reg [zo 2 (.new [.bool false,.nilS]),zo 3 (.mv zF)] [0,2])
 (.seq (.reg [zm 21 0,zn 22 21,zo 23 (.mk 1 8 [.int .i64 0] (.t 22) (.t 22)),zm 4 23] [0,2,4])
 (.seq (.reg [zc 5 0,zc 6 0] [0,2,4,5,6])
 (.seq (.seq (.reg [zm 24 0,zn 25 24,zc 26 0] [0,2,4,5,6,24,25,26])
 (.block 0 (.loop [0,2,4,5,6,24,25,26] b40L0)))
 (.seq (.seq (.reg [zm 77 6,zk 78 .geq 77 131072] [0,2,4,5,6,78])
 (.cond (.t 78)
 (.seq (.reg [zm 79 0,zo 80 (.call 76 [.t 79]),ze 81 80 0,ze 82 80 1,zs 2 2 81,zm 3 82] [2,3])
 .ret)
 .skip))
 (.seq (.reg [zm 83 0,zn 84 83,zo 85 (.mk 1 24 [.nilS] (.t 84) (.t 84)),zm 14 85] [0,2,4,5,6,14])
 (.seq (.seq (.reg [zm 86 0,zn 87 86,zc 88 0] [2,4,5,6,14,86,87,88])
 (.block 5 (.loop [2,4,5,6,14,86,87,88] b40L2)))
 (.seq (.reg [zm 117 14,zm 118 6,zo 119 (.call 77 [.t 117,.t 118]),zm 116 119,ze 120 116 0,ze 121 116 1,zm 19 120,zm 20 121] [2,5,19,20])
 (.seq (.seq (.reg [zm 122 20,zo 123 (.un .not (.t 122))] [2,5,19,123])
 (.cond (.t 123)
 (.seq (.reg [zo 124 (.bld [.bool false,.nilS] []),zs 2 2 124,zo 3 (.mv zF)] [2,3])
 .ret)
 .skip))
 (.seq (.reg [zm 125 5,zm 126 19,zo 127 (.call 20 [.t 125,.t 126]),zs 2 2 127,zo 3 (.mv zT)] [2,3])
 .ret)))))))))
def a40:AFun:=⟨1,b40,[.cell 2 2 true,.t 3]⟩
def b41:AC :=
 .seq (.reg [zo 4 (.mv (.k (.sc .nilI)))] [0,1])
 (.seq (.reg [zm 5 0,zo 6 (.call 78 [.t 5])] [0,1])
 (.seq (.reg [zm 7 0,zm 8 0,zo 9 (.nilc (.t 8)),zf 10 1 9,zl 11 1 10,zm 12 1,⟨some 13,.bsl ⟨1,some 5⟩ [.int .u8 0] 1 [(0,.t 12)],none⟩,⟨some 14,.app ⟨1,some 5⟩ 1 [.int .u8 0] (.t 11) (.t 13),none⟩,zo 15 (.nilc (.t 7)),zf 16 1 15,zs 1 16 14] [])
 (.seq (.reg [⟨some 4,.mv (.k (.sc .nilI)),none⟩] [4])
 .ret)))
def a41:AFun:=⟨2,b41,[.t 4]⟩
def b42:AC :=
 .seq (.reg [zc 4 0,zo 5 (.mv (.k (.sc .nilI)))] [0,1])
 (.seq (.reg [zm 6 0,zo 7 (.call 78 [.t 6])] [0,1])
 (.seq (.reg [zm 8 0,zm 9 0,zo 10 (.nilc (.t 9)),zf 11 1 10,zl 12 1 11,zm 13 1,⟨some 14,.app ⟨1,some 5⟩ 1 [.int .u8 0] (.t 12) (.t 13),none⟩,zo 15 (.nilc (.t 8)),zf 16 1 15,zs 1 16 14] [1])
 (.seq (.reg [zm 17 1,zo 18 (.len true (.t 17)),zm 4 18,zo 5 (.mv (.k (.sc .nilI)))] [4,5])
 .ret)))
def a42:AFun:=⟨2,b42,[.t 4,.t 5]⟩
def b44:AC :=
 .seq (.reg [⟨some 2,.mv (.k (.sc (.str ⟨#[]⟩))),none⟩] [0])
 (.seq (.regd [(zm 3 0,0,false),(zo 4 (.nilc (.t 3)),1,false),(zf 5 1 4,2,false),(zl 6 1 5,3,false),(zo 7 (.usd (.t 6)),4,false),(zm 8 0,5,false),(zo 9 (.nilc (.t 8)),6,false),(zf 10 1 9,7,false),(zl 11 1 10,8,false),(zn 12 11,9,false),(zo 13 (.ustr 5 (.t 7) (.t 12)),10,true),(zm 2 13,11,false)] [2])
 .ret)
def a44:AFun:=⟨1,b44,[.t 2]⟩
def b50:AC :=
 .seq (.reg [zo 4 (.mv zF)] [0,1])
 (.seq (.reg [zm 5 0,zm 6 1,zo 7 (.un .neg (.t 6)),zb 8 .geq 5 7,zm 9 8,zt 10 (.mv (.t 0)) 9,zt 11 (.mv (.t 1)) 9,zt 12 (.bin .leq (.t 10) (.t 11)) 9,zo 13 (.pick (.t 9) (.t 12) zF),zm 4 13] [4])
 .ret)
def a50:AFun:=⟨2,b50,[.t 4]⟩
def Qhl:AC :=
 .seq (.seq (.reg [zm 29 10,zf 30 1 3,zl 31 1 30,zn 32 31,zb 33 .lss 29 32,zm 34 33,zu 35 (.mv (.t 11)) 34,zu 36 (.fldA 1 (.t 4)) 34,zu 37 (.ld 1 false (.t 36)) 34,zu 38 (.len false (.t 37)) 34,zu 39 (.bin .lss (.t 35) (.t 38)) 34,zo 40 (.pick (.t 34) zT (.t 39))] [3,4,6,7,8,9,10,11,40])
 (.cond (.t 40)
 .skip
 (.exit 0)))
 (.block 1 (.block 2 (.seq (.regd [(zm 66 11,0,false),(zf 67 1 4,1,false),(zl 68 1 67,2,true),(zn 69 68,3,false),(zb 70 .eql 66 69,4,false),(zm 71 70,5,false),(zu 72 (.mv (.t 10)) 71,6,false),(zu 73 (.fldA 1 (.t 3)) 71,7,false),(zu 74 (.ld 1 false (.t 73)) 71,8,true),(zu 75 (.len false (.t 74)) 71,9,false),(zu 76 (.bin .lss (.t 72) (.t 75)) 71,10,false),(zu 77 (.mv (.t 76)) 71,11,false),(zt 78 (.fldA 1 (.t 3)) 77,12,false),(zt 79 (.ld 1 false (.t 78)) 77,13,false),(zt 80 (.mv (.t 10)) 77,14,false),(zt 81 (.idxA 2 (.t 79) (.t 80)) 77,15,false),(zt 82 (.fldA 0 (.t 81)) 77,16,false),(zt 83 (.ld 1 false (.t 82)) 77,17,false),(zt 84 (.fldA 1 (.t 4)) 77,18,false),(zt 85 (.ld 1 false (.t 84)) 77,19,false),(zt 86 (.mv (.t 11)) 77,20,false),(zt 87 (.idxA 2 (.t 85) (.t 86)) 77,21,false),(zt 88 (.fldA 0 (.t 87)) 77,22,false),(zt 89 (.ld 1 false (.t 88)) 77,23,false),(zt 90 (.bin .lss (.t 83) (.t 89)) 77,24,false),(zu 91 (.pick (.t 77) (.t 90) zF) 71,25,false),(zo 92 (.pick (.t 71) zT (.t 91)),26,false),(zm 65 92,27,false)] [3,4,6,7,8,9,10,11,65])
 (.cond (.t 65)
 (.seq (.regd [(zm 93 9,0,false),(zf 94 1 3,1,false),(zl 95 1 94,2,false),(zm 96 10,3,false),(zi 97 2 95 96,4,false),(zf 98 0 97,5,false),(zl 99 1 98,6,false),(zf 100 1 3,7,false),(zl 101 1 100,8,false),(zm 102 10,9,false),(zi 103 2 101 102,10,false),(zf 104 1 103,11,false),(zl 105 1 104,12,false),(zo 106 (.callv (.t 93) [.t 99,.t 105,zK 0]),13,true)] [3,4,6,7,8,9,10,11])
 (.reg [zm 107 10,zk 108 .add 107 1,zm 10 108] [3,4,6,7,8,9,10,11]))
 (.seq (.regd [(zm 110 10,0,false),(zf 111 1 3,1,false),(zl 112 1 111,2,true),(zn 113 112,3,false),(zb 114 .eql 110 113,4,false),(zm 115 114,5,false),(zu 116 (.fldA 1 (.t 4)) 115,6,false),(zu 117 (.ld 1 false (.t 116)) 115,7,false),(zu 118 (.mv (.t 11)) 115,8,false),(zu 119 (.idxA 2 (.t 117) (.t 118)) 115,9,false),(zu 120 (.fldA 0 (.t 119)) 115,10,false),(zu 121 (.ld 1 false (.t 120)) 115,11,false),(zu 122 (.fldA 1 (.t 3)) 115,12,false),(zu 123 (.ld 1 false (.t 122)) 115,13,false),(zu 124 (.mv (.t 10)) 115,14,false),(zu 125 (.idxA 2 (.t 123) (.t 124)) 115,15,false),(zu 126 (.fldA 0 (.t 125)) 115,16,false),(zu 127 (.ld 1 false (.t 126)) 115,17,false),(zu 128 (.bin .lss (.t 121) (.t 127)) 115,18,false),(zo 129 (.pick (.t 115) zT (.t 128)),19,false),(zm 109 129,20,false)] [3,4,6,7,8,9,10,11,109])
 (.cond (.t 109)
 (.seq (.regd [(zm 130 9,0,false),(zf 131 1 4,1,false),(zl 132 1 131,2,false),(zm 133 11,3,false),(zi 134 2 132 133,4,false),(zf 135 0 134,5,false),(zl 136 1 135,6,false),(zf 137 1 4,7,false),(zl 138 1 137,8,false),(zm 139 11,9,false),(zi 140 2 138 139,10,false),(zf 141 1 140,11,false),(zl 142 1 141,12,false),(zo 143 (.callv (.t 130) [.t 136,zK 0,.t 142]),13,true)] [3,4,6,7,8,9,10,11])
 (.reg [zm 144 11,zk 145 .add 144 1,zm 11 145] [3,4,6,7,8,9,10,11]))
 (.seq (.regd [(zm 41 9,0,false),(zf 42 1 3,1,false),(zl 43 1 42,2,false),(zm 44 10,3,false),(zi 45 2 43 44,4,false),(zf 46 0 45,5,false),(zl 47 1 46,6,false),(zf 48 1 3,7,false),(zl 49 1 48,8,false),(zm 50 10,9,false),(zi 51 2 49 50,10,false),(zf 52 1 51,11,false),(zl 53 1 52,12,false),(zf 54 1 4,13,false),(zl 55 1 54,14,false),(zm 56 11,15,false),(zi 57 2 55 56,16,false),(zf 58 1 57,17,false),(zl 59 1 58,18,false),(zo 60 (.callv (.t 41) [.t 47,.t 53,.t 59]),19,true)] [3,4,6,7,8,9,10,11])
 (.seq (.reg [zm 61 10,zk 62 .add 61 1,zm 10 62] [3,4,6,7,8,9,10,11])
 (.reg [zm 63 11,zk 64 .add 63 1,zm 11 64] [3,4,6,7,8,9,10,11])))))))))
def b51:AC :=
 .seq (.reg [zo 3 (.box (.t 0)),zo 4 (.box (.t 1)),zo 5 (.box (.t 2)),zo 6 (.new [.bool false,.nilS])] [3,4,5,6])
 (.seq (.seq (.reg [zf 12 0 3,zl 13 1 12,zm 14 13,zu 15 (.fldA 0 (.t 4)) 14,zu 16 (.ld 1 false (.t 15)) 14,zo 17 (.pick (.t 14) zT (.t 16))] [3,4,5,6,17])
 (.cond (.t 17)
 (.seq (.reg [zo 18 (.bld [.bool false,.nilS] [(0,1,.k (.sc (.bool true)))]),zs 2 6 18] [6])
 .ret)
 .skip))
 (.seq (.reg [zf 19 1 3,zl 20 1 19,zn 21 20,zf 22 1 4,zl 23 1 22,zn 24 23,zb 25 .add 21 24,zo 26 (.mk 2 16 [.int .i64 0,.int .i64 0] (zK 0) (.t 25)),zo 27 (.bld [.bool false,.nilS] [(1,1,.t 26)]),zo 7 (.new [.bool false,.nilS]),zs 2 7 27] [3,4,5,6,7])
 (.seq (.reg [zo 8 (.new [.bool false]),⟨none,.st 1 (.t 8) zT,none⟩] [3,4,5,6,7,8])
 (.seq (.reg [zo 28 (.mkf 83 [.t 5,.t 8,.t 7]),zm 9 28] [3,4,6,7,8,9])
 (.seq (.reg [zc 10 0,zc 11 0] [3,4,6,7,8,9,10,11])
 (.seq (.block 0 (.loop [3,4,6,7,8,9,10,11] Qhl))
 (.seq (.seq (.reg [zl 146 1 8,zo 147 (.un .not (.t 146))] [6,7,147])
 (.cond (.t 147)
 (.seq (.reg [zo 148 (.bld [.bool false,.nilS] [(0,1,.k (.sc (.bool true)))]),zs 2 6 148] [6])
 .ret)
 .skip))
 (.seq (.reg [zL 149 2 7,zs 2 6 149] [6])
 .ret))))))))
def a51:AFun:=⟨3,b51,[.cell 6 2 true]⟩
def b52:AC :=
 .seq (.reg [zc 4 0] [0,1])
 (.seq (.reg [zm 5 0,zm 6 1,zb 7 .add 5 6,zm 4 7] [4])
 .ret)
def a52:AFun:=⟨2,b52,[.t 4]⟩
def b53:AC :=
 .seq (.reg [zo 1 (.box (.t 0)),zc 2 0] [1])
 (.seq (.seq (.reg [zf 3 1 1,zl 4 1 3,zn 5 4,zk 6 .eql 5 0] [1,6])
 (.cond (.t 6)
 (.seq (.reg [zc 2 0] [2])
 .ret)
 .skip))
 (.seq (.reg [zf 7 1 1,zl 8 1 7,zo 9 (.idxA 2 (.t 8) (zK 0)),zf 10 0 9,zl 11 1 10,zm 2 11] [2])
 .ret))
def a53:AFun:=⟨1,b53,[.t 2]⟩
def b54:AC :=
 .seq (.reg [zo 1 (.box (.t 0)),zc 2 0] [1])
 (.seq (.seq (.reg [zf 3 1 1,zl 4 1 3,zn 5 4,zk 6 .eql 5 0] [1,6])
 (.cond (.t 6)
 (.seq (.reg [zc 2 0] [2])
 .ret)
 .skip))
 (.seq (.reg [zf 7 1 1,zl 8 1 7,zf 9 1 1,zl 10 1 9,zn 11 10,zk 12 .sub 11 1,zi 13 2 8 12,zf 14 0 13,zl 15 1 14,zm 2 15] [2])
 .ret))
def a54:AFun:=⟨1,b54,[.t 2]⟩
def QjZ:AC :=
 .seq (.reg [zb 21 .lss 20 19] [2,4,7,11,12,13,18,19,20,21])
 (.seq (.cond (.t 21)
 .skip
 (.exit 2))
 (.seq (.block 3 (.seq (.reg [zi 22 2 18 20,zL 23 2 22,zo 9 (.new [.int .i64 0,.int .i64 0]),zs 2 9 23] [2,4,7,9,11,12,13,18,19,20])
 (.regd [(zm 24 2,0,false),(zf 25 0 7,1,false),(zl 26 1 25,2,false),(zf 27 0 9,3,false),(zl 28 1 27,4,false),(zb 29 .add 26 28,5,false),(zf 30 1 7,6,false),(zl 31 1 30,7,false),(zf 32 1 9,8,false),(zl 33 1 32,9,false),(zo 34 (.call 74 [.t 31,.t 33]),10,false),(zo 35 (.callv (.t 24) [.t 29,.t 34]),11,true)] [2,4,7,11,12,13,18,19,20])))
 (.reg [zk 36 .add 20 1,zm 20 36] [2,4,7,11,12,13,18,19,20])))
def Qj0:AC :=
 .seq (.reg [zb 14 .lss 13 12] [2,4,11,12,13,14])
 (.seq (.cond (.t 14)
 .skip
 (.exit 0))
 (.seq (.block 1 (.seq (.reg [zi 15 2 11 13,zL 16 2 15,zo 7 (.new [.int .i64 0,.int .i64 0]),zs 2 7 16] [2,4,7,11,12,13])
 (.seq (.reg [zf 17 1 4,zl 18 1 17,zn 19 18,zc 20 0] [2,4,7,11,12,13,18,19,20])
 (.block 2 (.loop [2,4,7,11,12,13,18,19,20] QjZ)))))
 (.reg [zk 37 .add 13 1,zm 13 37] [2,4,11,12,13])))
def b56:AC :=
 .seq (.reg [zo 3 (.box (.t 0)),zo 4 (.box (.t 1))] [2,3,4])
 (.seq (.reg [zf 10 1 3,zl 11 1 10,zn 12 11,zc 13 0] [2,4,11,12,13])
 (.block 0 (.loop [2,4,11,12,13] Qj0)))
def a56:AFun:=⟨3,b56,[]⟩
def b57:AC :=
 .seq (.reg [zo 5 (.box (.t 1))] [0,2,3,5])
 (.regd [(zl 6 1 2,0,false),(zm 7 0,1,false),(zl 8 1 3,2,false),(zb 9 .sub 7 8,3,false),(zl 10 1 2,4,false),(zm 11 0,5,false),(zl 12 1 3,6,false),(zb 13 .sub 11 12,7,false),(zi 14 2 10 13,8,false),(zL 15 2 14,9,false),(zL 16 2 5,10,false),(zo 17 (.call 58 [.t 15,.t 16]),11,false),(zi 18 2 6 9,12,false),(zs 2 18 17,13,true)] [])
def a57:AFun:=⟨4,b57,[]⟩
def b58:AC :=
 .seq (.reg [zo 2 (.box (.t 0)),zo 3 (.box (.t 1)),zo 4 (.new [.int .u64 0,.int .u64 0])] [2,3,4])
 (.seq (.reg [zf 10 1 2,zl 11 1 10,zf 12 1 3,zl 13 1 12,zo 14 (.car false (.t 11) (.t 13) (.k (.sc (.int .u64 0)))),zm 9 14,ze 15 9 0,ze 16 9 1,zm 5 15,zm 6 16] [2,3,4,5,6])
 (.seq (.reg [zf 18 0 2,zl 19 1 18,zf 20 0 3,zl 21 1 20,zm 22 6,zo 23 (.car false (.t 19) (.t 21) (.t 22)),zm 17 23,ze 24 17 0,ze 25 17 1,zm 7 24,zm 8 25] [4,5,7])
 (.seq (.reg [zm 26 7,zm 27 5,zo 28 (.bld [.int .u64 0,.int .u64 0] [(0,1,.t 26),(1,1,.t 27)]),zs 2 4 28] [4])
 .ret)))
def a58:AFun:=⟨2,b58,[.cell 4 2 true]⟩
def b59:AC :=
 .seq (.reg [zo 1 (.box (.t 0)),zc 2 0,zo 3 (.mv zF)] [1])
 (.seq (.reg [zL 7 2 1,zo 8 (.call 88 [.t 7]),zm 6 8,ze 9 6 0,ze 10 6 1,zo 4 (.new [.int .u64 0,.int .u64 0]),zs 2 4 9,zm 5 10] [4,5])
 (.seq (.seq (.reg [zf 11 0 4,zl 12 1 11,zo 13 (.bin .neq (.t 12) (.k (.sc (.int .u64 0)))),zm 14 13,zu 15 (.fldA 1 (.t 4)) 14,zu 16 (.ld 1 false (.t 15)) 14,zu 17 (.bin .gtr (.t 16) (.k (.sc (.int .u64 1125899906842624)))) 14,zo 18 (.pick (.t 14) zT (.t 17))] [4,5,18])
 (.cond (.t 18)
 (.seq (.reg [zc 2 0,zo 3 (.mv zF)] [2,3])
 .ret)
 .skip))
 (.seq (.seq (.reg [zm 19 5] [4,19])
 (.cond (.t 19)
 (.seq (.reg [zf 20 1 4,zl 21 1 20,zo 22 (.conv .i64 (.t 21)),zo 23 (.un .neg (.t 22)),zm 2 23,zo 3 (.mv zT)] [2,3])
 .ret)
 .skip))
 (.seq (.reg [zf 24 1 4,zl 25 1 24,zo 26 (.conv .i64 (.t 25)),zm 2 26,zo 3 (.mv zT)] [2,3])
 .ret))))
def a59:AFun:=⟨1,b59,[.t 2,.t 3]⟩
def QjY:AC :=
 .seq (.reg [zb 14 .lss 13 12] [0,1,12,13,14])
 (.seq (.cond (.t 14)
 .skip
 (.exit 0))
 (.seq (.block 1 (.seq (.reg [zm 15 13,zm 5 15] [0,1,5,12,13])
 (.seq (.regd [(zm 16 0,0,false),(zm 17 5,1,false),(zi 18 2 16 17,2,false),(zL 19 2 18,3,false),(zm 20 1,4,false),(zm 21 5,5,false),(zi 22 2 20 21,6,false),(zL 23 2 22,7,false),(zo 24 (.seq2 true (.t 19) (.t 23)),8,true)] [0,1,12,13,24])
 (.cond (.t 24)
 (.seq (.reg [⟨some 4,.mv zF,none⟩] [4])
 .ret)
 .skip))))
 (.reg [zk 25 .add 13 1,zm 13 25] [0,1,12,13])))
def b60:AC :=
 .seq (.reg [zo 4 (.mv zF)] [0,1])
 (.seq (.seq (.reg [zm 6 0,zn 7 6,zm 8 1,zn 9 8,zb 10 .neq 7 9] [0,1,10])
 (.cond (.t 10)
 (.seq (.reg [⟨some 4,.mv zF,none⟩] [4])
 .ret)
 .skip))
 (.seq (.seq (.reg [zm 11 0,zn 12 11,zc 13 0] [0,1,12,13])
 (.block 0 (.loop [0,1,12,13] QjY)))
 (.seq (.reg [⟨some 4,.mv zT,none⟩] [4])
 .ret)))
def a60:AFun:=⟨2,b60,[.t 4]⟩
def b61:AC :=
 .seq (.reg [zc 4 0] [1])
 (.seq (.reg [zm 5 1,zo 6 (.un .neg (.t 5)),zm 4 6] [4])
 .ret)
def a61:AFun:=⟨2,b61,[.t 4]⟩
def b62:AC :=
 .seq (.reg [zo 2 (.box (.t 0)),zc 4 0] [1,2])
 (.seq (.reg [zf 8 1 2,zl 9 1 8,zm 10 1,zo 11 (.call 89 [.t 9,.t 10,(.k (.sc (.fn 90 [])))]),zm 7 11,ze 12 7 0,ze 13 7 1,zm 5 12,zm 6 13] [2,5,6])
 (.seq (.seq (.reg [zm 14 6,zo 15 (.un .not (.t 14))] [2,5,15])
 (.cond (.t 15)
 (.seq (.reg [zc 4 0] [4])
 .ret)
 .skip))
 (.seq (.reg [zf 16 1 2,zl 17 1 16,zm 18 5,zi 19 2 17 18,zf 20 1 19,zl 21 1 20,zm 4 21] [4])
 .ret)))
def a62:AFun:=⟨2,b62,[.t 4]⟩
def QjX:AC :=
 .seq (.reg [zb 21 .lss 20 19] [1,4,5,18,19,20,21])
 (.seq (.cond (.t 21)
 .skip
 (.exit 0))
 (.seq (.block 1 (.seq (.reg [zi 22 2 18 20,zL 23 2 22,zo 7 (.new [.int .i64 0,.int .i64 0]),zs 2 7 23] [1,4,5,7,18,19,20])
 (.seq (.reg [zm 24 1,zf 25 0 7,zl 26 1 25,zo 27 (.callv (.t 24) [.t 26]),zm 8 27] [1,4,5,7,8,18,19,20])
 (.seq (.seq (.reg [zm 28 8,zo 29 (.call 50 [.t 28,zK 1048576]),zo 30 (.un .not (.t 29))] [1,4,5,7,8,18,19,20,30])
 (.cond (.t 30)
 (.seq (.reg [zo 31 (.bld [.bool false,.nilS] [(0,1,.k (.sc (.bool true)))]),zs 2 4 31] [4])
 .ret)
 .skip))
 (.reg [zf 32 1 5,zl 33 1 32,zm 34 8,zf 35 1 7,zl 36 1 35,zo 37 (.bld [.int .i64 0,.int .i64 0] [(0,1,.t 34),(1,1,.t 36)]),zo 38 (.bsl 2 [.int .i64 0,.int .i64 0] 1 [(0,.t 37)]),zo 39 (.app 2 16 [.int .i64 0,.int .i64 0] (.t 33) (.t 38)),zf 40 1 5,zs 1 40 39] [1,4,5,18,19,20])))))
 (.reg [zk 41 .add 20 1,zm 20 41] [1,4,5,18,19,20])))
def b63:AC :=
 .seq (.reg [zo 2 (.box (.t 0)),zo 4 (.new [.bool false,.nilS])] [1,2,4])
 (.seq (.seq (.reg [zf 9 0 2,zl 10 1 9] [1,2,4,10])
 (.cond (.t 10)
 (.seq (.reg [zL 11 2 2,zs 2 4 11] [4])
 .ret)
 .skip))
 (.seq (.reg [zf 12 1 2,zl 13 1 12,zn 14 13,zo 15 (.mk 2 16 [.int .i64 0,.int .i64 0] (zK 0) (.t 14)),zo 16 (.bld [.bool false,.nilS] [(1,1,.t 15)]),zo 5 (.new [.bool false,.nilS]),zs 2 5 16] [1,2,4,5])
 (.seq (.seq (.reg [zf 17 1 2,zl 18 1 17,zn 19 18,zc 20 0] [1,4,5,18,19,20])
 (.block 0 (.loop [1,4,5,18,19,20] QjX)))
 (.seq (.seq (.regd [(zf 42 1 5,0,false),(zl 43 1 42,1,true),(zn 44 43,2,false),(zk 45 .gtr 44 1,3,false),(zm 46 45,4,false),(zt 47 (.fldA 1 (.t 5)) 46,5,false),(zt 48 (.ld 1 false (.t 47)) 46,6,false),(zt 49 (.idxA 2 (.t 48) (zK 0)) 46,7,false),(zt 50 (.fldA 0 (.t 49)) 46,8,false),(zt 51 (.ld 1 false (.t 50)) 46,9,false),(zt 52 (.fldA 1 (.t 5)) 46,10,false),(zt 53 (.ld 1 false (.t 52)) 46,11,false),(zt 54 (.idxA 2 (.t 53) (zK 1)) 46,12,false),(zt 55 (.fldA 0 (.t 54)) 46,13,false),(zt 56 (.ld 1 false (.t 55)) 46,14,false),(zt 57 (.bin .gtr (.t 51) (.t 56)) 46,15,false),(zo 58 (.pick (.t 46) (.t 57) zF),16,false)] [4,5,58])
 (.cond (.t 58)
 (.reg [zf 59 1 5,zl 60 1 59,zo 61 (.call 92 [.t 60])] [4,5])
 .skip))
 (.seq (.reg [zL 62 2 5,zs 2 4 62] [4])
 .ret)))))
def a63:AFun:=⟨2,b63,[.cell 4 2 true]⟩
def b64:AC :=
 .seq (.reg [zc 3 0] [0,1])
 (.seq (.reg [zm 4 0,zl 5 1 1,zb 6 .add 4 5,zm 3 6] [3])
 .ret)
def a64:AFun:=⟨2,b64,[.t 3]⟩
def QjW:AC :=
 .seq (.seq (.reg [zm 10 6,zL 11 2 2,zo 12 (.call 54 [.t 11]),zb 13 .leq 10 12] [1,2,5,6,13])
 (.cond (.t 13)
 .skip
 (.exit 0)))
 (.seq (.block 1 (.seq (.reg [zL 16 2 2,zm 17 6,zo 18 (.call 62 [.t 16,.t 17]),zm 7 18] [1,2,5,6,7])
 (.seq (.reg [zm 19 7,zk 20 .neq 19 0] [1,2,5,6,7,20])
 (.cond (.t 20)
 (.reg [zm 21 5,zm 22 6,zm 23 1,zb 24 .sub 22 23,zm 25 7,zo 26 (.bld [.int .i64 0,.int .i64 0] [(0,1,.t 24),(1,1,.t 25)]),zo 27 (.bsl 2 [.int .i64 0,.int .i64 0] 1 [(0,.t 26)]),zo 28 (.app 2 16 [.int .i64 0,.int .i64 0] (.t 21) (.t 27)),zm 5 28] [1,2,5,6])
 .skip))))
 (.reg [zm 14 6,zk 15 .add 14 1,zm 6 15] [1,2,5,6]))
def b65:AC :=
 .seq (.reg [zo 2 (.box (.t 0)),zo 4 (.mv (.k (.sc .nilS)))] [1,2])
 (.seq (.reg [⟨some 5,.mv (.k (.sc .nilS)),none⟩] [1,2,5])
 (.seq (.seq (.reg [zL 8 2 2,zo 9 (.call 53 [.t 8]),zm 6 9] [1,2,5,6])
 (.block 0 (.loop [1,2,5,6] QjW)))
 (.seq (.reg [zm 29 5,zm 4 29] [4])
 .ret)))
def a65:AFun:=⟨2,b65,[.t 4]⟩
def QjV:AC :=
 .seq (.seq (.reg [zm 5 1,zk 6 .neq 5 0] [0,1,6])
 (.cond (.t 6)
 .skip
 (.exit 0)))
 (.block 1 (.regd [(zm 7 1,0,false),(zm 8 0,1,false),(zm 9 1,2,false),(zb 10 .rem 8 9,3,false),(zm 0 7,4,false),(zm 1 10,5,false)] [0,1]))
def b66:AC :=
 .seq (.reg [zc 4 0] [0,1])
 (.seq (.block 0 (.loop [0,1] QjV))
 (.seq (.reg [zm 11 0,zm 12 0,zo 13 (.un .neg (.t 12)),zo 14 (.mm true (.t 11) [.t 13]),zm 4 14] [4])
 .ret))
def a66:AFun:=⟨2,b66,[.t 4]⟩
def QjT:AC :=
 .seq (.reg [zb 82 .lss 81 80] [0,1,6,7,8,9,11,13,61,62,63,79,80,81,82])
 (.seq (.cond (.t 82)
 .skip
 (.exit 2))
 (.seq (.block 3 (.seq (.reg [zm 83 81,zi 84 1 79 81,zl 85 1 84,zm 14 83,zm 15 85] [0,1,6,7,8,9,11,13,14,15,61,62,63,79,80,81])
 (.seq (.regd [(zm 86 13,0,false),(zm 87 14,1,false),(zL 88 2 11,2,false),(zL 89 2 11,3,false),(zL 90 2 11,4,false),(zm 91 7,5,false),(zo 92 (.call 99 [.t 90,.t 91]),6,false),(zm 93 15,7,false),(zo 94 (.call 98 [.t 89,.t 92,.t 93]),8,false),(zo 95 (.call 97 [.t 88,.t 94]),9,true),(zi 96 1 86 87,10,false),(zs 1 96 95,11,true)] [0,1,6,7,8,9,11,13,14,61,62,63,79,80,81])
 (.seq (.reg [zm 97 13,zm 98 14,zi 99 1 97 98,zl 100 1 99,zk 101 .gtr 100 1125899906842624,zm 102 101,zu 103 (.mv (.t 13)) 102,zu 104 (.mv (.t 14)) 102,zu 105 (.idxA 1 (.t 103) (.t 104)) 102,zu 106 (.ld 1 false (.t 105)) 102,zu 107 (.bin .lss (.t 106) (.k (.sc (.int .i64 (-1125899906842624))))) 102,zo 108 (.pick (.t 102) zT (.t 107))] [0,1,6,7,8,9,11,13,61,62,63,79,80,81,108])
 (.cond (.t 108)
 (.exit 1)
 .skip)))))
 (.reg [zk 109 .add 81 1,zm 81 109] [0,1,6,7,8,9,11,13,61,62,63,79,80,81])))
def QjS:AC :=
 .seq (.reg [zb 135 .lss 134 133] [6,13,132,133,134,135])
 (.seq (.cond (.t 135)
 .skip
 (.exit 4))
 (.seq (.block 5 (.seq (.reg [zm 136 134,zi 137 1 132 134,zl 138 1 137,zm 21 136,zm 22 138] [6,13,21,22,132,133,134])
 (.seq (.seq (.reg [zm 139 22,zm 140 22,zo 141 (.un .neg (.t 140)),zo 142 (.mm true (.t 139) [.t 141]),zm 143 6,zo 144 (.bin .quo (zK 1125899906842624) (.t 143)),zb 145 .gtr 142 144] [6,13,21,22,132,133,134,145])
 (.cond (.t 145)
 (.seq (.reg [zo 4 (.mv (.k (.sc .nilS))),zo 5 (.mv zF)] [4,5])
 .ret)
 .skip))
 (.reg [zm 146 13,zm 147 21,zm 148 22,zm 149 6,zb 150 .mul 148 149,zi 151 1 146 147,zs 1 151 150] [6,13,132,133,134]))))
 (.reg [zk 152 .add 134 1,zm 134 152] [6,13,132,133,134])))
def QjU:AC :=
 .seq (.reg [zb 64 .lss 63 62] [0,1,6,7,8,9,61,62,63,64])
 (.seq (.cond (.t 64)
 .skip
 (.exit 0))
 (.seq (.block 1 (.seq (.reg [zi 65 2 61 63,zL 66 2 65,zo 11 (.new [.int .u64 0,.int .u64 0]),zs 2 11 66] [0,1,6,7,8,9,11,61,62,63])
 (.seq (.reg [zL 67 2 11,zm 68 0,zm 69 1,zo 70 (.call 96 [.t 67,.t 68,.t 69]),zm 12 70] [0,1,6,7,8,9,11,12,61,62,63])
 (.seq (.seq (.reg [zm 71 12,zn 72 71,zk 73 .eql 72 1] [0,1,6,7,8,9,11,12,61,62,63,73])
 (.cond (.t 73)
 (.seq (.reg [zm 74 6,zo 75 (.bsl 1 [.int .i64 0] 1 [(0,.t 74)]),zm 4 75,zo 5 (.mv zT)] [4,5])
 .ret)
 .skip))
 (.seq (.reg [zm 76 12,zn 77 76,zo 78 (.mk 1 8 [.int .i64 0] (.t 77) (.t 77)),zm 13 78] [0,1,6,7,8,9,11,12,13,61,62,63])
 (.seq (.seq (.reg [zm 79 12,zn 80 79,zc 81 0] [0,1,6,7,8,9,11,13,61,62,63,79,80,81])
 (.block 2 (.loop [0,1,6,7,8,9,11,13,61,62,63,79,80,81] QjT)))
 (.seq (.reg [zm 110 13,zm 111 13,zo 112 (.call 93 [.t 111]),zo 113 (.call 94 [.t 110,.t 112]),zm 13 113] [0,1,6,7,8,9,13,61,62,63])
 (.seq (.reg [zm 114 13,zo 115 (.call 20 [zK 0,.t 114]),zo 16 (.new [.bool false,.nilS]),zs 2 16 115] [0,1,6,7,8,9,13,16,61,62,63])
 (.seq (.seq (.reg [zL 117 2 8,zL 118 2 16,zo 119 (.call 30 [.t 117,.t 118]),zm 116 119,ze 120 116 0,ze 121 116 1,zo 17 (.new [.bool false,.nilS]),zs 2 17 120,zm 18 121] [0,1,6,7,8,9,13,16,18,61,62,63])
 (.seq (.reg [zm 122 18,zk 123 .neq 122 0] [0,1,6,7,8,9,13,16,61,62,63,123])
 (.cond (.t 123)
 (.exit 1)
 .skip)))
 (.seq (.seq (.reg [zL 125 2 9,zL 126 2 16,zo 127 (.call 30 [.t 125,.t 126]),zm 124 127,ze 128 124 0,ze 129 124 1,zo 19 (.new [.bool false,.nilS]),zs 2 19 128,zm 20 129] [0,1,6,7,8,9,13,20,61,62,63])
 (.seq (.reg [zm 130 20,zk 131 .neq 130 0] [0,1,6,7,8,9,13,61,62,63,131])
 (.cond (.t 131)
 (.exit 1)
 .skip)))
 (.seq (.seq (.reg [zm 132 13,zn 133 132,zc 134 0] [6,13,132,133,134])
 (.block 4 (.loop [6,13,132,133,134] QjS)))
 (.seq (.reg [zm 153 13,zm 4 153,zo 5 (.mv zT)] [4,5])
 .ret))))))))))))
 (.reg [zk 154 .add 63 1,zm 63 154] [0,1,6,7,8,9,61,62,63])))
def b67:AC :=
 .seq (.reg [zo 4 (.mv (.k (.sc .nilS))),zo 5 (.mv zF)] [0,1])
 (.scope (.seq (.reg [zm 23 0,zo 24 (.call 93 [.t 23]),zm 25 1,zo 26 (.call 93 [.t 25]),zo 27 (.call 66 [.t 24,.t 26]),zm 6 27] [0,1,6])
 (.seq (.reg [zm 28 0,zm 29 0,zo 30 (.call 93 [.t 29]),zo 31 (.call 94 [.t 28,.t 30]),zm 32 1,zm 33 1,zo 34 (.call 93 [.t 33]),zo 35 (.call 94 [.t 32,.t 34]),zm 0 31,zm 1 35] [0,1,6])
 (.seq (.regd [(zm 36 0,0,false),(zm 37 0,1,false),(zn 38 37,2,false),(zk 39 .sub 38 1,3,false),(zi 40 1 36 39,4,false),(zl 41 1 40,5,false),(zm 42 1,6,false),(zm 43 1,7,false),(zn 44 43,8,false),(zk 45 .sub 44 1,9,false),(zi 46 1 42 45,10,false),(zl 47 1 46,11,false),(zo 48 (.call 66 [.t 41,.t 47]),12,true),(zm 7 48,13,false)] [0,1,6,7])
 (.seq (.reg [zm 49 0,zn 50 49,zo 51 (.un .neg (.t 50)),zk 52 .quo 51 2,zm 53 0,zo 54 (.call 20 [.t 52,.t 53]),zm 55 1,zn 56 55,zo 57 (.un .neg (.t 56)),zk 58 .quo 57 2,zm 59 1,zo 60 (.call 20 [.t 58,.t 59]),zo 8 (.new [.bool false,.nilS]),zo 9 (.new [.bool false,.nilS]),zs 2 8 54,zs 2 9 60] [0,1,6,7,8,9])
 (.seq .skip
 (.seq (.seq (.reg [zo 61 (.call 95 [zK 8]),zn 62 61,zc 63 0] [0,1,6,7,8,9,61,62,63])
 (.block 0 (.loop [0,1,6,7,8,9,61,62,63] QjU)))
 (.seq (.reg [zo 4 (.mv (.k (.sc .nilS))),zo 5 (.mv zF)] [4,5])
 .ret))))))))
def a67:AFun:=⟨2,b67,[.t 4,.t 5]⟩
def QjR:AC :=
 .seq (.reg [zb 19 .lss 18 17] [1,2,5,17,18,19])
 (.seq (.cond (.t 19)
 .skip
 (.exit 0))
 (.seq (.block 1 (.seq (.reg [zm 20 18,zm 6 20] [1,2,5,6,17,18])
 (.regd [(zm 21 5,0,false),(zm 22 6,1,false),(zL 23 2 2,2,false),(zL 24 2 2,3,false),(zo 25 (.call 53 [.t 24]),4,false),(zm 26 6,5,false),(zm 27 1,6,false),(zb 28 .mul 26 27,7,false),(zb 29 .add 25 28,8,false),(zo 30 (.call 62 [.t 23,.t 29]),9,true),(zi 31 1 21 22,10,false),(zs 1 31 30,11,true)] [1,2,5,17,18])))
 (.reg [zk 32 .add 18 1,zm 18 32] [1,2,5,17,18])))
def b68:AC :=
 .seq (.reg [zo 2 (.box (.t 0)),zo 4 (.mv (.k (.sc .nilS)))] [1,2])
 (.seq (.regd [(zL 7 2 2,0,false),(zo 8 (.call 54 [.t 7]),1,false),(zL 9 2 2,2,false),(zo 10 (.call 53 [.t 9]),3,true),(zb 11 .sub 8 10,4,false),(zm 12 1,5,false),(zb 13 .quo 11 12,6,false),(zk 14 .add 13 1,7,false),(zo 15 (.mk 1 8 [.int .i64 0] (.t 14) (.t 14)),8,true),(zm 5 15,9,false)] [1,2,5])
 (.seq (.seq (.reg [zm 16 5,zn 17 16,zc 18 0] [1,2,5,17,18])
 (.block 0 (.loop [1,2,5,17,18] QjR)))
 (.seq (.reg [zm 33 5,zm 4 33] [4])
 .ret)))
def a68:AFun:=⟨2,b68,[.t 4]⟩
def b69:AC :=
 .seq (.reg [zo 2 (.new [.bool false,.nilS])] [0,2])
 (.seq (.seq (.reg [zm 4 0,zn 5 4] [0,2,5])
 (.block 0 (.seq (.reg [zk 7 .eql 5 0,zm 6 7] [0,2,5,6])
 (.cond (.t 6)
 (.seq (.reg [zo 8 (.bld [.bool false,.nilS] []),zs 2 2 8] [2])
 .ret)
 (.seq (.reg [zk 10 .eql 5 1,zm 9 10] [0,2,9])
 (.cond (.t 9)
 (.seq (.regd [(zm 11 0,0,false),(zo 12 (.idxA 2 (.t 11) (zK 0)),1,false),(zf 13 1 12,2,false),(zl 14 1 13,3,false),(zm 15 0,4,false),(zo 16 (.idxA 2 (.t 15) (zK 0)),5,false),(zf 17 0 16,6,false),(zl 18 1 17,7,false),(zo 19 (.call 100 [.t 14,.t 18]),8,true),(zs 2 2 19,9,true)] [2])
 .ret)
 .skip))))))
 (.seq (.reg [zm 20 0,zn 21 20,zk 22 .quo 21 2,zm 3 22] [0,2,3])
 (.seq (.regd [(zm 23 0,0,false),(zm 24 3,1,false),(zo 25 (.sl 2 (.t 23) none (some (.t 24))),2,false),(zo 26 (.call 69 [.t 25]),3,false),(zm 27 0,4,false),(zm 28 3,5,false),(zo 29 (.sl 2 (.t 27) (some (.t 28)) none),6,false),(zo 30 (.call 69 [.t 29]),7,true),(zo 31 (.call 21 [.t 26,.t 30]),8,true),(zs 2 2 31,9,true)] [2])
 .ret)))
def a69:AFun:=⟨1,b69,[.cell 2 2 true]⟩
def QjQ:AC :=
 .seq (.reg [zb 19 .lss 18 17] [3,4,6,16,17,18,19])
 (.seq (.cond (.t 19)
 .skip
 (.exit 0))
 (.seq (.block 1 (.seq (.reg [zi 20 2 16 18,zL 21 2 20,zo 8 (.new [.int .i64 0,.int .i64 0]),zs 2 8 21] [3,4,6,8,16,17,18])
 (.seq (.reg [zf 22 0 8,zl 23 1 22,zf 24 0 3,zl 25 1 24,zb 26 .sub 23 25,zm 9 26] [3,4,6,8,9,16,17,18])
 (.seq (.seq (.reg [zf 27 1 8,zl 28 1 27,zf 29 1 3,zl 30 1 29,zb 31 .rem 28 30,zk 32 .neq 31 0,zm 33 32,zu 34 (.mv (.t 9)) 33,zu 35 (.call 50 [.t 34,zK 1048576]) 33,zu 36 (.un .not (.t 35)) 33,zo 37 (.pick (.t 33) zT (.t 36))] [3,4,6,8,9,16,17,18,37])
 (.cond (.t 37)
 (.seq (.reg [zo 38 (.bld [.bool false,.nilS] []),zs 2 4 38,zc 5 10] [4,5])
 .ret)
 .skip))
 (.regd [(zf 39 1 6,0,false),(zl 40 1 39,1,false),(zm 41 9,2,false),(zf 42 1 8,3,false),(zl 43 1 42,4,false),(zf 44 1 3,5,false),(zl 45 1 44,6,false),(zb 46 .quo 43 45,7,false),(zo 47 (.bld [.int .i64 0,.int .i64 0] [(0,1,.t 41),(1,1,.t 46)]),8,false),(zo 48 (.bsl 2 [.int .i64 0,.int .i64 0] 1 [(0,.t 47)]),9,false),(zo 49 (.app 2 16 [.int .i64 0,.int .i64 0] (.t 40) (.t 48)),10,true),(zf 50 1 6,11,false),(zs 1 50 49,12,true)] [3,4,6,16,17,18])))))
 (.reg [zk 51 .add 18 1,zm 18 51] [3,4,6,16,17,18])))
def b70:AC :=
 .seq (.reg [zo 2 (.box (.t 0)),zo 3 (.box (.t 1)),zo 4 (.new [.bool false,.nilS]),zc 5 0] [2,3,4])
 (.seq (.reg [zf 10 1 2,zl 11 1 10,zn 12 11,zo 13 (.mk 2 16 [.int .i64 0,.int .i64 0] (zK 0) (.t 12)),zo 14 (.bld [.bool false,.nilS] [(1,1,.t 13)]),zo 6 (.new [.bool false,.nilS]),zs 2 6 14] [2,3,4,6])
 (.seq (.seq (.reg [zf 15 1 2,zl 16 1 15,zn 17 16,zc 18 0] [3,4,6,16,17,18])
 (.block 0 (.loop [3,4,6,16,17,18] QjQ)))
 (.seq (.reg [zL 52 2 6,zs 2 4 52,zc 5 0] [4,5])
 .ret)))
def a70:AFun:=⟨2,b70,[.cell 4 2 true,.t 5]⟩
def b71:AC :=
 .seq (.reg [zo 2 (.new [.int .u64 0,.int .u64 0])] [0,2])
 (.seq (.reg [zm 3 0,zo 4 (.bin .shr (.t 3) (.k (.sc (.int .u64 63)))),zo 5 (.conv .u64 (.t 4)),zm 6 0,zo 7 (.conv .u64 (.t 6)),zo 8 (.bld [.int .u64 0,.int .u64 0] [(0,1,.t 5),(1,1,.t 7)]),zs 2 2 8] [2])
 .ret)
def a71:AFun:=⟨1,b71,[.cell 2 2 true]⟩
def b72:AC :=
 .seq (.reg [zo 1 (.box (.t 0)),zo 2 (.mv zF)] [1])
 (.seq (.reg [zf 3 0 1,zl 4 1 3,zo 5 (.bin .eql (.t 4) (.k (.sc (.int .u64 0)))),zm 6 5,zt 7 (.fldA 1 (.t 1)) 6,zt 8 (.ld 1 false (.t 7)) 6,zt 9 (.bin .eql (.t 8) (.k (.sc (.int .u64 0)))) 6,zo 10 (.pick (.t 6) (.t 9) zF),zm 2 10] [2])
 .ret)
def a72:AFun:=⟨1,b72,[.t 2]⟩
def b73:AC :=
 .seq (.reg [zo 2 (.box (.t 0)),zc 4 0,zo 5 (.mv zF)] [1,2])
 (.seq (.reg [zL 12 2 2,zo 13 (.call 88 [.t 12]),zm 11 13,ze 14 11 0,ze 15 11 1,zo 6 (.new [.int .u64 0,.int .u64 0]),zs 2 6 14,zm 7 15] [1,6,7])
 (.seq (.reg [zm 16 1,zo 17 (.call 101 [.t 16]),zm 8 17] [1,6,7,8])
 (.seq (.seq (.reg [zf 18 0 6,zl 19 1 18,zm 20 8,zb 21 .geq 19 20] [1,6,7,8,21])
 (.cond (.t 21)
 (.seq (.reg [zc 4 0,zo 5 (.mv zF)] [4,5])
 .ret)
 .skip))
 (.seq (.reg [zf 23 0 6,zl 24 1 23,zf 25 1 6,zl 26 1 25,zm 27 8,zo 28 (.call 102 [.t 24,.t 26,.t 27]),zm 22 28,ze 29 22 0,ze 30 22 1,zm 9 29,zm 10 30] [1,7,9,10])
 (.seq (.seq (.reg [zm 31 10,zo 32 (.bin .neq (.t 31) (.k (.sc (.int .u64 0)))),zm 33 32,zu 34 (.mv (.t 9)) 33,zu 35 (.bin .gtr (.t 34) (.k (.sc (.int .u64 1125899906842624)))) 33,zo 36 (.pick (.t 33) zT (.t 35))] [1,7,9,36])
 (.cond (.t 36)
 (.seq (.reg [zc 4 0,zo 5 (.mv zF)] [4,5])
 .ret)
 .skip))
 (.seq (.seq (.reg [zm 37 7,zm 38 1,zk 39 .lss 38 0,zo 40 (.beq true (.t 37) (.t 39))] [9,40])
 (.cond (.t 40)
 (.seq (.reg [zm 41 9,zo 42 (.conv .i64 (.t 41)),zo 43 (.un .neg (.t 42)),zm 4 43,zo 5 (.mv zT)] [4,5])
 .ret)
 .skip))
 (.seq (.reg [zm 44 9,zo 45 (.conv .i64 (.t 44)),zm 4 45,zo 5 (.mv zT)] [4,5])
 .ret)))))))
def a73:AFun:=⟨2,b73,[.t 4,.t 5]⟩
def b74:AC :=
 .seq (.reg [zo 4 (.new [.int .u64 0,.int .u64 0])] [0,1,4])
 (.seq (.reg [zm 9 0,zo 10 (.call 101 [.t 9]),zm 11 1,zo 12 (.call 101 [.t 11]),zo 13 (.call 103 [.t 10,.t 12]),zm 8 13,ze 14 8 0,ze 15 8 1,zm 5 14,zm 6 15] [0,1,4,5,6])
 (.seq (.reg [zm 16 5,zm 17 6,zo 18 (.bld [.int .u64 0,.int .u64 0] [(0,1,.t 16),(1,1,.t 17)]),zo 7 (.new [.int .u64 0,.int .u64 0]),zs 2 7 18] [0,1,4,7])
 (.seq (.seq (.reg [zm 19 0,zk 20 .lss 19 0,zm 21 1,zk 22 .lss 21 0,zo 23 (.beq true (.t 20) (.t 22))] [4,7,23])
 (.cond (.t 23)
 (.seq (.reg [zL 24 2 7,zo 25 (.call 104 [.t 24]),zs 2 4 25] [4])
 .ret)
 .skip))
 (.seq (.reg [zL 26 2 7,zs 2 4 26] [4])
 .ret))))
def a74:AFun:=⟨2,b74,[.cell 4 2 true]⟩
def b75L0:AC :=
 .seq (.reg [zb 9 .lss 8 7] [0,1,7,8,9])
 (.seq (.cond (.t 9)
 .skip
 (.exit 0))
 (.seq (.block 1 (.seq (.reg [zm 10 8,zm 5 10] [0,1,5,7,8])
 (.seq (.reg [zm 11 1,zm 12 0,zm 13 5,zi 14 2 12 13,zL 15 2 14,zo 16 (.callv (.t 11) [.t 15])] [0,1,5,7,8,16])
 (.cond (.t 16)
 (.seq (.reg [zm 17 5,zm 4 17] [4])
 .ret)
 .skip))))
 (.reg [zk 18 .add 8 1,zm 8 18] [0,1,7,8])))
def b75:AC :=
 .seq (.reg [zc 4 0] [0,1])
 (.seq (.seq (.reg [zm 6 0,zn 7 6,zc 8 0] [0,1,7,8])
 (.block 0 (.loop [0,1,7,8] b75L0)))
 (.seq (.reg [⟨some 4,.mv (.k (.sc (.int .i64 (-1)))),none⟩] [4])
 .ret))
def a75:AFun:=⟨2,b75,[.t 4]⟩
def b77L1:AC :=
 .seq (.reg [zb 40 .lss 39 38] [0,1,7,9,10,22,23,24,37,38,39,40])
 (.seq (.cond (.t 40)
 .skip
 (.exit 2))
 (.seq (.block 3 (.seq (.reg [zm 41 39,zi 42 1 37 39,zl 43 1 42,zm 11 41,zm 12 43] [0,1,7,9,10,11,12,22,23,24,37,38,39])
 (.seq (.reg [zm 44 7,zm 45 11,zL 46 2 9,zm 47 12,zo 48 (.call 97 [.t 46,.t 47]),zi 49 1 44 45,zs 1 49 48] [0,1,7,9,10,11,22,23,24,37,38,39])
 (.seq (.reg [zm 50 7,zm 51 11,zi 52 1 50 51,zl 53 1 52,zk 54 .gtr 53 1125899906842624,zm 55 54,zu 56 (.mv (.t 7)) 55,zu 57 (.mv (.t 11)) 55,zu 58 (.idxA 1 (.t 56) (.t 57)) 55,zu 59 (.ld 1 false (.t 58)) 55,zu 60 (.bin .lss (.t 59) (.k (.sc (.int .i64 (-1125899906842624))))) 55,zo 61 (.pick (.t 55) zT (.t 60))] [0,1,7,9,10,22,23,24,37,38,39,61])
 (.cond (.t 61)
 (.seq (.reg [zo 4 (.mv (.k (.sc .nilS))),zo 5 (.mv zF)] [4,5])
 .ret)
 .skip)))))
 (.reg [zk 62 .add 39 1,zm 39 62] [0,1,7,9,10,22,23,24,37,38,39])))
def b77L2:AC :=
 .seq (.reg [zb 66 .lss 65 64] [0,1,7,9,22,23,24,63,64,65,66])
 (.seq (.cond (.t 66)
 .skip
 (.exit 4))
 (.seq (.block 5 (.seq (.reg [zm 67 65,zi 68 1 63 65,zl 69 1 68,zm 13 67,zm 14 69] [0,1,7,9,13,14,22,23,24,63,64,65])
 (.seq (.regd [(zL 70 2 9,0,false),(zm 71 7,1,false),(zm 72 13,2,false),(zi 73 1 71 72,3,false),(zl 74 1 73,4,false),(zo 75 (.call 99 [.t 70,.t 74]),5,true),(zm 76 14,6,false),(zb 77 .neq 75 76,7,false)] [0,1,7,9,22,23,24,63,64,65,77])
 (.cond (.t 77)
 (.seq (.reg [zo 4 (.mv (.k (.sc .nilS))),zo 5 (.mv zF)] [4,5])
 .ret)
 .skip))))
 (.reg [zk 78 .add 65 1,zm 65 78] [0,1,7,9,22,23,24,63,64,65])))
def b77L0:AC :=
 .seq (.reg [zb 25 .lss 24 23] [0,1,7,22,23,24,25])
 (.seq (.cond (.t 25)
 .skip
 (.exit 0))
 (.seq (.block 1 (.seq (.reg [zi 26 2 22 24,zL 27 2 26,zo 9 (.new [.int .u64 0,.int .u64 0]),zs 2 9 27] [0,1,7,9,22,23,24])
 (.seq (.reg [zL 28 2 9,zm 29 0,zm 30 1,zo 31 (.call 108 [.t 28,.t 29,.t 30]),zm 10 31] [0,1,7,9,10,22,23,24])
 (.seq (.seq (.reg [zm 32 7,zo 33 (.isnil 1 false (.t 32))] [0,1,7,9,10,22,23,24,33])
 (.cond (.t 33)
 (.seq (.reg [zm 34 10,zn 35 34,zo 36 (.mk 1 8 [.int .i64 0] (.t 35) (.t 35)),zm 7 36] [0,1,7,9,10,22,23,24])
 (.seq (.reg [zm 37 10,zn 38 37,zc 39 0] [0,1,7,9,10,22,23,24,37,38,39])
 (.block 2 (.loop [0,1,7,9,10,22,23,24,37,38,39] b77L1))))
 .skip))
 (.seq (.reg [zm 63 10,zn 64 63,zc 65 0] [0,1,7,9,22,23,24,63,64,65])
 (.block 4 (.loop [0,1,7,9,22,23,24,63,64,65] b77L2)))))))
 (.reg [zk 79 .add 24 1,zm 24 79] [0,1,7,22,23,24])))
def b77:AC :=
 .seq (.reg [zo 4 (.mv (.k (.sc .nilS))),zo 5 (.mv zF)] [0,1])
 (.seq (.reg [zm 15 0,zo 16 (.call 107 [.t 15]),zo 17 (.mm true (.t 16) [zK 50]),zk 18 .add 17 1,zk 19 .quo 18 60,zk 20 .add 19 1,zm 6 20] [0,1,6])
 (.seq (.reg [⟨some 7,.mv (.k (.sc .nilS)),none⟩] [0,1,6,7])
 (.seq (.seq (.reg [zm 21 6,zo 22 (.call 95 [.t 21]),zn 23 22,zc 24 0] [0,1,7,22,23,24])
 (.block 0 (.loop [0,1,7,22,23,24] b77L0)))
 (.seq (.reg [zm 80 7,zm 4 80,zo 5 (.mv zT)] [4,5])
 .ret))))
def a77:AFun:=⟨2,b77,[.t 4,.t 5]⟩
def b83:AC :=
 .seq (.reg [zl 10 1 3,zm 11 1,zm 12 2,zo 13 (.callv (.t 10) [.t 11,.t 12]),zm 9 13] [0,4,5,9])
 (.seq (.reg [zl 14 1 4,zm 15 14,zt 16 (.mv (.t 9)) 15,zt 17 (.call 50 [.t 16,zK 1125899906842624]) 15,zo 18 (.pick (.t 15) (.t 17) zF),zs 1 4 18] [0,5,9])
 (.seq (.reg [zm 19 9,zk 20 .neq 19 0] [0,5,9,20])
 (.cond (.t 20)
 (.reg [zf 21 1 5,zl 22 1 21,zm 23 0,zm 24 9,zo 25 (.bld [.int .i64 0,.int .i64 0] [(0,1,.t 23),(1,1,.t 24)]),zo 26 (.bsl 2 [.int .i64 0,.int .i64 0] 1 [(0,.t 25)]),zo 27 (.app 2 16 [.int .i64 0,.int .i64 0] (.t 22) (.t 26)),zf 28 1 5,zs 1 28 27] [])
 .skip)))
def a83:AFun:=⟨6,b83,[]⟩
def b88:AC :=
 .seq (.reg [zo 1 (.box (.t 0)),zo 2 (.new [.int .u64 0,.int .u64 0]),zo 3 (.mv zF)] [1,2])
 (.seq (.seq (.reg [zf 4 0 1,zl 5 1 4,zo 6 (.bin .shr (.t 5) (.k (.sc (.int .u64 63)))),zo 7 (.bin .eql (.t 6) (.k (.sc (.int .u64 1))))] [1,2,7])
 (.cond (.t 7)
 (.seq (.reg [zL 8 2 1,zo 9 (.call 104 [.t 8]),zs 2 2 9,zo 3 (.mv zT)] [2,3])
 .ret)
 .skip))
 (.seq (.reg [zL 10 2 1,zs 2 2 10,zo 3 (.mv zF)] [2,3])
 .ret))
def a88:AFun:=⟨1,b88,[.cell 2 2 true,.t 3]⟩
def QjP:AC :=
 .seq (.seq (.reg [zm 15 9,zm 16 10,zb 17 .lss 15 16] [0,1,2,8,9,10,17])
 (.cond (.t 17)
 .skip
 (.exit 0)))
 (.block 1 (.seq (.reg [zm 18 9,zm 19 10,zb 20 .add 18 19,zo 21 (.conv .u64 (.t 20)),zo 22 (.bin .shr (.t 21) (.k (.sc (.int .u64 1)))),zo 23 (.conv .i64 (.t 22)),zm 11 23] [0,1,2,8,9,10,11])
 (.seq (.reg [zm 24 2,zm 25 0,zm 26 11,zi 27 2 25 26,zL 28 2 27,zm 29 1,zo 30 (.callv (.t 24) [.t 28,.t 29]),zk 31 .lss 30 0] [0,1,2,8,9,10,11,31])
 (.cond (.t 31)
 (.reg [zm 32 11,zk 33 .add 32 1,zm 9 33] [0,1,2,8,9,10])
 (.reg [zm 34 11,zm 10 34] [0,1,2,8,9,10])))))
def b89:AC :=
 .seq (.reg [zc 6 0,zo 7 (.mv zF)] [0,1,2])
 (.seq (.reg [zm 12 0,zn 13 12,zm 8 13] [0,1,2,8])
 (.seq (.reg [zm 14 8,zc 9 0,zm 10 14] [0,1,2,8,9,10])
 (.seq (.block 0 (.loop [0,1,2,8,9,10] QjP))
 (.seq (.reg [zm 35 9,zm 36 9,zm 37 8,zb 38 .lss 36 37,zm 39 38,zt 40 (.mv (.t 2)) 39,zt 41 (.mv (.t 0)) 39,zt 42 (.mv (.t 9)) 39,zt 43 (.idxA 2 (.t 41) (.t 42)) 39,zt 44 (.ld 2 true (.t 43)) 39,zt 45 (.mv (.t 1)) 39,zt 46 (.callv (.t 40) [.t 44,.t 45]) 39,zt 47 (.bin .eql (.t 46) (zK 0)) 39,zo 48 (.pick (.t 39) (.t 47) zF),zm 6 35,zm 7 48] [6,7])
 .ret))))
def a89:AFun:=⟨3,b89,[.t 6,.t 7]⟩
def b90:AC :=
 .seq (.reg [zo 2 (.box (.t 0)),zc 4 0] [1,2])
 (.seq (.reg [zf 5 0 2,zl 6 1 5,zm 7 1,zo 8 (.call 91 [.t 6,.t 7]),zm 4 8] [4])
 .ret)
def a90:AFun:=⟨2,b90,[.t 4]⟩
def b91:AC :=
 .seq (.reg [zc 4 0] [0,1])
 (.seq (.reg [zm 7 0,zo 8 (.call 117 [.t 7]),zm 5 8] [0,1,5])
 (.seq (.reg [zm 9 1,zo 10 (.call 117 [.t 9]),zm 6 10] [0,1,5,6])
 (.seq (.seq (.reg [zm 11 5] [0,1,6,11])
 (.cond (.t 11)
 (.seq (.seq (.reg [zm 12 6] [12])
 (.cond (.t 12)
 (.seq (.reg [zc 4 0] [4])
 .ret)
 .skip))
 (.seq (.reg [⟨some 4,.mv (.k (.sc (.int .i64 (-1)))),none⟩] [4])
 .ret))
 .skip))
 (.seq (.seq (.reg [zm 13 6] [0,1,13])
 (.cond (.t 13)
 (.seq (.reg [zc 4 1] [4])
 .ret)
 .skip))
 (.seq (.seq (.reg [zm 14 0,zm 15 1,zb 16 .lss 14 15] [0,1,16])
 (.cond (.t 16)
 (.seq (.reg [⟨some 4,.mv (.k (.sc (.int .i64 (-1)))),none⟩] [4])
 .ret)
 .skip))
 (.seq (.seq (.reg [zm 17 0,zm 18 1,zb 19 .gtr 17 18] [19])
 (.cond (.t 19)
 (.seq (.reg [zc 4 1] [4])
 .ret)
 .skip))
 (.seq (.reg [zc 4 0] [4])
 .ret)))))))
def a91:AFun:=⟨2,b91,[.t 4]⟩
def QjO:AC :=
 .seq (.seq (.reg [zm 7 2,zm 8 3,zb 9 .lss 7 8] [0,2,3,9])
 (.cond (.t 9)
 .skip
 (.exit 0)))
 (.seq (.block 1 (.regd [(zm 14 0,0,false),(zm 15 2,1,false),(zm 16 0,2,false),(zm 17 3,3,false),(zm 18 0,4,false),(zm 19 3,5,false),(zi 20 2 18 19,6,false),(zL 21 2 20,7,false),(zm 22 0,8,false),(zm 23 2,9,false),(zi 24 2 22 23,10,false),(zL 25 2 24,11,false),(zi 26 2 14 15,12,false),(zs 2 26 21,13,true),(zi 27 2 16 17,14,false),(zs 2 27 25,15,true)] [0,2,3]))
 (.reg [zm 10 2,zk 11 .add 10 1,zm 12 3,zk 13 .sub 12 1,zm 2 11,zm 3 13] [0,2,3]))
def b92:AC :=
 .seq (.reg [zm 4 0,zn 5 4,zk 6 .sub 5 1,zc 2 0,zm 3 6] [0,2,3])
 (.block 0 (.loop [0,2,3] QjO))
def a92:AFun:=⟨1,b92,[]⟩
def QjN:AC :=
 .seq (.reg [zb 9 .lss 8 7] [3,6,7,8,9])
 (.seq (.cond (.t 9)
 .skip
 (.exit 0))
 (.seq (.block 1 (.seq (.reg [zi 10 1 6 8,zl 11 1 10,zm 5 11] [3,5,6,7,8])
 (.reg [zm 12 3,zm 13 5,zo 14 (.call 66 [.t 12,.t 13]),zm 3 14] [3,6,7,8])))
 (.reg [zk 15 .add 8 1,zm 8 15] [3,6,7,8])))
def b93:AC :=
 .seq (.reg [zc 2 0] [0])
 (.seq (.reg [zc 3 0] [0,3])
 (.seq (.seq (.reg [zm 6 0,zn 7 6,zc 8 0] [3,6,7,8])
 (.block 0 (.loop [3,6,7,8] QjN)))
 (.seq (.reg [zm 16 3,zm 2 16] [2])
 .ret)))
def a93:AFun:=⟨1,b93,[.t 2]⟩
def QjM:AC :=
 .seq (.reg [zb 14 .lss 13 12] [1,5,11,12,13,14])
 (.seq (.cond (.t 14)
 .skip
 (.exit 0))
 (.seq (.block 1 (.seq (.reg [zm 15 13,zi 16 1 11 13,zl 17 1 16,zm 6 15,zm 7 17] [1,5,6,7,11,12,13])
 (.reg [zm 18 5,zm 19 6,zm 20 7,zm 21 1,zb 22 .quo 20 21,zi 23 1 18 19,zs 1 23 22] [1,5,11,12,13])))
 (.reg [zk 24 .add 13 1,zm 13 24] [1,5,11,12,13])))
def b94:AC :=
 .seq (.reg [zo 4 (.mv (.k (.sc .nilS)))] [0,1])
 (.seq (.reg [zm 8 0,zn 9 8,zo 10 (.mk 1 8 [.int .i64 0] (.t 9) (.t 9)),zm 5 10] [0,1,5])
 (.seq (.seq (.reg [zm 11 0,zn 12 11,zc 13 0] [1,5,11,12,13])
 (.block 0 (.loop [1,5,11,12,13] QjM)))
 (.seq (.reg [zm 25 5,zm 4 25] [4])
 .ret)))
def a94:AFun:=⟨2,b94,[.t 4]⟩
def QjK:AC :=
 .seq (.block 3 (.seq (.reg [zL 22 2 5,zm 23 6,zm 24 4,zo 25 (.bin .sub (.t 24) (.k (.sc (.int .u64 1)))),zo 26 (.bin .shr (.t 25) (.k (.sc (.int .u64 17)))),zo 27 (.call 119 [.t 22,.t 23,.t 26]),zf 28 1 5,zs 1 28 27] [0,3,4,5,6])
 (.seq (.reg [zL 29 2 5,zf 30 1 5,zl 31 1 30,zo 32 (.call 119 [.t 29,.t 31,(.k (.sc (.int .u64 65536)))]),zm 33 4,zo 34 (.bin .sub (.t 33) (.k (.sc (.int .u64 1)))),zb 35 .eql 32 34] [0,3,4,5,6,35])
 (.cond (.t 35)
 (.exit 2)
 .skip))))
 (.reg [zm 20 6,zo 21 (.bin .add (.t 20) (.k (.sc (.int .u64 1)))),zm 6 21] [0,3,4,5,6])
def QjL:AC :=
 .seq (.seq (.reg [zm 9 3,zn 10 9,zm 11 0,zb 12 .lss 10 11] [0,3,4,12])
 (.cond (.t 12)
 .skip
 (.exit 0)))
 (.seq (.block 1 (.seq (.seq (.reg [zm 15 4,zo 16 (.call 118 [.t 15]),zo 17 (.un .not (.t 16))] [0,3,4,17])
 (.cond (.t 17)
 (.exit 1)
 .skip))
 (.seq (.reg [zm 18 4,zo 19 (.bld [.int .u64 0,.int .u64 0] [(0,1,.t 18)]),zo 5 (.new [.int .u64 0,.int .u64 0]),zs 2 5 19] [0,3,4,5])
 (.seq (.seq (.reg [zo 6 (.mv (.k (.sc (.int .u64 2))))] [0,3,4,5,6])
 (.block 2 (.loop [0,3,4,5,6] QjK)))
 (.reg [zm 36 3,zL 37 2 5,zo 38 (.bsl 2 [.int .u64 0,.int .u64 0] 1 [(0,.t 37)]),zo 39 (.app 2 16 [.int .u64 0,.int .u64 0] (.t 36) (.t 38)),zm 3 39] [0,3,4])))))
 (.reg [zm 13 4,zo 14 (.bin .sub (.t 13) (.k (.sc (.int .u64 131072)))),zm 4 14] [0,3,4]))
def b95:AC :=
 .seq (.reg [zo 2 (.mv (.k (.sc .nilS)))] [0])
 (.seq (.reg [zm 7 0,zo 8 (.mk 2 16 [.int .u64 0,.int .u64 0] (zK 0) (.t 7)),zm 3 8] [0,3])
 (.seq (.seq (.reg [zo 4 (.mv (.k (.sc (.int .u64 2305843009213562881))))] [0,3,4])
 (.block 0 (.loop [0,3,4] QjL)))
 (.seq (.reg [zm 40 3,zm 2 40] [2])
 .ret)))
def a95:AFun:=⟨1,b95,[.t 2]⟩
def QjH:AC :=
 .seq (.reg [zb 58 .lss 57 56] [3,8,9,10,11,12,55,56,57,58])
 (.seq (.cond (.t 58)
 .skip
 (.exit 4))
 (.seq (.block 5 (.seq (.reg [zm 59 57,zi 60 1 55 57,zl 61 1 60,zm 13 59,zm 14 61] [3,8,9,10,11,12,13,14,55,56,57])
 (.regd [(zm 62 8,0,false),(zm 63 11,1,false),(zm 64 13,2,false),(zb 65 .add 63 64,3,false),(zL 66 2 3,4,false),(zm 67 8,5,false),(zm 68 11,6,false),(zm 69 13,7,false),(zb 70 .add 68 69,8,false),(zi 71 1 67 70,9,false),(zl 72 1 71,10,false),(zL 73 2 3,11,false),(zm 74 12,12,false),(zm 75 14,13,false),(zo 76 (.call 98 [.t 73,.t 74,.t 75]),14,false),(zo 77 (.call 122 [.t 66,.t 72,.t 76]),15,true),(zi 78 1 62 65,16,false),(zs 1 78 77,17,true)] [3,8,9,10,11,12,55,56,57])))
 (.reg [zk 79 .add 57 1,zm 57 79] [3,8,9,10,11,12,55,56,57])))
def QjG:AC :=
 .seq (.seq (.reg [zm 80 8,zn 81 80,zk 82 .gtr 81 0,zm 83 82,zt 84 (.mv (.t 8)) 83,zt 85 (.mv (.t 8)) 83,zt 86 (.len false (.t 85)) 83,zt 87 (.bin .sub (.t 86) (zK 1)) 83,zt 88 (.idxA 1 (.t 84) (.t 87)) 83,zt 89 (.ld 1 false (.t 88)) 83,zt 90 (.bin .eql (.t 89) (.k (.sc (.int .u64 0)))) 83,zo 91 (.pick (.t 83) (.t 90) zF)] [3,8,9,10,91])
 (.cond (.t 91)
 .skip
 (.exit 6)))
 (.block 7 (.reg [zm 92 8,zm 93 8,zn 94 93,zk 95 .sub 94 1,zo 96 (.sl1 (.t 92) none (some (.t 95))),zm 8 96] [3,8,9,10]))
def QjI:AC :=
 .seq (.seq (.reg [zm 36 8,zn 37 36,zm 38 9,zn 39 38,zb 40 .geq 37 39] [3,8,9,10,40])
 (.cond (.t 40)
 .skip
 (.exit 2)))
 (.block 3 (.seq (.reg [zm 41 8,zn 42 41,zm 43 9,zn 44 43,zb 45 .sub 42 44,zm 11 45] [3,8,9,10,11])
 (.seq (.regd [(zL 46 2 3,0,false),(zm 47 8,1,false),(zm 48 8,2,false),(zn 49 48,3,false),(zk 50 .sub 49 1,4,false),(zi 51 1 47 50,5,false),(zl 52 1 51,6,false),(zm 53 10,7,false),(zo 54 (.call 98 [.t 46,.t 52,.t 53]),8,true),(zm 12 54,9,false)] [3,8,9,10,11,12])
 (.seq (.seq (.reg [zm 55 9,zn 56 55,zc 57 0] [3,8,9,10,11,12,55,56,57])
 (.block 4 (.loop [3,8,9,10,11,12,55,56,57] QjH)))
 (.block 6 (.loop [3,8,9,10] QjG))))))
def QjJ:AC :=
 .seq (.seq (.reg [zm 25 9,zn 26 25,zk 27 .gtr 26 0] [3,8,9,27])
 (.cond (.t 27)
 .skip
 (.exit 0)))
 (.block 1 (.seq (.regd [(zL 28 2 3,0,false),(zm 29 9,1,false),(zm 30 9,2,false),(zn 31 30,3,false),(zk 32 .sub 31 1,4,false),(zi 33 1 29 32,5,false),(zl 34 1 33,6,false),(zo 35 (.call 121 [.t 28,.t 34]),7,true),(zm 10 35,8,false)] [3,8,9,10])
 (.seq (.block 2 (.loop [3,8,9,10] QjI))
 (.reg [zm 97 9,zm 98 8,zm 8 97,zm 9 98] [3,8,9]))))
def QjF:AC :=
 .seq (.reg [zb 112 .lss 111 110] [3,15,16,110,111,112])
 (.seq (.cond (.t 112)
 .skip
 (.exit 8))
 (.seq (.block 9 (.seq (.reg [zm 113 111,zm 17 113] [3,15,16,17,110,111])
 (.regd [(zm 114 15,0,false),(zm 115 17,1,false),(zL 116 2 3,2,false),(zm 117 15,3,false),(zm 118 17,4,false),(zi 119 1 117 118,5,false),(zl 120 1 119,6,false),(zm 121 16,7,false),(zo 122 (.call 98 [.t 116,.t 120,.t 121]),8,true),(zi 123 1 114 115,9,false),(zs 1 123 122,10,true)] [3,15,16,110,111])))
 (.reg [zk 124 .add 111 1,zm 111 124] [3,15,16,110,111])))
def b96:AC :=
 .seq (.reg [zo 3 (.box (.t 0)),zo 6 (.mv (.k (.sc .nilS)))] [1,2,3])
 (.seq (.reg [zo 18 (.mkf 120 [.t 3]),zm 7 18] [1,2,3,7])
 (.seq (.reg [zm 19 7,zm 20 1,zo 21 (.callv (.t 19) [.t 20]),zm 22 7,zm 23 2,zo 24 (.callv (.t 22) [.t 23]),zm 8 21,zm 9 24] [3,8,9])
 (.seq (.block 0 (.loop [3,8,9] QjJ))
 (.seq (.reg [zm 99 8,zo 100 (.call 123 [.t 99]),zm 15 100] [3,8,15])
 (.seq (.regd [(zL 101 2 3,0,false),(zm 102 8,1,false),(zm 103 8,2,false),(zn 104 103,3,false),(zk 105 .sub 104 1,4,false),(zi 106 1 102 105,5,false),(zl 107 1 106,6,false),(zo 108 (.call 121 [.t 101,.t 107]),7,true),(zm 16 108,8,false)] [3,15,16])
 (.seq (.seq (.reg [zm 109 15,zn 110 109,zc 111 0] [3,15,16,110,111])
 (.block 8 (.loop [3,15,16,110,111] QjF)))
 (.seq (.reg [zm 125 15,zm 6 125] [6])
 .ret)))))))
def a96:AFun:=⟨3,b96,[.t 6]⟩
def b97:AC :=
 .seq (.reg [zo 2 (.box (.t 0)),zc 4 0] [1,2])
 (.seq (.seq (.reg [zm 5 1,zf 6 0 2,zl 7 1 6,zo 8 (.bin .quo (.t 7) (.k (.sc (.int .u64 2)))),zb 9 .gtr 5 8] [1,2,9])
 (.cond (.t 9)
 (.seq (.reg [zf 10 0 2,zl 11 1 10,zm 12 1,zb 13 .sub 11 12,zo 14 (.conv .i64 (.t 13)),zo 15 (.un .neg (.t 14)),zm 4 15] [4])
 .ret)
 .skip))
 (.seq (.reg [zm 16 1,zo 17 (.conv .i64 (.t 16)),zm 4 17] [4])
 .ret))
def a97:AFun:=⟨2,b97,[.t 4]⟩
def b98:AC :=
 .seq (.reg [zo 3 (.box (.t 0)),zo 6 (.mv (.k (.sc (.int .u64 0))))] [1,2,3])
 (.seq (.reg [zm 10 1,zm 11 2,zo 12 (.call 103 [.t 10,.t 11]),zm 9 12,ze 13 9 0,ze 14 9 1,zm 7 13,zm 8 14] [3,7,8])
 (.seq (.reg [zm 15 7,zm 16 8,zf 17 0 3,zl 18 1 17,zo 19 (.call 124 [.t 15,.t 16,.t 18]),zm 6 19] [6])
 .ret))
def a98:AFun:=⟨3,b98,[.t 6]⟩
def b99:AC :=
 .seq (.reg [zo 2 (.box (.t 0)),zo 4 (.mv (.k (.sc (.int .u64 0))))] [1,2])
 (.seq (.seq (.reg [zm 5 1,zk 6 .lss 5 0] [1,2,6])
 (.cond (.t 6)
 (.seq (.reg [zf 7 0 2,zl 8 1 7,zm 9 1,zo 10 (.un .neg (.t 9)),zo 11 (.conv .u64 (.t 10)),zb 12 .sub 8 11,zm 4 12] [4])
 .ret)
 .skip))
 (.seq (.reg [zm 13 1,zo 14 (.conv .u64 (.t 13)),zm 4 14] [4])
 .ret))
def a99:AFun:=⟨2,b99,[.t 4]⟩
def b100:AC :=
 .seq (.reg [zo 4 (.new [.bool false,.nilS])] [0,1,4])
 (.seq (.block 0 (.seq (.reg [zm 6 0,zk 7 .eql 6 0,zm 5 7] [0,1,4,5])
 (.cond (.t 5)
 (.seq (.reg [zo 8 (.bld [.bool false,.nilS] []),zs 2 4 8] [4])
 .ret)
 (.seq (.reg [zm 10 0,zo 11 (.call 50 [.t 10,zK 1125899906842624]),zo 12 (.un .not (.t 11)),zm 13 12,zu 14 (.mv (.t 1)) 13,zu 15 (.call 50 [.t 14,zK 1048576]) 13,zu 16 (.un .not (.t 15)) 13,zo 17 (.pick (.t 13) zT (.t 16)),zm 9 17] [0,1,4,9])
 (.cond (.t 9)
 (.seq (.reg [zo 18 (.bld [.bool false,.nilS] [(0,1,.k (.sc (.bool true)))]),zs 2 4 18] [4])
 .ret)
 .skip)))))
 (.seq (.reg [zm 19 1,zm 20 0,zo 21 (.bld [.int .i64 0,.int .i64 0] [(0,1,.t 19),(1,1,.t 20)]),zo 22 (.bsl 2 [.int .i64 0,.int .i64 0] 1 [(0,.t 21)]),zo 23 (.bld [.bool false,.nilS] [(1,1,.t 22)]),zs 2 4 23] [4])
 .ret))
def Qjg:AFun:=⟨2,b100,[.cell 4 2 true]⟩
def b101:AC :=
 .seq (.reg [zo 2 (.mv (.k (.sc (.int .u64 0))))] [0])
 (.seq (.seq (.reg [zm 3 0,zk 4 .lss 3 0] [0,4])
 (.cond (.t 4)
 (.seq (.reg [zm 5 0,zo 6 (.conv .u64 (.t 5)),zo 7 (.un .neg (.t 6)),zm 2 7] [2])
 .ret)
 .skip))
 (.seq (.reg [zm 8 0,zo 9 (.conv .u64 (.t 8)),zm 2 9] [2])
 .ret))
def a101:AFun:=⟨1,b101,[.t 2]⟩
def Qhs:AC :=
 .seq (.seq (.reg [zm 67 15,zo 68 (.bin .geq (.t 67) (.k (.sc (.int .u64 4294967296)))),zm 69 68,zu 70 (.mv (.t 15)) 69,zu 71 (.mv (.t 10)) 69,zu 72 (.bin .mul (.t 70) (.t 71)) 69,zu 73 (.mv (.t 16)) 69,zu 74 (.bin .mul (.k (.sc (.int .u64 4294967296))) (.t 73)) 69,zu 75 (.mv (.t 13)) 69,zu 76 (.bin .add (.t 74) (.t 75)) 69,zu 77 (.bin .gtr (.t 72) (.t 76)) 69,zo 78 (.pick (.t 69) zT (.t 77))] [2,8,9,10,11,13,14,15,16,78])
 (.cond (.t 78)
 .skip
 (.exit 0)))
 (.block 1 (.seq (.reg [zm 79 15,zo 80 (.bin .sub (.t 79) (.k (.sc (.int .u64 1)))),zm 15 80] [2,8,9,10,11,13,14,15,16])
 (.seq (.reg [zm 81 16,zm 82 9,zb 83 .add 81 82,zm 16 83] [2,8,9,10,11,13,14,15,16])
 (.seq (.reg [zm 84 16,zo 85 (.bin .geq (.t 84) (.k (.sc (.int .u64 4294967296))))] [2,8,9,10,11,13,14,15,16,85])
 (.cond (.t 85)
 (.exit 0)
 .skip)))))
def Qhr:AC :=
 .seq (.seq (.reg [zm 102 18,zo 103 (.bin .geq (.t 102) (.k (.sc (.int .u64 4294967296)))),zm 104 103,zu 105 (.mv (.t 18)) 104,zu 106 (.mv (.t 10)) 104,zu 107 (.bin .mul (.t 105) (.t 106)) 104,zu 108 (.mv (.t 16)) 104,zu 109 (.bin .mul (.k (.sc (.int .u64 4294967296))) (.t 108)) 104,zu 110 (.mv (.t 14)) 104,zu 111 (.bin .add (.t 109) (.t 110)) 104,zu 112 (.bin .gtr (.t 107) (.t 111)) 104,zo 113 (.pick (.t 104) zT (.t 112))] [2,8,9,10,14,15,16,17,18,113])
 (.cond (.t 113)
 .skip
 (.exit 2)))
 (.block 3 (.seq (.reg [zm 114 18,zo 115 (.bin .sub (.t 114) (.k (.sc (.int .u64 1)))),zm 18 115] [2,8,9,10,14,15,16,17,18])
 (.seq (.reg [zm 116 16,zm 117 9,zb 118 .add 116 117,zm 16 118] [2,8,9,10,14,15,16,17,18])
 (.seq (.reg [zm 119 16,zo 120 (.bin .geq (.t 119) (.k (.sc (.int .u64 4294967296))))] [2,8,9,10,14,15,16,17,18,120])
 (.cond (.t 120)
 (.exit 2)
 .skip)))))
def b102:AC :=
 .seq (.reg [zo 6 (.mv (.k (.sc (.int .u64 0)))),zo 7 (.mv (.k (.sc (.int .u64 0))))] [0,1,2])
 (.seq (.seq (.reg [zm 19 2,zo 20 (.bin .eql (.t 19) (.k (.sc (.int .u64 0))))] [0,1,2,20])
 (.cond (.t 20)
 (.reg [zo 21 .bad,⟨none,.bad,none⟩] [0,1,2])
 .skip))
 (.seq (.seq (.reg [zm 22 2,zm 23 0,zb 24 .leq 22 23] [0,1,2,24])
 (.cond (.t 24)
 (.reg [zo 25 .bad,⟨none,.bad,none⟩] [0,1,2])
 .skip))
 (.seq (.seq (.reg [zm 26 0,zo 27 (.bin .eql (.t 26) (.k (.sc (.int .u64 0))))] [0,1,2,27])
 (.cond (.t 27)
 (.seq (.regd [(zm 28 1,0,false),(zm 29 2,1,false),(zb 30 .quo 28 29,2,false),(zm 31 1,3,false),(zm 32 2,4,false),(zb 33 .rem 31 32,5,false),(zm 6 30,6,false),(zm 7 33,7,false)] [6,7])
 .ret)
 .skip))
 (.seq (.reg [zm 34 2,zo 35 (.call 125 [.t 34]),zo 36 (.conv .u64 (.t 35)),zm 8 36] [0,1,2,8])
 (.seq (.reg [zm 37 2,zm 38 8,zb 39 .shl 37 38,zm 2 39] [0,1,2,8])
 (.seq (.reg [zm 40 2,zo 41 (.bin .shr (.t 40) (.k (.sc (.int .u64 32)))),zm 9 41] [0,1,2,8,9])
 (.seq (.reg [zm 42 2,zo 43 (.bin .and (.t 42) (.k (.sc (.int .u64 4294967295)))),zm 10 43] [0,1,2,8,9,10])
 (.seq (.reg [zm 44 0,zm 45 8,zb 46 .shl 44 45,zm 47 1,zm 48 8,zo 49 (.bin .sub (.k (.sc (.int .u64 64))) (.t 48)),zb 50 .shr 47 49,zb 51 .or 46 50,zm 11 51] [1,2,8,9,10,11])
 (.seq (.reg [zm 52 1,zm 53 8,zb 54 .shl 52 53,zm 12 54] [2,8,9,10,11,12])
 (.seq (.reg [zm 55 12,zo 56 (.bin .shr (.t 55) (.k (.sc (.int .u64 32)))),zm 13 56] [2,8,9,10,11,12,13])
 (.seq (.reg [zm 57 12,zo 58 (.bin .and (.t 57) (.k (.sc (.int .u64 4294967295)))),zm 14 58] [2,8,9,10,11,13,14])
 (.seq (.reg [zm 59 11,zm 60 9,zb 61 .quo 59 60,zm 15 61] [2,8,9,10,11,13,14,15])
 (.seq (.reg [zm 62 11,zm 63 15,zm 64 9,zb 65 .mul 63 64,zb 66 .sub 62 65,zm 16 66] [2,8,9,10,11,13,14,15,16])
 (.seq (.block 0 (.loop [2,8,9,10,11,13,14,15,16] Qhs))
 (.seq (.reg [zm 86 11,zo 87 (.bin .mul (.t 86) (.k (.sc (.int .u64 4294967296)))),zm 88 13,zb 89 .add 87 88,zm 90 15,zm 91 2,zb 92 .mul 90 91,zb 93 .sub 89 92,zm 17 93] [2,8,9,10,14,15,17])
 (.seq (.reg [zm 94 17,zm 95 9,zb 96 .quo 94 95,zm 18 96] [2,8,9,10,14,15,17,18])
 (.seq (.reg [zm 97 17,zm 98 18,zm 99 9,zb 100 .mul 98 99,zb 101 .sub 97 100,zm 16 101] [2,8,9,10,14,15,16,17,18])
 (.seq (.block 2 (.loop [2,8,9,10,14,15,16,17,18] Qhr))
 (.seq (.reg [zm 121 15,zo 122 (.bin .mul (.t 121) (.k (.sc (.int .u64 4294967296)))),zm 123 18,zb 124 .add 122 123,zm 125 17,zo 126 (.bin .mul (.t 125) (.k (.sc (.int .u64 4294967296)))),zm 127 14,zb 128 .add 126 127,zm 129 18,zm 130 2,zb 131 .mul 129 130,zb 132 .sub 128 131,zm 133 8,zb 134 .shr 132 133,zm 6 124,zm 7 134] [6,7])
 .ret)))))))))))))))))))
def a102:AFun:=⟨3,b102,[.t 6,.t 7]⟩
def b103:AC :=
 .seq (.reg [zo 4 (.mv (.k (.sc (.int .u64 0)))),zo 5 (.mv (.k (.sc (.int .u64 0))))] [0,1])
 (.seq (.reg [zm 14 0,zo 15 (.bin .and (.t 14) (.k (.sc (.int .u64 4294967295)))),zm 6 15] [0,1,6])
 (.seq (.reg [zm 16 0,zo 17 (.bin .shr (.t 16) (.k (.sc (.int .u64 32)))),zm 7 17] [0,1,6,7])
 (.seq (.reg [zm 18 1,zo 19 (.bin .and (.t 18) (.k (.sc (.int .u64 4294967295)))),zm 8 19] [0,1,6,7,8])
 (.seq (.reg [zm 20 1,zo 21 (.bin .shr (.t 20) (.k (.sc (.int .u64 32)))),zm 9 21] [0,1,6,7,8,9])
 (.seq (.reg [zm 22 6,zm 23 8,zb 24 .mul 22 23,zm 10 24] [0,1,6,7,8,9,10])
 (.seq (.reg [zm 25 7,zm 26 8,zb 27 .mul 25 26,zm 28 10,zo 29 (.bin .shr (.t 28) (.k (.sc (.int .u64 32)))),zb 30 .add 27 29,zm 11 30] [0,1,6,7,9,11])
 (.seq (.reg [zm 31 11,zo 32 (.bin .and (.t 31) (.k (.sc (.int .u64 4294967295)))),zm 12 32] [0,1,6,7,9,11,12])
 (.seq (.reg [zm 33 11,zo 34 (.bin .shr (.t 33) (.k (.sc (.int .u64 32)))),zm 13 34] [0,1,6,7,9,12,13])
 (.seq (.reg [zm 35 12,zm 36 6,zm 37 9,zb 38 .mul 36 37,zb 39 .add 35 38,zm 12 39] [0,1,7,9,12,13])
 (.seq (.reg [zm 40 7,zm 41 9,zb 42 .mul 40 41,zm 43 13,zb 44 .add 42 43,zm 45 12,zo 46 (.bin .shr (.t 45) (.k (.sc (.int .u64 32)))),zb 47 .add 44 46,zm 4 47] [0,1,4])
 (.seq (.reg [zm 48 0,zm 49 1,zb 50 .mul 48 49,zm 5 50] [4,5])
 .ret)))))))))))
def a103:AFun:=⟨2,b103,[.t 4,.t 5]⟩
def b104:AC :=
 .seq (.reg [zo 1 (.box (.t 0)),zo 2 (.new [.int .u64 0,.int .u64 0])] [1,2])
 (.seq (.reg [zf 8 1 1,zl 9 1 8,zo 10 (.car true (.k (.sc (.int .u64 0))) (.t 9) (.k (.sc (.int .u64 0)))),zm 7 10,ze 11 7 0,ze 12 7 1,zm 3 11,zm 4 12] [1,2,3,4])
 (.seq (.reg [zf 14 0 1,zl 15 1 14,zm 16 4,zo 17 (.car true (.k (.sc (.int .u64 0))) (.t 15) (.t 16)),zm 13 17,ze 18 13 0,ze 19 13 1,zm 5 18,zm 6 19] [2,3,5])
 (.seq (.reg [zm 20 5,zm 21 3,zo 22 (.bld [.int .u64 0,.int .u64 0] [(0,1,.t 20),(1,1,.t 21)]),zs 2 2 22] [2])
 .ret)))
def a104:AFun:=⟨1,b104,[.cell 2 2 true]⟩
def Ql5:AC :=
 .seq (.reg [zb 26 .lss 25 24] [3,6,11,12,13,17,18,19,23,24,25,26])
 (.seq (.cond (.t 26)
 .skip
 (.exit 4))
 (.seq (.block 5 (.seq (.reg [zi 27 2 23 25,zL 28 2 27,zo 10 (.new [.int .i64 0,.int .i64 0]),zs 2 10 28] [3,6,10,11,12,13,17,18,19,23,24,25])
 (.reg [zm 29 6,zf 30 1 10,zl 31 1 30,zf 32 1 10,zl 33 1 32,zo 34 (.un .neg (.t 33)),zo 35 (.mm true (.t 31) [.t 34]),zb 36 .add 29 35,zo 37 (.mm false (.t 36) [zK 4611686018427387904]),zm 6 37] [3,6,11,12,13,17,18,19,23,24,25])))
 (.reg [zk 38 .add 25 1,zm 25 38] [3,6,11,12,13,17,18,19,23,24,25])))
def Ql6:AC :=
 .seq (.reg [zb 20 .lss 19 18] [3,6,11,12,13,17,18,19,20])
 (.seq (.cond (.t 20)
 .skip
 (.exit 2))
 (.seq (.block 3 (.seq (.reg [zi 21 1 17 19,zl 22 1 21,zm 8 22] [3,6,8,11,12,13,17,18,19])
 (.seq (.reg [zm 23 8,zn 24 23,zc 25 0] [3,6,11,12,13,17,18,19,23,24,25])
 (.block 4 (.loop [3,6,11,12,13,17,18,19,23,24,25] Ql5)))))
 (.reg [zk 39 .add 19 1,zm 19 39] [3,6,11,12,13,17,18,19])))
def Ql7:AC :=
 .seq (.reg [zb 14 .lss 13 12] [3,11,12,13,14])
 (.seq (.cond (.t 14)
 .skip
 (.exit 0))
 (.seq (.block 1 (.seq (.reg [zi 15 1 11 13,zl 16 1 15,zm 5 16] [3,5,11,12,13])
 (.seq (.reg [zc 6 0] [3,5,6,11,12,13])
 (.seq (.seq (.reg [zm 17 5,zn 18 17,zc 19 0] [3,6,11,12,13,17,18,19])
 (.block 2 (.loop [3,6,11,12,13,17,18,19] Ql6)))
 (.seq (.reg [zm 40 6,zk 41 .eql 40 4611686018427387904] [3,6,11,12,13,41])
 (.cond (.t 41)
 (.reg [zm 42 3,zk 43 .add 42 75,zm 3 43] [3,11,12,13])
 (.reg [zm 44 3,zm 45 6,zo 46 (.conv .u64 (.t 45)),zo 47 (.call 128 [.t 46]),zb 48 .add 44 47,zm 3 48] [3,11,12,13])))))))
 (.reg [zk 49 .add 13 1,zm 13 49] [3,11,12,13])))
def b107:AC :=
 .seq (.reg [zc 2 0] [0])
 (.seq (.reg [zc 3 0] [0,3])
 (.seq (.seq (.reg [zm 11 0,zn 12 11,zc 13 0] [3,11,12,13])
 (.block 0 (.loop [3,11,12,13] Ql7)))
 (.seq (.reg [zm 50 3,zm 2 50] [2])
 .ret)))
def a107:AFun:=⟨1,b107,[.t 2]⟩
def Ql4:AC :=
 .seq (.seq (.reg [zm 27 7,zm 28 2,zb 29 .leq 27 28] [1,2,3,7,8,29])
 (.cond (.t 29)
 .skip
 (.exit 0)))
 (.block 1 (.reg [zm 30 7,zk 31 .mul 30 2,zm 7 31] [1,2,3,7,8]))
def Ql3:AC :=
 .seq (.seq (.reg [zm 32 9,zm 33 7,zb 34 .gtr 32 33] [1,2,3,7,8,9,34])
 (.cond (.t 34)
 .skip
 (.exit 2)))
 (.seq (.block 3 (.reg [zL 37 2 3,zm 38 8,zm 39 8,zo 40 (.call 98 [.t 37,.t 38,.t 39]),zm 8 40] [1,2,3,7,8,9]))
 (.reg [zm 35 9,zk 36 .quo 35 2,zm 9 36] [1,2,3,7,8,9]))
def Ql2:AC :=
 .seq (.seq (.reg [zm 45 11,zm 46 7,zb 47 .lss 45 46] [1,2,3,7,8,10,11,47])
 (.cond (.t 47)
 .skip
 (.exit 4)))
 (.seq (.block 5 (.regd [(zm 50 10,0,false),(zm 51 11,1,false),(zL 52 2 3,2,false),(zm 53 10,3,false),(zm 54 11,4,false),(zk 55 .sub 54 1,5,false),(zi 56 1 53 55,6,false),(zl 57 1 56,7,false),(zm 58 8,8,false),(zo 59 (.call 98 [.t 52,.t 57,.t 58]),9,true),(zi 60 1 50 51,10,false),(zs 1 60 59,11,true)] [1,2,3,7,8,10,11]))
 (.reg [zm 48 11,zk 49 .add 48 1,zm 11 49] [1,2,3,7,8,10,11]))
def QlY:AC :=
 .seq (.reg [zb 94 .lss 93 92] [1,2,3,7,8,10,12,13,14,15,17,64,65,71,72,73,84,85,86,91,92,93,94])
 (.seq (.cond (.t 94)
 .skip
 (.exit 12))
 (.seq (.block 13 (.seq (.reg [zi 95 2 91 93,zL 96 2 95,zo 20 (.new [.int .i64 0,.int .i64 0]),zs 2 20 96] [1,2,3,7,8,10,12,13,14,15,17,20,64,65,71,72,73,84,85,86,91,92,93])
 (.seq (.reg [zm 97 10,zf 98 0 20,zl 99 1 98,zm 100 13,zb 101 .mul 99 100,zm 102 7,zb 103 .rem 101 102,zi 104 1 97 103,zl 105 1 104,zm 21 105] [1,2,3,7,8,10,12,13,14,15,17,20,21,64,65,71,72,73,84,85,86,91,92,93])
 (.regd [(zm 106 14,0,false),(zm 107 15,1,false),(zi 108 1 106 107,2,false),(zl 109 1 108,3,false),(zm 110 17,4,false),(zL 111 2 3,5,false),(zm 112 14,6,false),(zm 113 15,7,false),(zi 114 1 112 113,8,false),(zl 115 1 114,9,false),(zm 116 17,10,false),(zi 117 1 115 116,11,false),(zl 118 1 117,12,false),(zL 119 2 3,13,false),(zL 120 2 3,14,false),(zf 121 1 20,15,false),(zl 122 1 121,16,false),(zo 123 (.call 99 [.t 120,.t 122]),17,false),(zm 124 21,18,false),(zo 125 (.call 98 [.t 119,.t 123,.t 124]),19,false),(zo 126 (.call 129 [.t 111,.t 118,.t 125]),20,false),(zi 127 1 109 110,21,false),(zs 1 127 126,22,true)] [1,2,3,7,8,10,12,13,14,15,17,64,65,71,72,73,84,85,86,91,92,93]))))
 (.reg [zk 128 .add 93 1,zm 93 128] [1,2,3,7,8,10,12,13,14,15,17,64,65,71,72,73,84,85,86,91,92,93])))
def QlZ:AC :=
 .seq (.reg [zb 87 .lss 86 85] [1,2,3,7,8,10,12,13,14,15,64,65,71,72,73,84,85,86,87])
 (.seq (.cond (.t 87)
 .skip
 (.exit 10))
 (.seq (.block 11 (.seq (.reg [zm 88 86,zi 89 1 84 86,zl 90 1 89,zm 17 88,zm 18 90] [1,2,3,7,8,10,12,13,14,15,17,18,64,65,71,72,73,84,85,86])
 (.seq (.reg [zm 91 18,zn 92 91,zc 93 0] [1,2,3,7,8,10,12,13,14,15,17,64,65,71,72,73,84,85,86,91,92,93])
 (.block 12 (.loop [1,2,3,7,8,10,12,13,14,15,17,64,65,71,72,73,84,85,86,91,92,93] QlY)))))
 (.reg [zk 129 .add 86 1,zm 86 129] [1,2,3,7,8,10,12,13,14,15,64,65,71,72,73,84,85,86])))
def Ql0:AC :=
 .seq (.reg [zb 74 .lss 73 72] [1,2,3,7,8,10,12,13,14,64,65,71,72,73,74])
 (.seq (.cond (.t 74)
 .skip
 (.exit 8))
 (.seq (.block 9 (.seq (.reg [zm 75 73,zi 76 1 71 73,zl 77 1 76,zm 15 75,zm 16 77] [1,2,3,7,8,10,12,13,14,15,16,64,65,71,72,73])
 (.seq (.reg [zm 78 14,zm 79 15,zm 80 16,zn 81 80,zo 82 (.mk 1 8 [.int .u64 0] (.t 81) (.t 81)),zi 83 1 78 79,zs 1 83 82] [1,2,3,7,8,10,12,13,14,15,16,64,65,71,72,73])
 (.seq (.reg [zm 84 16,zn 85 84,zc 86 0] [1,2,3,7,8,10,12,13,14,15,64,65,71,72,73,84,85,86])
 (.block 10 (.loop [1,2,3,7,8,10,12,13,14,15,64,65,71,72,73,84,85,86] QlZ))))))
 (.reg [zk 130 .add 73 1,zm 73 130] [1,2,3,7,8,10,12,13,14,64,65,71,72,73])))
def Ql1:AC :=
 .seq (.reg [zb 66 .lss 65 64] [1,2,3,7,8,10,12,64,65,66])
 (.seq (.cond (.t 66)
 .skip
 (.exit 6))
 (.seq (.block 7 (.seq (.reg [zm 67 65,zm 13 67] [1,2,3,7,8,10,12,13,64,65])
 (.seq (.reg [zm 68 1,zn 69 68,zo 70 (.mk 1 24 [.nilS] (.t 69) (.t 69)),zm 14 70] [1,2,3,7,8,10,12,13,14,64,65])
 (.seq (.seq (.reg [zm 71 1,zn 72 71,zc 73 0] [1,2,3,7,8,10,12,13,14,64,65,71,72,73])
 (.block 8 (.loop [1,2,3,7,8,10,12,13,14,64,65,71,72,73] Ql0)))
 (.reg [zm 131 12,zm 132 13,zL 133 2 3,zm 134 14,zo 135 (.call 130 [.t 133,.t 134]),zi 136 1 131 132,zs 1 136 135] [1,2,3,7,8,10,12,64,65])))))
 (.reg [zk 137 .add 65 1,zm 65 137] [1,2,3,7,8,10,12,64,65])))
def QlX:AC :=
 .seq (.reg [zb 151 .lss 150 149] [2,3,22,23,149,150,151])
 (.seq (.cond (.t 151)
 .skip
 (.exit 14))
 (.seq (.block 15 (.seq (.reg [zm 152 150,zm 24 152] [2,3,22,23,24,149,150])
 (.regd [(zm 153 22,0,false),(zm 154 24,1,false),(zL 155 2 3,2,false),(zm 156 22,3,false),(zm 157 24,4,false),(zi 158 1 156 157,5,false),(zl 159 1 158,6,false),(zm 160 23,7,false),(zo 161 (.call 98 [.t 155,.t 159,.t 160]),8,true),(zi 162 1 153 154,9,false),(zs 1 162 161,10,true)] [2,3,22,23,149,150])))
 (.reg [zk 163 .add 150 1,zm 150 163] [2,3,22,23,149,150])))
def b108:AC :=
 .seq (.reg [zo 3 (.box (.t 0)),zo 6 (.mv (.k (.sc .nilS)))] [1,2,3])
 (.seq (.regd [(zf 25 1 3,0,false),(zl 26 1 25,1,true),(zc 7 1,2,false),(zm 8 26,3,false)] [1,2,3,7,8])
 (.seq (.block 0 (.loop [1,2,3,7,8] Ql4))
 (.seq (.seq (.reg [zc 9 131072] [1,2,3,7,8,9])
 (.block 2 (.loop [1,2,3,7,8,9] Ql3)))
 (.seq (.reg [zm 41 7,zo 42 (.mk 1 8 [.int .u64 0] (.t 41) (.t 41)),zm 10 42] [1,2,3,7,8,10])
 (.seq (.reg [zm 43 10,zo 44 (.idxA 1 (.t 43) (zK 0)),⟨none,.st 1 (.t 44) (.k (.sc (.int .u64 1))),none⟩] [1,2,3,7,8,10])
 (.seq (.seq (.reg [zc 11 1] [1,2,3,7,8,10,11])
 (.block 4 (.loop [1,2,3,7,8,10,11] Ql2)))
 (.seq (.reg [zm 61 7,zo 62 (.mk 1 8 [.int .u64 0] (.t 61) (.t 61)),zm 12 62] [1,2,3,7,8,10,12])
 (.seq (.seq (.reg [zm 63 12,zn 64 63,zc 65 0] [1,2,3,7,8,10,12,64,65])
 (.block 6 (.loop [1,2,3,7,8,10,12,64,65] Ql1)))
 (.seq (.regd [(zL 138 2 3,0,false),(zm 139 12,1,false),(zL 140 2 3,2,false),(zm 141 8,3,false),(zo 142 (.call 121 [.t 140,.t 141]),4,false),(zo 143 (.call 131 [.t 138,.t 139,.t 142]),5,true),(zm 22 143,6,false)] [2,3,7,22])
 (.seq (.reg [zL 144 2 3,zm 145 7,zo 146 (.conv .u64 (.t 145)),zo 147 (.call 121 [.t 144,.t 146]),zm 23 147] [2,3,22,23])
 (.seq (.seq (.reg [zm 148 22,zn 149 148,zc 150 0] [2,3,22,23,149,150])
 (.block 14 (.loop [2,3,22,23,149,150] QlX)))
 (.seq (.reg [zm 164 22,zm 165 2,zk 166 .add 165 1,zo 167 (.sl1 (.t 164) none (some (.t 166))),zm 6 167] [6])
 .ret))))))))))))
def a108:AFun:=⟨3,b108,[.t 6]⟩
def b117:AC :=
 .seq (.reg [zo 2 (.mv zF)] [0])
 (.seq (.reg [zm 3 0,zm 4 0,zb 5 .neq 3 4,zm 2 5] [2])
 .ret)
def a117:AFun:=⟨1,b117,[.t 2]⟩
def Qhp:AC :=
 .seq (.seq (.reg [zm 27 8,zm 28 4,zb 29 .lss 27 28,zm 30 29,zt 31 (.mv (.t 7)) 30,zt 32 (.mv (.t 0)) 30,zt 33 (.bin .sub (.t 32) (.k (.sc (.int .u64 1)))) 30,zt 34 (.bin .neq (.t 31) (.t 33)) 30,zo 35 (.pick (.t 30) (.t 34) zF)] [0,3,4,7,8,14,15,35])
 (.cond (.t 35)
 .skip
 (.exit 2)))
 (.seq (.block 3 (.reg [zL 38 2 3,zm 39 7,zm 40 7,zo 41 (.call 98 [.t 38,.t 39,.t 40]),zm 7 41] [0,3,4,7,8,14,15]))
 (.reg [zm 36 8,zk 37 .add 36 1,zm 8 37] [0,3,4,7,8,14,15]))
def Qhq:AC :=
 .seq (.reg [zk 16 .lss 15 12] [0,3,4,14,15,16])
 (.seq (.cond (.t 16)
 .skip
 (.exit 0))
 (.seq (.block 1 (.seq (.reg [zo 17 (.idxG 12 1 false (.t 14) (.t 15)),zm 6 17] [0,3,4,6,14,15])
 (.seq (.regd [(zL 18 2 3,0,true),(zm 19 6,1,false),(zm 20 0,2,false),(zo 21 (.bin .sub (.t 20) (.k (.sc (.int .u64 1)))),3,false),(zm 22 4,4,false),(zb 23 .shr 21 22,5,false),(zo 24 (.call 119 [.t 18,.t 19,.t 23]),6,true),(zm 7 24,7,false)] [0,3,4,7,14,15])
 (.seq (.seq (.reg [zm 25 7,zo 26 (.bin .eql (.t 25) (.k (.sc (.int .u64 1))))] [0,3,4,7,14,15,26])
 (.cond (.t 26)
 (.exit 1)
 .skip))
 (.seq (.seq (.reg [zc 8 1] [0,3,4,7,8,14,15])
 (.block 2 (.loop [0,3,4,7,8,14,15] Qhp)))
 (.seq (.reg [zm 42 7,zm 43 0,zo 44 (.bin .sub (.t 43) (.k (.sc (.int .u64 1)))),zb 45 .neq 42 44] [0,3,4,14,15,45])
 (.cond (.t 45)
 (.seq (.reg [⟨some 2,.mv zF,none⟩] [2])
 .ret)
 .skip)))))))
 (.reg [zk 46 .add 15 1,zm 15 46] [0,3,4,14,15])))
def b118:AC :=
 .seq (.reg [zo 2 (.mv zF)] [0])
 (.seq (.reg [zm 9 0,zo 10 (.bld [.int .u64 0,.int .u64 0] [(0,1,.t 9)]),zo 3 (.new [.int .u64 0,.int .u64 0]),zs 2 3 10] [0,3])
 (.seq (.reg [zm 11 0,zo 12 (.bin .sub (.t 11) (.k (.sc (.int .u64 1)))),zo 13 (.call 138 [.t 12]),zm 4 13] [0,3,4])
 (.seq (.seq (.reg [zo 14 (.bld [.int .u64 0,.int .u64 0,.int .u64 0,.int .u64 0,.int .u64 0,.int .u64 0,.int .u64 0,.int .u64 0,.int .u64 0,.int .u64 0,.int .u64 0,.int .u64 0] [(0,1,.k (.sc (.int .u64 2))),(1,1,.k (.sc (.int .u64 3))),(2,1,.k (.sc (.int .u64 5))),(3,1,.k (.sc (.int .u64 7))),(4,1,.k (.sc (.int .u64 11))),(5,1,.k (.sc (.int .u64 13))),(6,1,.k (.sc (.int .u64 17))),(7,1,.k (.sc (.int .u64 19))),(8,1,.k (.sc (.int .u64 23))),(9,1,.k (.sc (.int .u64 29))),(10,1,.k (.sc (.int .u64 31))),(11,1,.k (.sc (.int .u64 37)))]),zc 15 0] [0,3,4,14,15])
 (.block 0 (.loop [0,3,4,14,15] Qhq)))
 (.seq (.reg [⟨some 2,.mv zT,none⟩] [2])
 .ret))))
def a118:AFun:=⟨1,b118,[.t 2]⟩
def Qho:AC :=
 .seq (.seq (.reg [zm 8 2,zo 9 (.bin .gtr (.t 8) (.k (.sc (.int .u64 0))))] [1,2,3,7,9])
 (.cond (.t 9)
 .skip
 (.exit 0)))
 (.seq (.block 1 (.seq (.seq (.reg [zm 12 2,zo 13 (.bin .and (.t 12) (.k (.sc (.int .u64 1)))),zo 14 (.bin .eql (.t 13) (.k (.sc (.int .u64 1))))] [1,2,3,7,14])
 (.cond (.t 14)
 (.reg [zL 15 2 3,zm 16 7,zm 17 1,zo 18 (.call 98 [.t 15,.t 16,.t 17]),zm 7 18] [1,2,3,7])
 .skip))
 (.reg [zL 19 2 3,zm 20 1,zm 21 1,zo 22 (.call 98 [.t 19,.t 20,.t 21]),zm 1 22] [1,2,3,7])))
 (.reg [zm 10 2,zo 11 (.bin .shr (.t 10) (.k (.sc (.int .u64 1)))),zm 2 11] [1,2,3,7]))
def b119:AC :=
 .seq (.reg [zo 3 (.box (.t 0)),zo 6 (.mv (.k (.sc (.int .u64 0))))] [1,2,3])
 (.seq (.reg [⟨some 7,.mv (.k (.sc (.int .u64 1))),none⟩] [1,2,3,7])
 (.seq (.block 0 (.loop [1,2,3,7] Qho))
 (.seq (.reg [zm 23 7,zm 6 23] [6])
 .ret)))
def a119:AFun:=⟨3,b119,[.t 6]⟩
def Qhn:AC :=
 .seq (.reg [zb 13 .lss 12 11] [1,4,10,11,12,13])
 (.seq (.cond (.t 13)
 .skip
 (.exit 0))
 (.seq (.block 1 (.seq (.reg [zm 14 12,zi 15 1 10 12,zl 16 1 15,zm 5 14,zm 6 16] [1,4,5,6,10,11,12])
 (.reg [zm 17 4,zm 18 5,zL 19 2 1,zm 20 6,zo 21 (.call 99 [.t 19,.t 20]),zi 22 1 17 18,zs 1 22 21] [1,4,10,11,12])))
 (.reg [zk 23 .add 12 1,zm 12 23] [1,4,10,11,12])))
def b120:AC :=
 .seq (.reg [zo 3 (.mv (.k (.sc .nilS)))] [0,1])
 (.seq (.reg [zm 7 0,zn 8 7,zo 9 (.mk 1 8 [.int .u64 0] (.t 8) (.t 8)),zm 4 9] [0,1,4])
 (.seq (.seq (.reg [zm 10 0,zn 11 10,zc 12 0] [1,4,10,11,12])
 (.block 0 (.loop [1,4,10,11,12] Qhn)))
 (.seq (.reg [zm 24 4,zm 3 24] [3])
 .ret)))
def a120:AFun:=⟨2,b120,[.t 3]⟩
def b121:AC :=
 .seq (.reg [zo 2 (.box (.t 0)),zo 4 (.mv (.k (.sc (.int .u64 0))))] [1,2])
 (.seq (.reg [zL 5 2 2,zm 6 1,zf 7 0 2,zl 8 1 7,zo 9 (.bin .sub (.t 8) (.k (.sc (.int .u64 2)))),zo 10 (.call 119 [.t 5,.t 6,.t 9]),zm 4 10] [4])
 .ret)
def a121:AFun:=⟨2,b121,[.t 4]⟩
def b122:AC :=
 .seq (.reg [zo 3 (.box (.t 0)),zo 6 (.mv (.k (.sc (.int .u64 0))))] [1,2,3])
 (.seq (.seq (.reg [zm 7 1,zm 8 2,zb 9 .lss 7 8] [1,2,3,9])
 (.cond (.t 9)
 (.reg [zm 10 1,zf 11 0 3,zl 12 1 11,zb 13 .add 10 12,zm 1 13] [1,2])
 .skip))
 (.seq (.reg [zm 14 1,zm 15 2,zb 16 .sub 14 15,zm 6 16] [6])
 .ret))
def a122:AFun:=⟨3,b122,[.t 6]⟩
def b123:AC :=
 .seq (.reg [zo 2 (.mv (.k (.sc .nilS)))] [0])
 (.seq (.seq (.reg [zm 3 0,zo 4 (.isnil 1 false (.t 3))] [0,4])
 (.cond (.t 4)
 (.seq (.reg [⟨some 2,.mv (.k (.sc .nilS)),none⟩] [2])
 .ret)
 .skip))
 (.seq (.reg [zo 5 (.bsl 1 [.int .u64 0] 0 []),zm 6 0,zo 7 (.app 1 8 [.int .u64 0] (.t 5) (.t 6)),zm 2 7] [2])
 .ret))
def a123:AFun:=⟨1,b123,[.t 2]⟩
def b124:AC :=
 .seq (.reg [zo 6 (.mv (.k (.sc (.int .u64 0))))] [0,1,2])
 (.seq (.reg [zm 10 0,zm 11 2,zb 12 .rem 10 11,zm 13 1,zm 14 2,zo 15 (.call 102 [.t 12,.t 13,.t 14]),zm 9 15,ze 16 9 0,ze 17 9 1,zm 7 16,zm 8 17] [8])
 (.seq (.reg [zm 18 8,zm 6 18] [6])
 .ret))
def a124:AFun:=⟨3,b124,[.t 6]⟩
def b125:AC :=
 .seq (.reg [zc 2 0] [0])
 (.seq (.reg [zm 3 0,zo 4 (.call 139 [.t 3]),zo 5 (.bin .sub (zK 64) (.t 4)),zm 2 5] [2])
 .ret)
def a125:AFun:=⟨1,b125,[.t 2]⟩
def b128:AC :=
 .seq (.reg [zc 2 0] [0])
 (.seq (.cond zF
 (.seq (.reg [zm 3 0,zo 4 (.conv .u32 (.t 3)),zo 5 (.call 140 [.t 4]),zm 2 5] [2])
 .ret)
 .skip)
 (.seq (.reg [zm 6 0,zo 7 (.call 139 [.t 6]),zm 2 7] [2])
 .ret))
def a128:AFun:=⟨1,b128,[.t 2]⟩
def b129:AC :=
 .seq (.reg [zo 3 (.box (.t 0)),zo 6 (.mv (.k (.sc (.int .u64 0))))] [1,2,3])
 (.seq (.seq (.reg [zm 7 1,zm 8 2,zb 9 .add 7 8,zm 1 9] [1,3])
 (.seq (.reg [zm 10 1,zf 11 0 3,zl 12 1 11,zb 13 .geq 10 12] [1,3,13])
 (.cond (.t 13)
 (.reg [zm 14 1,zf 15 0 3,zl 16 1 15,zb 17 .sub 14 16,zm 1 17] [1])
 .skip)))
 (.seq (.reg [zm 18 1,zm 6 18] [6])
 .ret))
def a129:AFun:=⟨3,b129,[.t 6]⟩
def QlW:AC :=
 .seq (.seq (.regd [(zm 19 7,0,false),(zm 20 1,1,false),(zn 21 20,2,false),(zb 22 .lss 19 21,3,false),(zm 23 22,4,false),(zt 24 (.mv (.t 1)) 23,5,false),(zt 25 (.mv (.t 7)) 23,6,false),(zt 26 (.idxA 1 (.t 24) (.t 25)) 23,7,false),(zt 27 (.ld 1 false (.t 26)) 23,8,false),(zt 28 (.ld 1 false (.t 6)) 23,9,false),(zt 29 (.idxA 1 (.t 27) (.t 28)) 23,10,false),(zt 30 (.ld 1 false (.t 29)) 23,11,true),(zt 31 (.bin .eql (.t 30) (.k (.sc (.int .u64 0)))) 23,12,false),(zo 32 (.pick (.t 23) (.t 31) zF),13,false)] [1,2,5,6,7,14,15,32])
 (.cond (.t 32)
 .skip
 (.exit 2)))
 (.block 3 (.reg [zm 33 7,zk 34 .add 33 1,zm 7 34] [1,2,5,6,7,14,15]))
def QlV:AC :=
 .seq (.reg [zb 83 .lss 82 81] [1,2,5,6,9,10,14,15,80,81,82,83])
 (.seq (.cond (.t 83)
 .skip
 (.exit 4))
 (.seq (.block 5 (.seq (.reg [zi 84 1 80 82,zl 85 1 84,zm 12 85] [1,2,5,6,9,10,12,14,15,80,81,82])
 (.seq (.reg [zm 86 12,zl 87 1 6,zi 88 1 86 87,zl 89 1 88,zo 90 (.bin .neq (.t 89) (.k (.sc (.int .u64 0))))] [1,2,5,6,9,10,12,14,15,80,81,82,90])
 (.cond (.t 90)
 (.regd [(zm 91 10,0,false),(zm 92 12,1,false),(zL 93 2 2,2,false),(zm 94 12,3,false),(zl 95 1 6,4,false),(zi 96 1 94 95,5,false),(zl 97 1 96,6,false),(zm 98 9,7,false),(zo 99 (.call 98 [.t 93,.t 97,.t 98]),8,true),(zo 100 (.callv (.t 91) [.t 92,.t 99]),9,true)] [1,2,5,6,9,10,14,15,80,81,82])
 .skip))))
 (.reg [zk 101 .add 82 1,zm 82 101] [1,2,5,6,9,10,14,15,80,81,82])))
def Qhm:AC :=
 .seq (.reg [zb 16 .lss 15 14] [1,2,5,14,15,16])
 (.seq (.cond (.t 16)
 .skip
 (.exit 0))
 (.seq (.block 1 (.seq (.reg [zm 17 15,zo 6 (.new [.int .i64 0]),zs 1 6 17] [1,2,5,6,14,15])
 (.seq (.reg [zl 18 1 6,zm 7 18] [1,2,5,6,7,14,15])
 (.seq (.block 2 (.loop [1,2,5,6,7,14,15] QlW))
 (.seq (.seq (.reg [zm 35 7,zm 36 1,zn 37 36,zb 38 .eql 35 37] [1,2,5,6,7,14,15,38])
 (.cond (.t 38)
 (.seq (.reg [⟨some 4,.mv (.k (.sc (.int .u64 0))),none⟩] [4])
 .ret)
 .skip))
 (.seq (.seq (.reg [zm 39 7,zl 40 1 6,zb 41 .neq 39 40] [1,2,5,6,7,14,15,41])
 (.cond (.t 41)
 (.seq (.regs [(zm 42 1,0,false),(zm 43 7,1,false),(zm 44 1,2,false),(zl 45 1 6,3,false),(zm 46 1,4,false),(zl 47 1 6,5,true),(zi 48 1 46 47,6,false),(zl 49 1 48,7,true),(zm 50 1,8,false),(zm 51 7,9,false),(zi 52 1 50 51,10,false),(zl 53 1 52,11,true),(zi 54 1 42 43,12,false),(zs 1 54 49,13,true),(zi 55 1 44 45,14,false),(zs 1 55 53,15,true)] [15] [1,2,5,6,14,15])
 (.reg [zL 56 2 2,zm 57 5,zo 58 (.call 122 [.t 56,(.k (.sc (.int .u64 0))),.t 57]),zm 5 58] [1,2,5,6,14,15]))
 .skip))
 (.seq (.reg [zm 59 1,zl 60 1 6,zi 61 1 59 60,zl 62 1 61,zo 8 (.new [.nilS]),zs 1 8 62] [1,2,5,6,8,14,15])
 (.seq (.regd [(zL 63 2 2,0,false),(zm 64 5,1,false),(zl 65 1 8,2,false),(zl 66 1 6,3,false),(zi 67 1 65 66,4,false),(zl 68 1 67,5,false),(zo 69 (.call 98 [.t 63,.t 64,.t 68]),6,true),(zm 5 69,7,false)] [1,2,5,6,8,14,15])
 (.seq (.regd [(zL 70 2 2,0,false),(zl 71 1 8,1,false),(zl 72 1 6,2,false),(zi 73 1 71 72,3,false),(zl 74 1 73,4,false),(zo 75 (.call 121 [.t 70,.t 74]),5,true),(zm 9 75,6,false)] [1,2,5,6,8,9,14,15])
 (.seq (.reg [zo 76 (.mkf 141 [.t 6,.t 8,.t 2]),zm 10 76] [1,2,5,6,9,10,14,15])
 (.seq (.reg [zm 77 1,zl 78 1 6,zk 79 .add 78 1,zo 80 (.sl1 (.t 77) (some (.t 79)) none),zn 81 80,zc 82 0] [1,2,5,6,9,10,14,15,80,81,82])
 (.block 4 (.loop [1,2,5,6,9,10,14,15,80,81,82] QlV)))))))))))))
 (.reg [zk 102 .add 15 1,zm 15 102] [1,2,5,14,15])))
def b130:AC :=
 .seq (.reg [zo 2 (.box (.t 0)),zo 4 (.mv (.k (.sc (.int .u64 0))))] [1,2])
 (.seq (.reg [⟨some 5,.mv (.k (.sc (.int .u64 1))),none⟩] [1,2,5])
 (.seq (.seq (.reg [zm 13 1,zn 14 13,zc 15 0] [1,2,5,14,15])
 (.block 0 (.loop [1,2,5,14,15] Qhm)))
 (.seq (.reg [zm 103 5,zm 4 103] [4])
 .ret)))
def a130:AFun:=⟨2,b130,[.t 4]⟩
def QlU:AC :=
 .seq (.reg [zb 32 .lss 31 30] [1,2,3,7,8,9,30,31,32])
 (.seq (.cond (.t 32)
 .skip
 (.exit 0))
 (.seq (.block 1 (.seq (.reg [zm 33 31,zm 10 33] [1,2,3,7,8,9,10,30,31])
 (.regd [(zm 34 8,0,false),(zm 35 10,1,false),(zm 36 9,2,false),(zm 37 10,3,false),(zm 38 1,4,false),(zm 39 10,5,false),(zo 40 (.bin .mul (zK 2) (.t 39)),6,false),(zi 41 1 38 40,7,false),(zl 42 1 41,8,false),(zm 43 1,9,false),(zm 44 10,10,false),(zo 45 (.bin .mul (zK 2) (.t 44)),11,false),(zk 46 .add 45 1,12,false),(zi 47 1 43 46,13,false),(zl 48 1 47,14,false),(zi 49 1 34 35,15,false),(zs 1 49 42,16,true),(zi 50 1 36 37,17,false),(zs 1 50 48,18,true)] [1,2,3,7,8,9,30,31])))
 (.reg [zk 51 .add 31 1,zm 31 51] [1,2,3,7,8,9,30,31])))
def QlT:AC :=
 .seq (.reg [zb 69 .lss 68 67] [2,3,7,8,9,12,13,67,68,69])
 (.seq (.cond (.t 69)
 .skip
 (.exit 2))
 (.seq (.block 3 (.seq (.reg [zm 70 68,zm 14 70] [2,3,7,8,9,12,13,14,67,68])
 (.seq (.regd [(zL 71 2 3,0,false),(zm 72 13,1,false),(zm 73 9,2,false),(zm 74 14,3,false),(zi 75 1 73 74,4,false),(zl 76 1 75,5,false),(zo 77 (.call 98 [.t 71,.t 72,.t 76]),6,true),(zm 15 77,7,false)] [2,3,7,8,9,12,13,14,15,67,68])
 (.seq (.regd [(zm 78 12,0,false),(zm 79 14,1,false),(zm 80 12,2,false),(zm 81 14,3,false),(zm 82 7,4,false),(zb 83 .add 81 82,5,false),(zL 84 2 3,6,false),(zm 85 8,7,false),(zm 86 14,8,false),(zi 87 1 85 86,9,false),(zl 88 1 87,10,false),(zm 89 15,11,false),(zo 90 (.call 129 [.t 84,.t 88,.t 89]),12,false),(zL 91 2 3,13,false),(zm 92 8,14,false),(zm 93 14,15,false),(zi 94 1 92 93,16,false),(zl 95 1 94,17,false),(zm 96 15,18,false),(zo 97 (.call 122 [.t 91,.t 95,.t 96]),19,true),(zi 98 1 78 79,20,false),(zs 1 98 90,21,true),(zi 99 1 80 83,22,false),(zs 1 99 97,23,true)] [2,3,7,8,9,12,13,67,68])
 (.reg [zL 100 2 3,zm 101 13,zm 102 2,zo 103 (.call 98 [.t 100,.t 101,.t 102]),zm 13 103] [2,3,7,8,9,12,13,67,68])))))
 (.reg [zk 104 .add 68 1,zm 68 104] [2,3,7,8,9,12,13,67,68])))
def b131:AC :=
 .seq (.reg [zo 3 (.box (.t 0)),zo 6 (.mv (.k (.sc .nilS)))] [1,2,3])
 (.seq (.seq (.reg [zm 16 1,zn 17 16,zk 18 .eql 17 1] [1,2,3,18])
 (.cond (.t 18)
 (.seq (.reg [zm 19 1,zo 20 (.idxA 1 (.t 19) (zK 0)),zl 21 1 20,zo 22 (.bsl 1 [.int .u64 0] 1 [(0,.t 21)]),zm 6 22] [6])
 .ret)
 .skip))
 (.seq (.reg [zm 23 1,zn 24 23,zk 25 .quo 24 2,zm 7 25] [1,2,3,7])
 (.seq (.regd [(zm 26 7,0,false),(zo 27 (.mk 1 8 [.int .u64 0] (.t 26) (.t 26)),1,false),(zm 28 7,2,false),(zo 29 (.mk 1 8 [.int .u64 0] (.t 28) (.t 28)),3,false),(zm 8 27,4,false),(zm 9 29,5,false)] [1,2,3,7,8,9])
 (.seq (.seq (.reg [zm 30 7,zc 31 0] [1,2,3,7,8,9,30,31])
 (.block 0 (.loop [1,2,3,7,8,9,30,31] QlU)))
 (.seq (.reg [zL 52 2 3,zm 53 2,zm 54 2,zo 55 (.call 98 [.t 52,.t 53,.t 54]),zm 11 55] [1,2,3,7,8,9,11])
 (.seq (.regd [(zL 56 2 3,0,false),(zm 57 8,1,false),(zm 58 11,2,false),(zo 59 (.call 131 [.t 56,.t 57,.t 58]),3,false),(zL 60 2 3,4,false),(zm 61 9,5,false),(zm 62 11,6,false),(zo 63 (.call 131 [.t 60,.t 61,.t 62]),7,true),(zm 8 59,8,false),(zm 9 63,9,false)] [1,2,3,7,8,9])
 (.seq (.reg [zm 64 1,zn 65 64,zo 66 (.mk 1 8 [.int .u64 0] (.t 65) (.t 65)),zm 12 66] [2,3,7,8,9,12])
 (.seq (.reg [⟨some 13,.mv (.k (.sc (.int .u64 1))),none⟩] [2,3,7,8,9,12,13])
 (.seq (.seq (.reg [zm 67 7,zc 68 0] [2,3,7,8,9,12,13,67,68])
 (.block 2 (.loop [2,3,7,8,9,12,13,67,68] QlT)))
 (.seq (.reg [zm 105 12,zm 6 105] [6])
 .ret))))))))))
def a131:AFun:=⟨3,b131,[.t 6]⟩
def b138:AC :=
 .seq (.reg [zc 2 0] [0])
 (.seq (.seq (.reg [zm 3 0,zo 4 (.bin .eql (.t 3) (.k (.sc (.int .u64 0))))] [0,4])
 (.cond (.t 4)
 (.seq (.reg [zc 2 64] [2])
 .ret)
 .skip))
 (.seq (.reg [zm 5 0,zm 6 0,zo 7 (.un .neg (.t 6)),zb 8 .and 5 7,zo 9 (.bin .mul (.t 8) (.k (.sc (.int .u64 285870213051353865)))),zo 10 (.bin .shr (.t 9) (.k (.sc (.int .u64 58)))),zo 11 .bad,zl 12 1 11,zo 13 (.conv .i64 (.t 12)),zm 2 13] [2])
 .ret))
def a138:AFun:=⟨1,b138,[.t 2]⟩
def b139:AC :=
 .seq (.reg [zc 2 0] [0,2])
 (.seq (.seq (.reg [zm 3 0,zo 4 (.bin .geq (.t 3) (.k (.sc (.int .u64 4294967296))))] [0,2,4])
 (.cond (.t 4)
 (.seq (.reg [zm 5 0,zo 6 (.bin .shr (.t 5) (.k (.sc (.int .u64 32)))),zm 0 6] [0])
 (.reg [zc 2 32] [0,2]))
 .skip))
 (.seq (.seq (.reg [zm 7 0,zo 8 (.bin .geq (.t 7) (.k (.sc (.int .u64 65536))))] [0,2,8])
 (.cond (.t 8)
 (.seq (.reg [zm 9 0,zo 10 (.bin .shr (.t 9) (.k (.sc (.int .u64 16)))),zm 0 10] [0,2])
 (.reg [zm 11 2,zk 12 .add 11 16,zm 2 12] [0,2]))
 .skip))
 (.seq (.seq (.reg [zm 13 0,zo 14 (.bin .geq (.t 13) (.k (.sc (.int .u64 256))))] [0,2,14])
 (.cond (.t 14)
 (.seq (.reg [zm 15 0,zo 16 (.bin .shr (.t 15) (.k (.sc (.int .u64 8)))),zm 0 16] [0,2])
 (.reg [zm 17 2,zk 18 .add 17 8,zm 2 18] [0,2]))
 .skip))
 (.seq (.reg [zm 19 2,zm 20 0,zo 21 (.conv .u8 (.t 20)),⟨some 22,.idxS (.k (.sc (.str ⟨#[0,1,2,2,3,3,3,3,4,4,4,4,4,4,4,4,5,5,5,5,5,5,5,5,5,5,5,5,5,5,5,5,6,6,6,6,6,6,6,6,6,6,6,6,6,6,6,6,6,6,6,6,6,6,6,6,6,6,6,6,6,6,6,6,7,7,7,7,7,7,7,7,7,7,7,7,7,7,7,7,7,7,7,7,7,7,7,7,7,7,7,7,7,7,7,7,7,7,7,7,7,7,7,7,7,7,7,7,7,7,7,7,7,7,7,7,7,7,7,7,7,7,7,7,7,7,7,7,8,8,8,8,8,8,8,8,8,8,8,8,8,8,8,8,8,8,8,8,8,8,8,8,8,8,8,8,8,8,8,8,8,8,8,8,8,8,8,8,8,8,8,8,8,8,8,8,8,8,8,8,8,8,8,8,8,8,8,8,8,8,8,8,8,8,8,8,8,8,8,8,8,8,8,8,8,8,8,8,8,8,8,8,8,8,8,8,8,8,8,8,8,8,8,8,8,8,8,8,8,8,8,8,8,8,8,8,8,8,8,8,8,8,8,8,8,8,8,8,8,8,8,8,8,8,8,8]⟩))) (.t 21),none⟩,zo 23 (.conv .i64 (.t 22)),zb 24 .add 19 23,zm 2 24] [2])
 .ret))))
def a139:AFun:=⟨1,b139,[.t 2]⟩
def QlS:AC :=
 .seq (.seq (.reg [zm 10 7,zm 11 0,zn 12 11,zb 13 .lss 10 12] [0,1,3,4,7,13])
 (.cond (.t 13)
 .skip
 (.exit 0)))
 (.seq (.block 1 (.seq (.reg [zl 16 1 3,zm 17 7,zi 18 1 16 17,zl 19 1 18,zo 20 (.bin .neq (.t 19) (.k (.sc (.int .u64 0))))] [0,1,3,4,7,20])
 (.cond (.t 20)
 (.regd [(zm 21 0,0,false),(zm 22 7,1,false),(zL 23 2 4,2,false),(zm 24 0,3,false),(zm 25 7,4,false),(zi 26 1 24 25,5,false),(zl 27 1 26,6,false),(zL 28 2 4,7,false),(zm 29 1,8,false),(zl 30 1 3,9,false),(zm 31 7,10,false),(zi 32 1 30 31,11,false),(zl 33 1 32,12,false),(zo 34 (.call 98 [.t 28,.t 29,.t 33]),13,false),(zo 35 (.call 122 [.t 23,.t 27,.t 34]),14,true),(zi 36 1 21 22,15,false),(zs 1 36 35,16,true)] [0,1,3,4,7])
 .skip)))
 (.reg [zm 14 7,zk 15 .add 14 1,zm 7 15] [0,1,3,4,7]))
def b141:AC :=
 .seq (.reg [zl 8 1 2,zk 9 .add 8 1,zm 7 9] [0,1,3,4,7])
 (.block 0 (.loop [0,1,3,4,7] QlS))
def a141:AFun:=⟨5,b141,[]⟩
def FT:zzA
 | 7=>some a7
 | 9=>some a9
 | 11=>some a11
 | 12=>some a12
 | 14=>some a14
 | 15=>some a15
 | 19=>some a19
 | 20=>some a20
 | 21=>some a21
 | 22=>some a22
 | 23=>some a23
 | 24=>some a24
 | 25=>some a25
 | 28=>some a28
 | 29=>some a29
 | 30=>some a30
 | 35=>some a35
 | 36=>some a36
 | 37=>some a37
 | 38=>some a38
 | 39=>some a39
 | 40=>some a40
 | 41=>some a41
 | 42=>some a42
 | 44=>some a44
 | 50=>some a50
 | 51=>some a51
 | 52=>some a52
 | 53=>some a53
 | 54=>some a54
 | 56=>some a56
 | 57=>some a57
 | 58=>some a58
 | 59=>some a59
 | 60=>some a60
 | 61=>some a61
 | 62=>some a62
 | 63=>some a63
 | 64=>some a64
 | 65=>some a65
 | 66=>some a66
 | 67=>some a67
 | 68=>some a68
 | 69=>some a69
 | 70=>some a70
 | 71=>some a71
 | 72=>some a72
 | 73=>some a73
 | 74=>some a74
 | 75=>some a75
 | 77=>some a77
 | 83=>some a83
 | 88=>some a88
 | 89=>some a89
 | 90=>some a90
 | 91=>some a91
 | 92=>some a92
 | 93=>some a93
 | 94=>some a94
 | 95=>some a95
 | 96=>some a96
 | 97=>some a97
 | 98=>some a98
 | 99=>some a99
 | 100=>some Qjg
 | 101=>some a101
 | 102=>some a102
 | 103=>some a103
 | 104=>some a104
 | 107=>some a107
 | 108=>some a108
 | 117=>some a117
 | 118=>some a118
 | 119=>some a119
 | 120=>some a120
 | 121=>some a121
 | 122=>some a122
 | 123=>some a123
 | 124=>some a124
 | 125=>some a125
 | 128=>some a128
 | 129=>some a129
 | 130=>some a130
 | 131=>some a131
 | 138=>some a138
 | 139=>some a139
 | 141=>some a141
 | _=>none
theorem mixed:Tryz.prog.follows .mixedOrders=true:=by kernel_rfl
theorem yD:FTok Tryz.prog FT:=by
 refine⟨mixed,fun f F h=>?_⟩
 unfold FT at h
 split at h
 ·simp at h;subst h;exact⟨_,Tryz.func7,by kernel_rfl⟩
 ·simp at h;subst h;exact⟨_,Tryz.func9,by kernel_rfl⟩
 ·simp at h;subst h;exact⟨_,Tryz.func11,by kernel_rfl⟩
 ·simp at h;subst h;exact⟨_,Tryz.func12,by kernel_rfl⟩
 ·simp at h;subst h;exact⟨_,Tryz.func14,by kernel_rfl⟩
 ·simp at h;subst h;exact⟨_,Tryz.func15,by kernel_rfl⟩
 ·simp at h;subst h;exact⟨_,Tryz.func19,by kernel_rfl⟩
 ·simp at h;subst h;exact⟨_,Tryz.func20,by kernel_rfl⟩
 ·simp at h;subst h;exact⟨_,Tryz.func21,by kernel_rfl⟩
 ·simp at h;subst h;exact⟨_,Tryz.func22,by kernel_rfl⟩
 ·simp at h;subst h;exact⟨_,Tryz.func23,by kernel_rfl⟩
 ·simp at h;subst h;exact⟨_,Tryz.func24,by kernel_rfl⟩
 ·simp at h;subst h;exact⟨_,Tryz.func25,by kernel_rfl⟩
 ·simp at h;subst h;exact⟨_,Tryz.func28,by kernel_rfl⟩
 ·simp at h;subst h;exact⟨_,Tryz.func29,by kernel_rfl⟩
 ·simp at h;subst h;exact⟨_,Tryz.func30,by kernel_rfl⟩
 ·simp at h;subst h;exact⟨_,Tryz.func35,by kernel_rfl⟩
 ·simp at h;subst h;exact⟨_,Tryz.func36,by kernel_rfl⟩
 ·simp at h;subst h;exact⟨_,Tryz.func37,by kernel_rfl⟩
 ·simp at h;subst h;exact⟨_,Tryz.func38,by kernel_rfl⟩
 ·simp at h;subst h;exact⟨_,Tryz.func39,by kernel_rfl⟩
 ·simp at h;subst h;exact⟨_,Tryz.func40,by kernel_rfl⟩
 ·simp at h;subst h;exact⟨_,Tryz.func41,by kernel_rfl⟩
 ·simp at h;subst h;exact⟨_,Tryz.func42,by kernel_rfl⟩
 ·simp at h;subst h;exact⟨_,Tryz.func44,by kernel_rfl⟩
 ·simp at h;subst h;exact⟨_,Tryz.func50,by kernel_rfl⟩
 ·simp at h;subst h;exact⟨_,Tryz.func51,by kernel_rfl⟩
 ·simp at h;subst h;exact⟨_,Tryz.func52,by kernel_rfl⟩
 ·simp at h;subst h;exact⟨_,Tryz.func53,by kernel_rfl⟩
 ·simp at h;subst h;exact⟨_,Tryz.func54,by kernel_rfl⟩
 ·simp at h;subst h;exact⟨_,Tryz.func56,by kernel_rfl⟩
 ·simp at h;subst h;exact⟨_,Tryz.func57,by kernel_rfl⟩
 ·simp at h;subst h;exact⟨_,Tryz.func58,by kernel_rfl⟩
 ·simp at h;subst h;exact⟨_,Tryz.func59,by kernel_rfl⟩
 ·simp at h;subst h;exact⟨_,Tryz.func60,by kernel_rfl⟩
 ·simp at h;subst h;exact⟨_,Tryz.func61,by kernel_rfl⟩
 ·simp at h;subst h;exact⟨_,Tryz.func62,by kernel_rfl⟩
 ·simp at h;subst h;exact⟨_,Tryz.func63,by kernel_rfl⟩
 ·simp at h;subst h;exact⟨_,Tryz.func64,by kernel_rfl⟩
 ·simp at h;subst h;exact⟨_,Tryz.func65,by kernel_rfl⟩
 ·simp at h;subst h;exact⟨_,Tryz.func66,by kernel_rfl⟩
 ·simp at h;subst h;exact⟨_,Tryz.func67,by kernel_rfl⟩
 ·simp at h;subst h;exact⟨_,Tryz.func68,by kernel_rfl⟩
 ·simp at h;subst h;exact⟨_,Tryz.func69,by kernel_rfl⟩
 ·simp at h;subst h;exact⟨_,Tryz.func70,by kernel_rfl⟩
 ·simp at h;subst h;exact⟨_,Tryz.func71,by kernel_rfl⟩
 ·simp at h;subst h;exact⟨_,Tryz.func72,by kernel_rfl⟩
 ·simp at h;subst h;exact⟨_,Tryz.func73,by kernel_rfl⟩
 ·simp at h;subst h;exact⟨_,Tryz.func74,by kernel_rfl⟩
 ·simp at h;subst h;exact⟨_,Tryz.func75,by kernel_rfl⟩
 ·simp at h;subst h;exact⟨_,Tryz.func77,by kernel_rfl⟩
 ·simp at h;subst h;exact⟨_,Tryz.func83,by kernel_rfl⟩
 ·simp at h;subst h;exact⟨_,Tryz.func88,by kernel_rfl⟩
 ·simp at h;subst h;exact⟨_,Tryz.func89,by kernel_rfl⟩
 ·simp at h;subst h;exact⟨_,Tryz.func90,by kernel_rfl⟩
 ·simp at h;subst h;exact⟨_,Tryz.func91,by kernel_rfl⟩
 ·simp at h;subst h;exact⟨_,Tryz.func92,by kernel_rfl⟩
 ·simp at h;subst h;exact⟨_,Tryz.func93,by kernel_rfl⟩
 ·simp at h;subst h;exact⟨_,Tryz.func94,by kernel_rfl⟩
 ·simp at h;subst h;exact⟨_,Tryz.func95,by kernel_rfl⟩
 ·simp at h;subst h;exact⟨_,Tryz.func96,by kernel_rfl⟩
 ·simp at h;subst h;exact⟨_,Tryz.func97,by kernel_rfl⟩
 ·simp at h;subst h;exact⟨_,Tryz.func98,by kernel_rfl⟩
 ·simp at h;subst h;exact⟨_,Tryz.func99,by kernel_rfl⟩
 ·simp at h;subst h;exact⟨_,Tryz.func100,by kernel_rfl⟩
 ·simp at h;subst h;exact⟨_,Tryz.func101,by kernel_rfl⟩
 ·simp at h;subst h;exact⟨_,Tryz.func102,by kernel_rfl⟩
 ·simp at h;subst h;exact⟨_,Tryz.func103,by kernel_rfl⟩
 ·simp at h;subst h;exact⟨_,Tryz.func104,by kernel_rfl⟩
 ·simp at h;subst h;exact⟨_,Tryz.func107,by kernel_rfl⟩
 ·simp at h;subst h;exact⟨_,Tryz.func108,by kernel_rfl⟩
 ·simp at h;subst h;exact⟨_,Tryz.func117,by kernel_rfl⟩
 ·simp at h;subst h;exact⟨_,Tryz.func118,by kernel_rfl⟩
 ·simp at h;subst h;exact⟨_,Tryz.func119,by kernel_rfl⟩
 ·simp at h;subst h;exact⟨_,Tryz.func120,by kernel_rfl⟩
 ·simp at h;subst h;exact⟨_,Tryz.func121,by kernel_rfl⟩
 ·simp at h;subst h;exact⟨_,Tryz.func122,by kernel_rfl⟩
 ·simp at h;subst h;exact⟨_,Tryz.func123,by kernel_rfl⟩
 ·simp at h;subst h;exact⟨_,Tryz.func124,by kernel_rfl⟩
 ·simp at h;subst h;exact⟨_,Tryz.func125,by kernel_rfl⟩
 ·simp at h;subst h;exact⟨_,Tryz.func128,by kernel_rfl⟩
 ·simp at h;subst h;exact⟨_,Tryz.func129,by kernel_rfl⟩
 ·simp at h;subst h;exact⟨_,Tryz.func130,by kernel_rfl⟩
 ·simp at h;subst h;exact⟨_,Tryz.func131,by kernel_rfl⟩
 ·simp at h;subst h;exact⟨_,Tryz.func138,by kernel_rfl⟩
 ·simp at h;subst h;exact⟨_,Tryz.func139,by kernel_rfl⟩
 ·simp at h;subst h;exact⟨_,Tryz.func141,by kernel_rfl⟩
 ·simp at h
