/- The annotated code of this seat, printed by program (mkseat.py). -/
import Derived.Test.YtofknpknogfijaaGreatDoorProg
import Derived.KernelRfl
import Derived.Test.YtofknpknogfijaaGreatDoorAb17
namespace Go.Proofs.YtofknpknogfijaaGreatDoor
open Go.Ab

def b6L0 : AC :=
  .seq (.seq (.reg [⟨some 23, .mv (.t 7), none⟩,
      ⟨some 24, .mv (.t 1), none⟩,
      ⟨some 25, .len false (.t 24), none⟩,
      ⟨some 26, .bin .lss (.t 23) (.t 25), none⟩] [0, 1, 2, 7, 26])
   (.cond (.t 26)
     (.skip)
     (.exit 0)))
  (.seq (.block 1 (.seq (.reg [⟨some 29, .mv (.t 1), none⟩,
        ⟨some 30, .mv (.t 7), none⟩,
        ⟨some 31, .idxA 1 (.t 29) (.t 30), none⟩,
        ⟨some 32, .ld 1 false (.t 31), none⟩,
        ⟨some 33, .bin .lss (.t 32) (.k (.sc (.int .i64 (-4611686018427387904)))), none⟩,
        ⟨some 34, .mv (.t 33), none⟩,
        ⟨some 35, .mv (.t 1), (some (34, false))⟩,
        ⟨some 36, .mv (.t 7), (some (34, false))⟩,
        ⟨some 37, .idxA 1 (.t 35) (.t 36), (some (34, false))⟩,
        ⟨some 38, .ld 1 false (.t 37), (some (34, false))⟩,
        ⟨some 39, .bin .gtr (.t 38) (.k (.sc (.int .i64 4611686018427387904))), (some (34, false))⟩,
        ⟨some 40, .pick (.t 34) (.k (.sc (.bool true))) (.t 39), none⟩] [0, 1, 2, 7, 40])
     (.cond (.t 40)
       (.seq (.reg [⟨some 6, .mv (.k (.sc (.bool true))), none⟩] [6])
        (.ret))
       (.skip))))
   (.reg [⟨some 27, .mv (.t 7), none⟩,
      ⟨some 28, .bin .add (.t 27) (.k (.sc (.int .i64 1))), none⟩,
      ⟨some 7, .mv (.t 28), none⟩] [0, 1, 2, 7]))
/-- unravel/unravellaw24.PolymatrixNormal -/
def b6 : AC :=
  .seq (.reg [⟨some 6, .mv (.k (.sc (.bool false))), none⟩] [0, 1, 2])
  (.seq (.seq (.reg [⟨some 10, .call 9 [], none⟩,
       ⟨some 11, .un .not (.t 10), none⟩] [0, 1, 2, 11])
    (.cond (.t 11)
      (.seq (.reg [⟨some 6, .mv (.k (.sc (.bool false))), none⟩] [6])
       (.ret))
      (.skip)))
   (.seq (.seq (.reg [⟨some 12, .mv (.t 1), none⟩,
        ⟨some 13, .len false (.t 12), none⟩,
        ⟨some 14, .bin .gtr (.t 13) (.k (.sc (.int .i64 20))), none⟩,
        ⟨some 15, .mv (.t 14), none⟩,
        ⟨some 16, .mv (.t 0), (some (15, false))⟩,
        ⟨some 17, .bin .lss (.t 16) (.k (.sc (.int .i64 (-100)))), (some (15, false))⟩,
        ⟨some 18, .pick (.t 15) (.k (.sc (.bool true))) (.t 17), none⟩,
        ⟨some 19, .mv (.t 18), none⟩,
        ⟨some 20, .mv (.t 0), (some (19, false))⟩,
        ⟨some 21, .bin .gtr (.t 20) (.k (.sc (.int .i64 100))), (some (19, false))⟩,
        ⟨some 22, .pick (.t 19) (.k (.sc (.bool true))) (.t 21), none⟩] [0, 1, 2, 22])
     (.cond (.t 22)
       (.seq (.reg [⟨some 6, .mv (.k (.sc (.bool true))), none⟩] [6])
        (.ret))
       (.skip)))
    (.seq (.seq (.reg [⟨some 7, .mv (.k (.sc (.int .i64 0))), none⟩] [0, 1, 2, 7])
      (.block 0 (.loop [0, 1, 2, 7] b6L0)))
     (.seq (.reg [⟨some 41, .mv (.t 0), none⟩,
         ⟨some 42, .mv (.t 1), none⟩,
         ⟨some 43, .call 20 [(.t 41), (.t 42)], none⟩,
         ⟨some 8, .new [.bool false, .nilS], none⟩,
         ⟨none, .st 2 (.t 8) (.t 43), none⟩] [0, 1, 2, 8])
      (.seq (.reg [⟨some 44, .ld 2 true (.t 8), none⟩,
          ⟨some 45, .call 25 [(.t 44)], none⟩,
          ⟨some 9, .new [.bool false, .nilS], none⟩,
          ⟨none, .st 2 (.t 9) (.t 45), none⟩] [0, 1, 2, 8, 9])
       (.seq (.seq (.regd [(⟨some 46, .ld 2 true (.t 9), none⟩, 0, true),
            (⟨some 47, .call 15 [(.t 46), (.k (.sc (.str ⟨#[116]⟩)))], none⟩, 1, true),
            (⟨some 48, .mv (.t 0), none⟩, 2, false),
            (⟨some 49, .mv (.t 1), none⟩, 3, false),
            (⟨some 50, .call 27 [(.t 48), (.t 49)], none⟩, 4, true),
            (⟨some 51, .call 26 [(.t 50)], none⟩, 5, true),
            (⟨some 52, .call 16 [(.t 51), (.k (.sc (.str ⟨#[116]⟩)))], none⟩, 6, true),
            (⟨some 53, .bin .neq (.t 47) (.t 52), none⟩, 7, false),
            (⟨some 54, .mv (.t 53), none⟩, 8, false),
            (⟨some 55, .ld 2 true (.t 9), (some (54, false))⟩, 9, false),
            (⟨some 56, .call 25 [(.t 55)], (some (54, false))⟩, 10, false),
            (⟨some 57, .ld 2 true (.t 9), (some (54, false))⟩, 11, false),
            (⟨some 58, .call 23 [(.t 56), (.t 57)], (some (54, false))⟩, 12, true),
            (⟨some 59, .un .not (.t 58), (some (54, false))⟩, 13, false),
            (⟨some 60, .pick (.t 54) (.k (.sc (.bool true))) (.t 59), none⟩, 14, false)] [2, 8, 9, 60])
         (.cond (.t 60)
           (.seq (.reg [⟨some 6, .mv (.k (.sc (.bool false))), none⟩] [6])
            (.ret))
           (.skip)))
        (.seq (.regd [(⟨some 61, .ld 2 true (.t 8), none⟩, 0, false),
            (⟨some 62, .mv (.t 2), none⟩, 1, false),
            (⟨some 63, .conv .i64 (.t 62), none⟩, 2, false),
            (⟨some 64, .call 28 [(.t 61), (.t 63)], none⟩, 3, false),
            (⟨some 65, .call 25 [(.t 64)], none⟩, 4, false),
            (⟨some 66, .ld 2 true (.t 9), none⟩, 5, false),
            (⟨some 67, .call 23 [(.t 65), (.t 66)], none⟩, 6, true),
            (⟨some 68, .mv (.t 67), none⟩, 7, false),
            (⟨some 69, .ld 2 true (.t 8), (some (68, true))⟩, 8, false),
            (⟨some 70, .call 24 [(.t 69)], (some (68, true))⟩, 9, false),
            (⟨some 71, .call 25 [(.t 70)], (some (68, true))⟩, 10, false),
            (⟨some 72, .ld 2 true (.t 9), (some (68, true))⟩, 11, false),
            (⟨some 73, .call 23 [(.t 71), (.t 72)], (some (68, true))⟩, 12, true),
            (⟨some 74, .pick (.t 68) (.t 73) (.k (.sc (.bool false))), none⟩, 13, false),
            (⟨some 6, .mv (.t 74), none⟩, 14, false)] [6])
         (.ret))))))))
def a6 : AFun := ⟨3, b6, [.t 6]⟩

/-- unravel/unravellaw24.awake -/
def b9 : AC :=
  .seq (.reg [⟨some 0, .mv (.k (.sc (.bool false))), none⟩] [])
  (.seq (.reg [⟨some 6, .bsl 1 [.int .i64 0] 2 [(0, .k (.sc (.int .i64 1))), (1, .k (.sc (.int .i64 (-1))))], none⟩,
      ⟨some 7, .bld [.int .i64 0, .nilS] [(0, 1, .k (.sc (.int .i64 0))), (1, 1, .t 6)], none⟩,
      ⟨some 8, .bsl 1 [.int .i64 0] 1 [(0, .k (.sc (.int .i64 1)))], none⟩,
      ⟨some 9, .bld [.int .i64 0, .nilS] [(0, 1, .k (.sc (.int .i64 1))), (1, 1, .t 8)], none⟩,
      ⟨some 10, .bsl 2 [.int .i64 0, .nilS] 2 [(0, .t 7), (1, .t 9)], none⟩,
      ⟨some 11, .bsl 1 [.int .i64 0] 1 [(0, .k (.sc (.int .i64 (-1))))], none⟩,
      ⟨some 12, .bld [.int .i64 0, .nilS] [(0, 1, .k (.sc (.int .i64 0))), (1, 1, .t 11)], none⟩,
      ⟨some 13, .bsl 1 [.int .i64 0] 2 [(0, .k (.sc (.int .i64 1))), (1, .k (.sc (.int .i64 (-1))))], none⟩,
      ⟨some 14, .bld [.int .i64 0, .nilS] [(0, 1, .k (.sc (.int .i64 0))), (1, 1, .t 13)], none⟩,
      ⟨some 15, .bsl 2 [.int .i64 0, .nilS] 2 [(0, .t 12), (1, .t 14)], none⟩,
      ⟨some 16, .bsl 1 [.nilS] 2 [(0, .t 10), (1, .t 15)], none⟩,
      ⟨some 17, .call 12 [(.t 16)], none⟩,
      ⟨some 1, .mv (.t 17), none⟩] [1])
   (.seq (.reg [⟨some 19, .mv (.t 1), none⟩,
       ⟨some 20, .call 11 [(.t 19)], none⟩,
       ⟨some 18, .mv (.t 20), none⟩,
       ⟨some 21, .ext (.t 18) 0, none⟩,
       ⟨some 22, .ext (.t 18) 1, none⟩,
       ⟨some 2, .new [.bool false, .nilS], none⟩,
       ⟨none, .st 2 (.t 2) (.t 21), none⟩,
       ⟨some 3, .mv (.t 22), none⟩] [2, 3])
    (.seq (.reg [⟨some 24, .bsl 1 [.int .i64 0] 3 [(0, .k (.sc (.int .i64 2))), (1, .k (.sc (.int .i64 0))), (2, .k (.sc (.int .i64 (-2))))], none⟩,
        ⟨some 25, .call 20 [(.k (.sc (.int .i64 0))), (.t 24)], none⟩,
        ⟨some 26, .bsl 1 [.int .i64 0] 2 [(0, .k (.sc (.int .i64 4))), (1, .k (.sc (.int .i64 4)))], none⟩,
        ⟨some 27, .call 20 [(.k (.sc (.int .i64 0))), (.t 26)], none⟩,
        ⟨some 28, .call 29 [(.t 25), (.t 27)], none⟩,
        ⟨some 23, .mv (.t 28), none⟩,
        ⟨some 29, .ext (.t 23) 0, none⟩,
        ⟨some 30, .ext (.t 23) 1, none⟩,
        ⟨some 4, .new [.bool false, .nilS], none⟩,
        ⟨none, .st 2 (.t 4) (.t 29), none⟩,
        ⟨some 5, .mv (.t 30), none⟩] [2, 3, 4, 5])
     (.seq (.regd [(⟨some 31, .mv (.t 3), none⟩, 0, false),
         (⟨some 32, .bin .eql (.t 31) (.k (.sc (.int .i64 0))), none⟩, 1, false),
         (⟨some 33, .mv (.t 32), none⟩, 2, false),
         (⟨some 34, .ld 2 true (.t 2), (some (33, true))⟩, 3, true),
         (⟨some 35, .call 15 [(.t 34), (.k (.sc (.str ⟨#[116]⟩)))], (some (33, true))⟩, 4, true),
         (⟨some 36, .bin .eql (.t 35) (.k (.sc (.str ⟨#[49, 45, 116, 43, 116, 94, 50]⟩))), (some (33, true))⟩, 5, false),
         (⟨some 37, .pick (.t 33) (.t 36) (.k (.sc (.bool false))), none⟩, 6, false),
         (⟨some 38, .mv (.t 37), none⟩, 7, false),
         (⟨some 39, .ld 2 true (.t 2), (some (38, true))⟩, 8, false),
         (⟨some 40, .call 24 [(.t 39)], (some (38, true))⟩, 9, false),
         (⟨some 41, .call 28 [(.t 40), (.k (.sc (.int .i64 3)))], (some (38, true))⟩, 10, false),
         (⟨some 42, .call 25 [(.t 41)], (some (38, true))⟩, 11, false),
         (⟨some 43, .ld 2 true (.t 2), (some (38, true))⟩, 12, false),
         (⟨some 44, .call 23 [(.t 42), (.t 43)], (some (38, true))⟩, 13, true),
         (⟨some 45, .pick (.t 38) (.t 44) (.k (.sc (.bool false))), none⟩, 14, false),
         (⟨some 46, .mv (.t 45), none⟩, 15, false),
         (⟨some 47, .mv (.t 5), (some (46, true))⟩, 16, false),
         (⟨some 48, .bin .eql (.t 47) (.k (.sc (.int .i64 0))), (some (46, true))⟩, 17, false),
         (⟨some 49, .pick (.t 46) (.t 48) (.k (.sc (.bool false))), none⟩, 18, false),
         (⟨some 50, .mv (.t 49), none⟩, 19, false),
         (⟨some 51, .ld 2 true (.t 4), (some (50, true))⟩, 20, true),
         (⟨some 52, .call 15 [(.t 51), (.k (.sc (.str ⟨#[116]⟩)))], (some (50, true))⟩, 21, true),
         (⟨some 53, .bin .eql (.t 52) (.k (.sc (.str ⟨#[50, 43, 50, 116]⟩))), (some (50, true))⟩, 22, false),
         (⟨some 54, .pick (.t 50) (.t 53) (.k (.sc (.bool false))), none⟩, 23, false),
         (⟨some 0, .mv (.t 54), none⟩, 24, false)] [0])
      (.ret)))))
def a9 : AFun := ⟨0, b9, [.t 0]⟩

def b11L0 : AC :=
  .seq (.reg [⟨some 27, .bin .lss (.t 26) (.t 25), none⟩] [0, 2, 24, 25, 26, 27])
  (.seq (.cond (.t 27)
     (.skip)
     (.exit 1))
   (.seq (.block 2 (.seq (.reg [⟨some 28, .idxA 1 (.t 24) (.t 26), none⟩,
         ⟨some 29, .ld 1 false (.t 28), none⟩,
         ⟨some 5, .mv (.t 29), none⟩] [0, 2, 5, 24, 25, 26])
      (.seq (.reg [⟨some 30, .mv (.t 5), none⟩,
          ⟨some 31, .call 38 [(.t 30), (.k (.sc (.fn 39 [])))], none⟩] [0, 2, 24, 25, 26, 31])
       (.cond (.t 31)
         (.seq (.reg [⟨some 32, .bld [.bool false, .nilS] [], none⟩,
             ⟨none, .st 2 (.t 2) (.t 32), none⟩,
             ⟨some 3, .mv (.k (.sc (.int .i64 9))), none⟩] [2, 3])
          (.ret))
         (.skip)))))
    (.reg [⟨some 33, .bin .add (.t 26) (.k (.sc (.int .i64 1))), none⟩,
       ⟨some 26, .mv (.t 33), none⟩] [0, 2, 24, 25, 26])))
/-- unravel/polymatrix.Det -/
def b11 : AC :=
  .seq (.reg [⟨some 2, .new [.bool false, .nilS], none⟩,
     ⟨some 3, .mv (.k (.sc (.int .i64 0))), none⟩] [0, 2])
  (.seq (.block 0 (.seq (.reg [⟨some 9, .mv (.t 0), none⟩,
        ⟨some 10, .call 35 [(.t 9)], none⟩,
        ⟨some 11, .un .not (.t 10), none⟩,
        ⟨some 8, .mv (.t 11), none⟩] [0, 2, 8])
     (.cond (.t 8)
       (.seq (.reg [⟨some 12, .bld [.bool false, .nilS] [], none⟩,
           ⟨none, .st 2 (.t 2) (.t 12), none⟩,
           ⟨some 3, .mv (.k (.sc (.int .i64 3))), none⟩] [2, 3])
        (.ret))
       (.seq (.reg [⟨some 14, .mv (.t 0), none⟩,
           ⟨some 15, .call 36 [(.t 14)], none⟩,
           ⟨some 13, .mv (.t 15), none⟩] [0, 2, 13])
        (.cond (.t 13)
          (.seq (.reg [⟨some 16, .bld [.bool false, .nilS] [], none⟩,
              ⟨none, .st 2 (.t 2) (.t 16), none⟩,
              ⟨some 3, .mv (.k (.sc (.int .i64 5))), none⟩] [2, 3])
           (.ret))
          (.seq (.reg [⟨some 18, .mv (.t 0), none⟩,
              ⟨some 19, .len false (.t 18), none⟩,
              ⟨some 20, .mv (.t 0), none⟩,
              ⟨some 21, .call 37 [(.t 20)], none⟩,
              ⟨some 22, .bin .neq (.t 19) (.t 21), none⟩,
              ⟨some 17, .mv (.t 22), none⟩] [0, 2, 17])
           (.cond (.t 17)
             (.seq (.reg [⟨some 23, .bld [.bool false, .nilS] [], none⟩,
                 ⟨none, .st 2 (.t 2) (.t 23), none⟩,
                 ⟨some 3, .mv (.k (.sc (.int .i64 3))), none⟩] [2, 3])
              (.ret))
             (.skip))))))))
   (.seq (.seq (.reg [⟨some 24, .mv (.t 0), none⟩,
        ⟨some 25, .len false (.t 24), none⟩,
        ⟨some 26, .mv (.k (.sc (.int .i64 0))), none⟩] [0, 2, 24, 25, 26])
     (.block 1 (.loop [0, 2, 24, 25, 26] b11L0)))
    (.seq (.reg [⟨some 35, .mv (.t 0), none⟩,
        ⟨some 36, .call 40 [(.t 35)], none⟩,
        ⟨some 34, .mv (.t 36), none⟩,
        ⟨some 37, .ext (.t 34) 0, none⟩,
        ⟨some 38, .ext (.t 34) 1, none⟩,
        ⟨some 6, .new [.bool false, .nilS], none⟩,
        ⟨none, .st 2 (.t 6) (.t 37), none⟩,
        ⟨some 7, .mv (.t 38), none⟩] [2, 6, 7])
     (.seq (.seq (.reg [⟨some 39, .mv (.t 7), none⟩,
          ⟨some 40, .un .not (.t 39), none⟩,
          ⟨some 41, .mv (.t 40), none⟩,
          ⟨some 42, .ld 2 true (.t 6), (some (41, false))⟩,
          ⟨some 43, .call 39 [(.t 42)], (some (41, false))⟩,
          ⟨some 44, .pick (.t 41) (.k (.sc (.bool true))) (.t 43), none⟩] [2, 6, 44])
       (.cond (.t 44)
         (.seq (.reg [⟨some 45, .bld [.bool false, .nilS] [], none⟩,
             ⟨none, .st 2 (.t 2) (.t 45), none⟩,
             ⟨some 3, .mv (.k (.sc (.int .i64 9))), none⟩] [2, 3])
          (.ret))
         (.skip)))
      (.seq (.reg [⟨some 46, .ld 2 true (.t 6), none⟩,
          ⟨none, .st 2 (.t 2) (.t 46), none⟩,
          ⟨some 3, .mv (.k (.sc (.int .i64 0))), none⟩] [2, 3])
       (.ret))))))
def a11 : AFun := ⟨1, b11, [.cell 2 2 true, .t 3]⟩

def b12L1 : AC :=
  .seq (.seq (.reg [⟨some 15, .mv (.t 6), none⟩,
      ⟨some 16, .mv (.t 0), none⟩,
      ⟨some 17, .mv (.t 4), none⟩,
      ⟨some 18, .idxA 1 (.t 16) (.t 17), none⟩,
      ⟨some 19, .ld 1 false (.t 18), none⟩,
      ⟨some 20, .len false (.t 19), none⟩,
      ⟨some 21, .bin .lss (.t 15) (.t 20), none⟩] [0, 3, 4, 5, 6, 21])
   (.cond (.t 21)
     (.skip)
     (.exit 2)))
  (.seq (.block 3 (.regd [(⟨some 24, .mv (.t 5), none⟩, 0, false),
       (⟨some 25, .mv (.t 0), none⟩, 1, false),
       (⟨some 26, .mv (.t 4), none⟩, 2, false),
       (⟨some 27, .idxA 1 (.t 25) (.t 26), none⟩, 3, false),
       (⟨some 28, .ld 1 false (.t 27), none⟩, 4, false),
       (⟨some 29, .mv (.t 6), none⟩, 5, false),
       (⟨some 30, .idxA 2 (.t 28) (.t 29), none⟩, 6, false),
       (⟨some 31, .fldA 0 (.t 30), none⟩, 7, false),
       (⟨some 32, .ld 1 false (.t 31), none⟩, 8, false),
       (⟨some 33, .mv (.t 0), none⟩, 9, false),
       (⟨some 34, .mv (.t 4), none⟩, 10, false),
       (⟨some 35, .idxA 1 (.t 33) (.t 34), none⟩, 11, false),
       (⟨some 36, .ld 1 false (.t 35), none⟩, 12, false),
       (⟨some 37, .mv (.t 6), none⟩, 13, false),
       (⟨some 38, .idxA 2 (.t 36) (.t 37), none⟩, 14, false),
       (⟨some 39, .fldA 1 (.t 38), none⟩, 15, false),
       (⟨some 40, .ld 1 false (.t 39), none⟩, 16, false),
       (⟨some 41, .call 20 [(.t 32), (.t 40)], none⟩, 17, true),
       (⟨some 42, .bsl 2 [.bool false, .nilS] 1 [(0, .t 41)], none⟩, 18, true),
       (⟨some 43, .app 2 32 [.bool false, .nilS] (.t 24) (.t 42), none⟩, 19, true),
       (⟨some 5, .mv (.t 43), none⟩, 20, false)] [0, 3, 4, 5, 6]))
   (.reg [⟨some 22, .mv (.t 6), none⟩,
      ⟨some 23, .bin .add (.t 22) (.k (.sc (.int .i64 1))), none⟩,
      ⟨some 6, .mv (.t 23), none⟩] [0, 3, 4, 5, 6]))
def b12L0 : AC :=
  .seq (.seq (.reg [⟨some 8, .mv (.t 4), none⟩,
      ⟨some 9, .mv (.t 0), none⟩,
      ⟨some 10, .len false (.t 9), none⟩,
      ⟨some 11, .bin .lss (.t 8) (.t 10), none⟩] [0, 3, 4, 11])
   (.cond (.t 11)
     (.skip)
     (.exit 0)))
  (.seq (.block 1 (.seq (.reg [⟨some 14, .bsl 2 [.bool false, .nilS] 0 [], none⟩,
        ⟨some 5, .mv (.t 14), none⟩] [0, 3, 4, 5])
     (.seq (.seq (.reg [⟨some 6, .mv (.k (.sc (.int .i64 0))), none⟩] [0, 3, 4, 5, 6])
       (.block 2 (.loop [0, 3, 4, 5, 6] b12L1)))
      (.reg [⟨some 44, .mv (.t 3), none⟩,
         ⟨some 45, .mv (.t 5), none⟩,
         ⟨some 46, .bsl 1 [.nilS] 1 [(0, .t 45)], none⟩,
         ⟨some 47, .app 1 24 [.nilS] (.t 44) (.t 46), none⟩,
         ⟨some 3, .mv (.t 47), none⟩] [0, 3, 4]))))
   (.reg [⟨some 12, .mv (.t 4), none⟩,
      ⟨some 13, .bin .add (.t 12) (.k (.sc (.int .i64 1))), none⟩,
      ⟨some 4, .mv (.t 13), none⟩] [0, 3, 4]))
/-- unravel/unravellaw24.matrix -/
def b12 : AC :=
  .seq (.reg [⟨some 2, .mv (.k (.sc .nilS)), none⟩] [0])
  (.seq (.reg [⟨some 7, .bsl 1 [.nilS] 0 [], none⟩,
      ⟨some 3, .mv (.t 7), none⟩] [0, 3])
   (.seq (.seq (.reg [⟨some 4, .mv (.k (.sc (.int .i64 0))), none⟩] [0, 3, 4])
     (.block 0 (.loop [0, 3, 4] b12L0)))
    (.seq (.reg [⟨some 48, .mv (.t 3), none⟩,
        ⟨some 2, .mv (.t 48), none⟩] [2])
     (.ret))))
def a12 : AFun := ⟨1, b12, [.t 2]⟩

/-- (unravel/laurent.Poly).Zero -/
def b14 : AC :=
  .seq (.reg [⟨some 1, .box (.t 0), none⟩,
     ⟨some 2, .mv (.k (.sc (.bool false))), none⟩] [1])
  (.seq (.reg [⟨some 3, .fldA 0 (.t 1), none⟩,
      ⟨some 4, .ld 1 false (.t 3), none⟩,
      ⟨some 5, .un .not (.t 4), none⟩,
      ⟨some 6, .mv (.t 5), none⟩,
      ⟨some 7, .fldA 1 (.t 1), (some (6, true))⟩,
      ⟨some 8, .ld 1 false (.t 7), (some (6, true))⟩,
      ⟨some 9, .len false (.t 8), (some (6, true))⟩,
      ⟨some 10, .bin .eql (.t 9) (.k (.sc (.int .i64 0))), (some (6, true))⟩,
      ⟨some 11, .pick (.t 6) (.t 10) (.k (.sc (.bool false))), none⟩,
      ⟨some 2, .mv (.t 11), none⟩] [2])
   (.ret))
def a14 : AFun := ⟨1, b14, [.t 2]⟩

def b15L0 : AC :=
  .seq (.reg [⟨some 21, .bin .lss (.t 20) (.t 19), none⟩] [1, 5, 18, 19, 20, 21])
  (.seq (.cond (.t 21)
     (.skip)
     (.exit 1))
   (.seq (.block 2 (.seq (.reg [⟨some 22, .mv (.t 20), none⟩,
         ⟨some 23, .idxA 2 (.t 18) (.t 20), none⟩,
         ⟨some 24, .ld 2 true (.t 23), none⟩,
         ⟨some 7, .new [.int .i64 0, .int .i64 0], none⟩,
         ⟨some 6, .mv (.t 22), none⟩,
         ⟨none, .st 2 (.t 7) (.t 24), none⟩] [1, 5, 6, 7, 18, 19, 20])
      (.seq (.reg [⟨some 25, .fldA 1 (.t 7), none⟩,
          ⟨some 26, .ld 1 false (.t 25), none⟩,
          ⟨some 8, .mv (.t 26), none⟩] [1, 5, 6, 7, 8, 18, 19, 20])
       (.seq (.seq (.reg [⟨some 27, .mv (.t 8), none⟩,
            ⟨some 28, .bin .lss (.t 27) (.k (.sc (.int .i64 0))), none⟩] [1, 5, 6, 7, 8, 18, 19, 20, 28])
         (.cond (.t 28)
           (.seq (.reg [⟨some 29, .call 41 [(.t 5), (.k (.sc (.int .u8 45)))], none⟩] [1, 5, 7, 8, 18, 19, 20])
            (.reg [⟨some 30, .mv (.t 8), none⟩,
               ⟨some 31, .un .neg (.t 30), none⟩,
               ⟨some 8, .mv (.t 31), none⟩] [1, 5, 7, 8, 18, 19, 20]))
           (.seq (.reg [⟨some 32, .mv (.t 6), none⟩,
               ⟨some 33, .bin .gtr (.t 32) (.k (.sc (.int .i64 0))), none⟩] [1, 5, 7, 8, 18, 19, 20, 33])
            (.cond (.t 33)
              (.reg [⟨some 34, .call 41 [(.t 5), (.k (.sc (.int .u8 43)))], none⟩] [1, 5, 7, 8, 18, 19, 20])
              (.skip)))))
        (.seq (.seq (.reg [⟨some 35, .mv (.t 8), none⟩,
             ⟨some 36, .bin .neq (.t 35) (.k (.sc (.int .i64 1))), none⟩,
             ⟨some 37, .mv (.t 36), none⟩,
             ⟨some 38, .fldA 0 (.t 7), (some (37, false))⟩,
             ⟨some 39, .ld 1 false (.t 38), (some (37, false))⟩,
             ⟨some 40, .bin .eql (.t 39) (.k (.sc (.int .i64 0))), (some (37, false))⟩,
             ⟨some 41, .pick (.t 37) (.k (.sc (.bool true))) (.t 40), none⟩] [1, 5, 7, 8, 18, 19, 20, 41])
          (.cond (.t 41)
            (.reg [⟨some 42, .mv (.t 8), none⟩,
               ⟨some 43, .call 43 [(.t 42)], none⟩,
               ⟨some 44, .call 42 [(.t 5), (.t 43)], none⟩] [1, 5, 7, 18, 19, 20])
            (.skip)))
         (.seq (.seq (.reg [⟨some 45, .fldA 0 (.t 7), none⟩,
              ⟨some 46, .ld 1 false (.t 45), none⟩,
              ⟨some 47, .bin .neq (.t 46) (.k (.sc (.int .i64 0))), none⟩] [1, 5, 7, 18, 19, 20, 47])
           (.cond (.t 47)
             (.reg [⟨some 48, .mv (.t 1), none⟩,
                ⟨some 49, .call 42 [(.t 5), (.t 48)], none⟩] [1, 5, 7, 18, 19, 20])
             (.skip)))
          (.seq (.reg [⟨some 50, .fldA 0 (.t 7), none⟩,
              ⟨some 51, .ld 1 false (.t 50), none⟩,
              ⟨some 52, .bin .neq (.t 51) (.k (.sc (.int .i64 0))), none⟩,
              ⟨some 53, .mv (.t 52), none⟩,
              ⟨some 54, .fldA 0 (.t 7), (some (53, true))⟩,
              ⟨some 55, .ld 1 false (.t 54), (some (53, true))⟩,
              ⟨some 56, .bin .neq (.t 55) (.k (.sc (.int .i64 1))), (some (53, true))⟩,
              ⟨some 57, .pick (.t 53) (.t 56) (.k (.sc (.bool false))), none⟩] [1, 5, 7, 18, 19, 20, 57])
           (.cond (.t 57)
             (.seq (.reg [⟨some 58, .call 41 [(.t 5), (.k (.sc (.int .u8 94)))], none⟩] [1, 5, 7, 18, 19, 20])
              (.reg [⟨some 59, .fldA 0 (.t 7), none⟩,
                 ⟨some 60, .ld 1 false (.t 59), none⟩,
                 ⟨some 61, .call 43 [(.t 60)], none⟩,
                 ⟨some 62, .call 42 [(.t 5), (.t 61)], none⟩] [1, 5, 18, 19, 20]))
             (.skip)))))))))
    (.reg [⟨some 63, .bin .add (.t 20) (.k (.sc (.int .i64 1))), none⟩,
       ⟨some 20, .mv (.t 63), none⟩] [1, 5, 18, 19, 20])))
/-- (unravel/laurent.Poly).Text -/
def b15 : AC :=
  .seq (.reg [⟨some 2, .box (.t 0), none⟩,
     ⟨some 4, .mv (.k (.sc (.str ⟨#[]⟩))), none⟩] [1, 2])
  (.seq (.block 0 (.seq (.reg [⟨some 10, .fldA 0 (.t 2), none⟩,
        ⟨some 11, .ld 1 false (.t 10), none⟩,
        ⟨some 9, .mv (.t 11), none⟩] [1, 2, 9])
     (.cond (.t 9)
       (.seq (.reg [⟨some 4, .mv (.k (.sc (.str ⟨#[98, 105, 103]⟩))), none⟩] [4])
        (.ret))
       (.seq (.reg [⟨some 13, .fldA 1 (.t 2), none⟩,
           ⟨some 14, .ld 1 false (.t 13), none⟩,
           ⟨some 15, .len false (.t 14), none⟩,
           ⟨some 16, .bin .eql (.t 15) (.k (.sc (.int .i64 0))), none⟩,
           ⟨some 12, .mv (.t 16), none⟩] [1, 2, 12])
        (.cond (.t 12)
          (.seq (.reg [⟨some 4, .mv (.k (.sc (.str ⟨#[48]⟩))), none⟩] [4])
           (.ret))
          (.skip))))))
   (.seq (.reg [⟨some 5, .newT 77 [.nilP, .nilS], none⟩] [1, 2, 5])
    (.seq (.seq (.reg [⟨some 17, .fldA 1 (.t 2), none⟩,
         ⟨some 18, .ld 1 false (.t 17), none⟩,
         ⟨some 19, .len false (.t 18), none⟩,
         ⟨some 20, .mv (.k (.sc (.int .i64 0))), none⟩] [1, 5, 18, 19, 20])
      (.block 1 (.loop [1, 5, 18, 19, 20] b15L0)))
     (.seq (.reg [⟨some 64, .call 44 [(.t 5)], none⟩,
         ⟨some 4, .mv (.t 64), none⟩] [4])
      (.ret)))))
def a15 : AFun := ⟨2, b15, [.t 4]⟩

def b16L0 : AC :=
  .seq (.seq (.reg [⟨some 15, .mv (.t 6), none⟩,
      ⟨some 16, .fldA 0 (.t 2), none⟩,
      ⟨some 17, .ld 1 false (.t 16), none⟩,
      ⟨some 18, .len false (.t 17), none⟩,
      ⟨some 19, .bin .lss (.t 15) (.t 18), none⟩] [1, 2, 5, 6, 19])
   (.cond (.t 19)
     (.skip)
     (.exit 0)))
  (.seq (.block 1 (.seq (.reg [⟨some 22, .fldA 0 (.t 2), none⟩,
        ⟨some 23, .ld 1 false (.t 22), none⟩,
        ⟨some 24, .mv (.t 6), none⟩,
        ⟨some 25, .idxA 2 (.t 23) (.t 24), none⟩,
        ⟨some 26, .ld 2 true (.t 25), none⟩,
        ⟨some 7, .new [.int .i64 0, .int .i64 0], none⟩,
        ⟨none, .st 2 (.t 7) (.t 26), none⟩] [1, 2, 5, 6, 7])
     (.seq (.reg [⟨some 27, .fldA 1 (.t 7), none⟩,
         ⟨some 28, .ld 1 false (.t 27), none⟩,
         ⟨some 8, .mv (.t 28), none⟩] [1, 2, 5, 6, 7, 8])
      (.seq (.seq (.reg [⟨some 29, .fldA 1 (.t 7), none⟩,
           ⟨some 30, .ld 1 false (.t 29), none⟩,
           ⟨some 31, .bin .lss (.t 30) (.k (.sc (.int .i64 0))), none⟩] [1, 2, 5, 6, 7, 8, 31])
        (.cond (.t 31)
          (.seq (.reg [⟨some 32, .mv (.t 5), none⟩,
              ⟨some 33, .bin .add (.t 32) (.k (.sc (.str ⟨#[45]⟩))), none⟩,
              ⟨some 5, .mv (.t 33), none⟩] [1, 2, 5, 6, 7])
           (.reg [⟨some 34, .fldA 1 (.t 7), none⟩,
              ⟨some 35, .ld 1 false (.t 34), none⟩,
              ⟨some 36, .un .neg (.t 35), none⟩,
              ⟨some 8, .mv (.t 36), none⟩] [1, 2, 5, 6, 7, 8]))
          (.seq (.reg [⟨some 37, .mv (.t 6), none⟩,
              ⟨some 38, .bin .gtr (.t 37) (.k (.sc (.int .i64 0))), none⟩] [1, 2, 5, 6, 7, 8, 38])
           (.cond (.t 38)
             (.reg [⟨some 39, .mv (.t 5), none⟩,
                ⟨some 40, .bin .add (.t 39) (.k (.sc (.str ⟨#[43]⟩))), none⟩,
                ⟨some 5, .mv (.t 40), none⟩] [1, 2, 5, 6, 7, 8])
             (.skip)))))
       (.seq (.seq (.reg [⟨some 41, .mv (.t 8), none⟩,
            ⟨some 42, .bin .neq (.t 41) (.k (.sc (.int .i64 1))), none⟩,
            ⟨some 43, .mv (.t 42), none⟩,
            ⟨some 44, .fldA 0 (.t 7), (some (43, false))⟩,
            ⟨some 45, .ld 1 false (.t 44), (some (43, false))⟩,
            ⟨some 46, .bin .eql (.t 45) (.k (.sc (.int .i64 0))), (some (43, false))⟩,
            ⟨some 47, .pick (.t 43) (.k (.sc (.bool true))) (.t 46), none⟩] [1, 2, 5, 6, 7, 8, 47])
         (.cond (.t 47)
           (.reg [⟨some 48, .mv (.t 5), none⟩,
              ⟨some 49, .mv (.t 8), none⟩,
              ⟨some 50, .call 45 [(.t 49)], none⟩,
              ⟨some 51, .bin .add (.t 48) (.t 50), none⟩,
              ⟨some 5, .mv (.t 51), none⟩] [1, 2, 5, 6, 7])
           (.skip)))
        (.seq (.seq (.reg [⟨some 52, .fldA 0 (.t 7), none⟩,
             ⟨some 53, .ld 1 false (.t 52), none⟩,
             ⟨some 54, .bin .neq (.t 53) (.k (.sc (.int .i64 0))), none⟩] [1, 2, 5, 6, 7, 54])
          (.cond (.t 54)
            (.reg [⟨some 55, .mv (.t 5), none⟩,
               ⟨some 56, .mv (.t 1), none⟩,
               ⟨some 57, .bin .add (.t 55) (.t 56), none⟩,
               ⟨some 5, .mv (.t 57), none⟩] [1, 2, 5, 6, 7])
            (.skip)))
         (.seq (.reg [⟨some 58, .fldA 0 (.t 7), none⟩,
             ⟨some 59, .ld 1 false (.t 58), none⟩,
             ⟨some 60, .bin .neq (.t 59) (.k (.sc (.int .i64 0))), none⟩,
             ⟨some 61, .mv (.t 60), none⟩,
             ⟨some 62, .fldA 0 (.t 7), (some (61, true))⟩,
             ⟨some 63, .ld 1 false (.t 62), (some (61, true))⟩,
             ⟨some 64, .bin .neq (.t 63) (.k (.sc (.int .i64 1))), (some (61, true))⟩,
             ⟨some 65, .pick (.t 61) (.t 64) (.k (.sc (.bool false))), none⟩] [1, 2, 5, 6, 7, 65])
          (.cond (.t 65)
            (.reg [⟨some 66, .mv (.t 5), none⟩,
               ⟨some 67, .bin .add (.t 66) (.k (.sc (.str ⟨#[94]⟩))), none⟩,
               ⟨some 68, .fldA 0 (.t 7), none⟩,
               ⟨some 69, .ld 1 false (.t 68), none⟩,
               ⟨some 70, .call 45 [(.t 69)], none⟩,
               ⟨some 71, .bin .add (.t 67) (.t 70), none⟩,
               ⟨some 5, .mv (.t 71), none⟩] [1, 2, 5, 6])
            (.skip)))))))))
   (.reg [⟨some 20, .mv (.t 6), none⟩,
      ⟨some 21, .bin .add (.t 20) (.k (.sc (.int .i64 1))), none⟩,
      ⟨some 6, .mv (.t 21), none⟩] [1, 2, 5, 6]))
/-- unravel/unravelref12.Text -/
def b16 : AC :=
  .seq (.reg [⟨some 2, .box (.t 0), none⟩,
     ⟨some 4, .mv (.k (.sc (.str ⟨#[]⟩))), none⟩] [1, 2])
  (.seq (.seq (.reg [⟨some 9, .fldA 1 (.t 2), none⟩,
       ⟨some 10, .ld 1 false (.t 9), none⟩] [1, 2, 10])
    (.cond (.t 10)
      (.seq (.reg [⟨some 4, .mv (.k (.sc (.str ⟨#[98, 105, 103]⟩))), none⟩] [4])
       (.ret))
      (.skip)))
   (.seq (.seq (.reg [⟨some 11, .fldA 0 (.t 2), none⟩,
        ⟨some 12, .ld 1 false (.t 11), none⟩,
        ⟨some 13, .len false (.t 12), none⟩,
        ⟨some 14, .bin .eql (.t 13) (.k (.sc (.int .i64 0))), none⟩] [1, 2, 14])
     (.cond (.t 14)
       (.seq (.reg [⟨some 4, .mv (.k (.sc (.str ⟨#[48]⟩))), none⟩] [4])
        (.ret))
       (.skip)))
    (.seq (.reg [⟨some 5, .mv (.k (.sc (.str ⟨#[]⟩))), none⟩] [1, 2, 5])
     (.seq (.seq (.reg [⟨some 6, .mv (.k (.sc (.int .i64 0))), none⟩] [1, 2, 5, 6])
       (.block 0 (.loop [1, 2, 5, 6] b16L0)))
      (.seq (.reg [⟨some 72, .mv (.t 5), none⟩,
          ⟨some 4, .mv (.t 72), none⟩] [4])
       (.ret))))))
def a16 : AFun := ⟨2, b16, [.t 4]⟩

def b20L0 : AC :=
  .seq (.reg [⟨some 11, .bin .lss (.t 10) (.t 9), none⟩] [0, 4, 5, 8, 9, 10, 11])
  (.seq (.cond (.t 11)
     (.skip)
     (.exit 0))
   (.seq (.block 1 (.seq (.reg [⟨some 12, .mv (.t 10), none⟩,
         ⟨some 13, .idxA 1 (.t 8) (.t 10), none⟩,
         ⟨some 14, .ld 1 false (.t 13), none⟩,
         ⟨some 6, .mv (.t 12), none⟩,
         ⟨some 7, .mv (.t 14), none⟩] [0, 4, 5, 6, 7, 8, 9, 10])
      (.seq (.seq (.reg [⟨some 15, .mv (.t 7), none⟩,
           ⟨some 16, .bin .eql (.t 15) (.k (.sc (.int .i64 0))), none⟩] [0, 4, 5, 6, 7, 8, 9, 10, 16])
        (.cond (.t 16)
          (.exit 1)
          (.skip)))
       (.seq (.seq (.reg [⟨some 17, .mv (.t 7), none⟩,
            ⟨some 18, .call 50 [(.t 17), (.k (.sc (.int .i64 1125899906842624)))], none⟩,
            ⟨some 19, .un .not (.t 18), none⟩,
            ⟨some 20, .mv (.t 19), none⟩,
            ⟨some 21, .mv (.t 0), (some (20, false))⟩,
            ⟨some 22, .bin .gtr (.t 21) (.k (.sc (.int .i64 1048576))), (some (20, false))⟩,
            ⟨some 23, .pick (.t 20) (.k (.sc (.bool true))) (.t 22), none⟩,
            ⟨some 24, .mv (.t 23), none⟩,
            ⟨some 25, .mv (.t 0), (some (24, false))⟩,
            ⟨some 26, .mv (.t 6), (some (24, false))⟩,
            ⟨some 27, .bin .add (.t 25) (.t 26), (some (24, false))⟩,
            ⟨some 28, .call 50 [(.t 27), (.k (.sc (.int .i64 1048576)))], (some (24, false))⟩,
            ⟨some 29, .un .not (.t 28), (some (24, false))⟩,
            ⟨some 30, .pick (.t 24) (.k (.sc (.bool true))) (.t 29), none⟩] [0, 4, 5, 6, 7, 8, 9, 10, 30])
         (.cond (.t 30)
           (.seq (.reg [⟨some 31, .bld [.bool false, .nilS] [(0, 1, .k (.sc (.bool true)))], none⟩,
               ⟨none, .st 2 (.t 4) (.t 31), none⟩] [4])
            (.ret))
           (.skip)))
        (.reg [⟨some 32, .fldA 1 (.t 5), none⟩,
           ⟨some 33, .ld 1 false (.t 32), none⟩,
           ⟨some 34, .mv (.t 0), none⟩,
           ⟨some 35, .mv (.t 6), none⟩,
           ⟨some 36, .bin .add (.t 34) (.t 35), none⟩,
           ⟨some 37, .mv (.t 7), none⟩,
           ⟨some 38, .bld [.int .i64 0, .int .i64 0] [(0, 1, .t 36), (1, 1, .t 37)], none⟩,
           ⟨some 39, .bsl 2 [.int .i64 0, .int .i64 0] 1 [(0, .t 38)], none⟩,
           ⟨some 40, .app 2 16 [.int .i64 0, .int .i64 0] (.t 33) (.t 39), none⟩,
           ⟨some 41, .fldA 1 (.t 5), none⟩,
           ⟨none, .st 1 (.t 41) (.t 40), none⟩] [0, 4, 5, 8, 9, 10])))))
    (.reg [⟨some 42, .bin .add (.t 10) (.k (.sc (.int .i64 1))), none⟩,
       ⟨some 10, .mv (.t 42), none⟩] [0, 4, 5, 8, 9, 10])))
/-- unravel/laurent.Of -/
def b20 : AC :=
  .seq (.reg [⟨some 4, .new [.bool false, .nilS], none⟩] [0, 1, 4])
  (.seq (.reg [⟨some 5, .new [.bool false, .nilS], none⟩] [0, 1, 4, 5])
   (.seq (.seq (.reg [⟨some 8, .mv (.t 1), none⟩,
        ⟨some 9, .len false (.t 8), none⟩,
        ⟨some 10, .mv (.k (.sc (.int .i64 0))), none⟩] [0, 4, 5, 8, 9, 10])
     (.block 0 (.loop [0, 4, 5, 8, 9, 10] b20L0)))
    (.seq (.reg [⟨some 43, .ld 2 true (.t 5), none⟩,
        ⟨none, .st 2 (.t 4) (.t 43), none⟩] [4])
     (.ret))))
def a20 : AFun := ⟨2, b20, [.cell 4 2 true]⟩

/-- (unravel/laurent.Poly).Add -/
def b21 : AC :=
  .seq (.reg [⟨some 2, .box (.t 0), none⟩,
     ⟨some 3, .box (.t 1), none⟩,
     ⟨some 4, .new [.bool false, .nilS], none⟩] [2, 3, 4])
  (.seq (.reg [⟨some 5, .ld 2 true (.t 2), none⟩,
      ⟨some 6, .ld 2 true (.t 3), none⟩,
      ⟨some 7, .call 51 [(.t 5), (.t 6), (.k (.sc (.fn 52 [])))], none⟩,
      ⟨none, .st 2 (.t 4) (.t 7), none⟩] [4])
   (.ret))
def a21 : AFun := ⟨2, b21, [.cell 4 2 true]⟩

/-- (unravel/laurent.Poly).Equal -/
def b23 : AC :=
  .seq (.reg [⟨some 2, .box (.t 0), none⟩,
     ⟨some 3, .box (.t 1), none⟩,
     ⟨some 4, .mv (.k (.sc (.bool false))), none⟩] [2, 3])
  (.seq (.reg [⟨some 5, .fldA 0 (.t 2), none⟩,
      ⟨some 6, .ld 1 false (.t 5), none⟩,
      ⟨some 7, .fldA 0 (.t 3), none⟩,
      ⟨some 8, .ld 1 false (.t 7), none⟩,
      ⟨some 9, .beq false (.t 6) (.t 8), none⟩,
      ⟨some 10, .mv (.t 9), none⟩,
      ⟨some 11, .fldA 1 (.t 2), (some (10, true))⟩,
      ⟨some 12, .ld 1 false (.t 11), (some (10, true))⟩,
      ⟨some 13, .fldA 1 (.t 3), (some (10, true))⟩,
      ⟨some 14, .ld 1 false (.t 13), (some (10, true))⟩,
      ⟨some 15, .call 60 [(.t 12), (.t 14)], (some (10, true))⟩,
      ⟨some 16, .pick (.t 10) (.t 15) (.k (.sc (.bool false))), none⟩,
      ⟨some 4, .mv (.t 16), none⟩] [4])
   (.ret))
def a23 : AFun := ⟨2, b23, [.t 4]⟩

/-- (unravel/laurent.Poly).Neg -/
def b24 : AC :=
  .seq (.reg [⟨some 1, .box (.t 0), none⟩,
     ⟨some 2, .new [.bool false, .nilS], none⟩] [1, 2])
  (.seq (.reg [⟨some 3, .bld [.bool false, .nilS] [], none⟩,
      ⟨some 4, .ld 2 true (.t 1), none⟩,
      ⟨some 5, .call 51 [(.t 3), (.t 4), (.k (.sc (.fn 61 [])))], none⟩,
      ⟨none, .st 2 (.t 2) (.t 5), none⟩] [2])
   (.ret))
def a24 : AFun := ⟨1, b24, [.cell 2 2 true]⟩

/-- unravel/polymatrix.Normal -/
def b25 : AC :=
  .seq (.reg [⟨some 1, .box (.t 0), none⟩,
     ⟨some 2, .new [.bool false, .nilS], none⟩] [1, 2])
  (.seq (.seq (.reg [⟨some 3, .ld 2 true (.t 1), none⟩,
       ⟨some 4, .call 39 [(.t 3)], none⟩,
       ⟨some 5, .mv (.t 4), none⟩,
       ⟨some 6, .ld 2 true (.t 1), (some (5, false))⟩,
       ⟨some 7, .call 14 [(.t 6)], (some (5, false))⟩,
       ⟨some 8, .pick (.t 5) (.k (.sc (.bool true))) (.t 7), none⟩] [1, 2, 8])
    (.cond (.t 8)
      (.seq (.reg [⟨some 9, .ld 2 true (.t 1), none⟩,
          ⟨none, .st 2 (.t 2) (.t 9), none⟩] [2])
       (.ret))
      (.skip)))
   (.seq (.seq (.regd [(⟨some 10, .ld 2 true (.t 1), none⟩, 0, false),
        (⟨some 11, .ld 2 true (.t 1), none⟩, 1, false),
        (⟨some 12, .call 53 [(.t 11)], none⟩, 2, false),
        (⟨some 13, .call 62 [(.t 10), (.t 12)], none⟩, 3, true),
        (⟨some 14, .bin .lss (.t 13) (.k (.sc (.int .i64 0))), none⟩, 4, false)] [1, 2, 14])
     (.cond (.t 14)
       (.reg [⟨some 15, .ld 2 true (.t 1), none⟩,
          ⟨some 16, .call 24 [(.t 15)], none⟩,
          ⟨none, .st 2 (.t 1) (.t 16), none⟩] [1, 2])
       (.skip)))
    (.seq (.regd [(⟨some 17, .ld 2 true (.t 1), none⟩, 0, false),
        (⟨some 18, .ld 2 true (.t 1), none⟩, 1, false),
        (⟨some 19, .call 53 [(.t 18)], none⟩, 2, false),
        (⟨some 20, .un .neg (.t 19), none⟩, 3, false),
        (⟨some 21, .call 28 [(.t 17), (.t 20)], none⟩, 4, true),
        (⟨none, .st 2 (.t 2) (.t 21), none⟩, 5, true)] [2])
     (.ret))))
def a25 : AFun := ⟨1, b25, [.cell 2 2 true]⟩

/-- unravel/unravelref24.Normal -/
def b26 : AC :=
  .seq (.reg [⟨some 1, .box (.t 0), none⟩,
     ⟨some 2, .new [.nilS, .bool false], none⟩] [1, 2])
  (.seq (.seq (.reg [⟨some 4, .fldA 1 (.t 1), none⟩,
       ⟨some 5, .ld 1 false (.t 4), none⟩,
       ⟨some 6, .mv (.t 5), none⟩,
       ⟨some 7, .fldA 0 (.t 1), (some (6, false))⟩,
       ⟨some 8, .ld 1 false (.t 7), (some (6, false))⟩,
       ⟨some 9, .len false (.t 8), (some (6, false))⟩,
       ⟨some 10, .bin .eql (.t 9) (.k (.sc (.int .i64 0))), (some (6, false))⟩,
       ⟨some 11, .pick (.t 6) (.k (.sc (.bool true))) (.t 10), none⟩] [1, 2, 11])
    (.cond (.t 11)
      (.seq (.reg [⟨some 12, .ld 2 true (.t 1), none⟩,
          ⟨none, .st 2 (.t 2) (.t 12), none⟩] [2])
       (.ret))
      (.skip)))
   (.seq (.regd [(⟨some 13, .ld 2 true (.t 1), none⟩, 0, false),
       (⟨some 14, .fldA 0 (.t 1), none⟩, 1, false),
       (⟨some 15, .ld 1 false (.t 14), none⟩, 2, false),
       (⟨some 16, .idxA 2 (.t 15) (.k (.sc (.int .i64 0))), none⟩, 3, false),
       (⟨some 17, .fldA 0 (.t 16), none⟩, 4, false),
       (⟨some 18, .ld 1 false (.t 17), none⟩, 5, false),
       (⟨some 19, .un .neg (.t 18), none⟩, 6, false),
       (⟨some 20, .bsl 1 [.int .i64 0] 1 [(0, .k (.sc (.int .i64 1)))], none⟩, 7, false),
       (⟨some 21, .call 27 [(.t 19), (.t 20)], none⟩, 8, false),
       (⟨some 22, .call 46 [(.t 13), (.t 21)], none⟩, 9, false),
       (⟨some 3, .new [.nilS, .bool false], none⟩, 10, false),
       (⟨none, .st 2 (.t 3) (.t 22), none⟩, 11, true)] [1, 2, 3])
    (.seq (.seq (.reg [⟨some 23, .fldA 0 (.t 1), none⟩,
         ⟨some 24, .ld 1 false (.t 23), none⟩,
         ⟨some 25, .idxA 2 (.t 24) (.k (.sc (.int .i64 0))), none⟩,
         ⟨some 26, .fldA 1 (.t 25), none⟩,
         ⟨some 27, .ld 1 false (.t 26), none⟩,
         ⟨some 28, .bin .lss (.t 27) (.k (.sc (.int .i64 0))), none⟩] [2, 3, 28])
      (.cond (.t 28)
        (.seq (.reg [⟨some 29, .ld 2 true (.t 3), none⟩,
            ⟨some 30, .call 48 [(.t 29)], none⟩,
            ⟨none, .st 2 (.t 2) (.t 30), none⟩] [2])
         (.ret))
        (.skip)))
     (.seq (.reg [⟨some 31, .ld 2 true (.t 3), none⟩,
         ⟨none, .st 2 (.t 2) (.t 31), none⟩] [2])
      (.ret)))))
def a26 : AFun := ⟨1, b26, [.cell 2 2 true]⟩

def b27L0 : AC :=
  .seq (.seq (.reg [⟨some 7, .mv (.t 6), none⟩,
      ⟨some 8, .mv (.t 1), none⟩,
      ⟨some 9, .len false (.t 8), none⟩,
      ⟨some 10, .bin .lss (.t 7) (.t 9), none⟩] [0, 1, 4, 5, 6, 10])
   (.cond (.t 10)
     (.skip)
     (.exit 0)))
  (.seq (.block 1 (.seq (.seq (.reg [⟨some 13, .mv (.t 1), none⟩,
         ⟨some 14, .mv (.t 6), none⟩,
         ⟨some 15, .idxA 1 (.t 13) (.t 14), none⟩,
         ⟨some 16, .ld 1 false (.t 15), none⟩,
         ⟨some 17, .bin .eql (.t 16) (.k (.sc (.int .i64 0))), none⟩] [0, 1, 4, 5, 6, 17])
      (.cond (.t 17)
        (.exit 1)
        (.skip)))
     (.seq (.seq (.reg [⟨some 18, .mv (.t 1), none⟩,
          ⟨some 19, .mv (.t 6), none⟩,
          ⟨some 20, .idxA 1 (.t 18) (.t 19), none⟩,
          ⟨some 21, .ld 1 false (.t 20), none⟩,
          ⟨some 22, .bin .lss (.t 21) (.k (.sc (.int .i64 (-1125899906842624)))), none⟩,
          ⟨some 23, .mv (.t 22), none⟩,
          ⟨some 24, .mv (.t 1), (some (23, false))⟩,
          ⟨some 25, .mv (.t 6), (some (23, false))⟩,
          ⟨some 26, .idxA 1 (.t 24) (.t 25), (some (23, false))⟩,
          ⟨some 27, .ld 1 false (.t 26), (some (23, false))⟩,
          ⟨some 28, .bin .gtr (.t 27) (.k (.sc (.int .i64 1125899906842624))), (some (23, false))⟩,
          ⟨some 29, .pick (.t 23) (.k (.sc (.bool true))) (.t 28), none⟩,
          ⟨some 30, .mv (.t 29), none⟩,
          ⟨some 31, .mv (.t 0), (some (30, false))⟩,
          ⟨some 32, .mv (.t 6), (some (30, false))⟩,
          ⟨some 33, .bin .add (.t 31) (.t 32), (some (30, false))⟩,
          ⟨some 34, .bin .lss (.t 33) (.k (.sc (.int .i64 (-1048576)))), (some (30, false))⟩,
          ⟨some 35, .pick (.t 30) (.k (.sc (.bool true))) (.t 34), none⟩,
          ⟨some 36, .mv (.t 35), none⟩,
          ⟨some 37, .mv (.t 0), (some (36, false))⟩,
          ⟨some 38, .mv (.t 6), (some (36, false))⟩,
          ⟨some 39, .bin .add (.t 37) (.t 38), (some (36, false))⟩,
          ⟨some 40, .bin .gtr (.t 39) (.k (.sc (.int .i64 1048576))), (some (36, false))⟩,
          ⟨some 41, .pick (.t 36) (.k (.sc (.bool true))) (.t 40), none⟩] [0, 1, 4, 5, 6, 41])
       (.cond (.t 41)
         (.seq (.reg [⟨some 42, .bld [.nilS, .bool false] [(1, 1, .k (.sc (.bool true)))], none⟩,
             ⟨none, .st 2 (.t 4) (.t 42), none⟩] [4])
          (.ret))
         (.skip)))
      (.regd [(⟨some 43, .fldA 0 (.t 5), none⟩, 0, false),
         (⟨some 44, .ld 1 false (.t 43), none⟩, 1, false),
         (⟨some 45, .mv (.t 0), none⟩, 2, false),
         (⟨some 46, .mv (.t 6), none⟩, 3, false),
         (⟨some 47, .bin .add (.t 45) (.t 46), none⟩, 4, false),
         (⟨some 48, .mv (.t 1), none⟩, 5, false),
         (⟨some 49, .mv (.t 6), none⟩, 6, false),
         (⟨some 50, .idxA 1 (.t 48) (.t 49), none⟩, 7, false),
         (⟨some 51, .ld 1 false (.t 50), none⟩, 8, false),
         (⟨some 52, .bld [.int .i64 0, .int .i64 0] [(0, 1, .t 47), (1, 1, .t 51)], none⟩, 9, false),
         (⟨some 53, .bsl 2 [.int .i64 0, .int .i64 0] 1 [(0, .t 52)], none⟩, 10, false),
         (⟨some 54, .app 2 16 [.int .i64 0, .int .i64 0] (.t 44) (.t 53), none⟩, 11, true),
         (⟨some 55, .fldA 0 (.t 5), none⟩, 12, false),
         (⟨none, .st 1 (.t 55) (.t 54), none⟩, 13, true)] [0, 1, 4, 5, 6]))))
   (.reg [⟨some 11, .mv (.t 6), none⟩,
      ⟨some 12, .bin .add (.t 11) (.k (.sc (.int .i64 1))), none⟩,
      ⟨some 6, .mv (.t 12), none⟩] [0, 1, 4, 5, 6]))
/-- unravel/unravelref12.Of -/
def b27 : AC :=
  .seq (.reg [⟨some 4, .new [.nilS, .bool false], none⟩] [0, 1, 4])
  (.seq (.reg [⟨some 5, .new [.nilS, .bool false], none⟩] [0, 1, 4, 5])
   (.seq (.seq (.reg [⟨some 6, .mv (.k (.sc (.int .i64 0))), none⟩] [0, 1, 4, 5, 6])
     (.block 0 (.loop [0, 1, 4, 5, 6] b27L0)))
    (.seq (.reg [⟨some 56, .ld 2 true (.t 5), none⟩,
        ⟨none, .st 2 (.t 4) (.t 56), none⟩] [4])
     (.ret))))
def a27 : AFun := ⟨2, b27, [.cell 4 2 true]⟩

/-- (unravel/laurent.Poly).Shift -/
def b28 : AC :=
  .seq (.reg [⟨some 2, .box (.t 0), none⟩,
     ⟨some 3, .box (.t 1), none⟩,
     ⟨some 4, .new [.bool false, .nilS], none⟩] [2, 3, 4])
  (.seq (.seq (.reg [⟨some 5, .ld 1 false (.t 3), none⟩,
       ⟨some 6, .call 50 [(.t 5), (.k (.sc (.int .i64 2097152)))], none⟩,
       ⟨some 7, .un .not (.t 6), none⟩,
       ⟨some 8, .mv (.t 7), none⟩,
       ⟨some 9, .fldA 1 (.t 2), (some (8, true))⟩,
       ⟨some 10, .ld 1 false (.t 9), (some (8, true))⟩,
       ⟨some 11, .len false (.t 10), (some (8, true))⟩,
       ⟨some 12, .bin .gtr (.t 11) (.k (.sc (.int .i64 0))), (some (8, true))⟩,
       ⟨some 13, .pick (.t 8) (.t 12) (.k (.sc (.bool false))), none⟩] [2, 3, 4, 13])
    (.cond (.t 13)
      (.seq (.reg [⟨some 14, .bld [.bool false, .nilS] [(0, 1, .k (.sc (.bool true)))], none⟩,
          ⟨none, .st 2 (.t 4) (.t 14), none⟩] [4])
       (.ret))
      (.skip)))
   (.seq (.reg [⟨some 15, .ld 2 true (.t 2), none⟩,
       ⟨some 16, .mkf 64 [(.t 3)], none⟩,
       ⟨some 17, .call 63 [(.t 15), (.t 16)], none⟩,
       ⟨none, .st 2 (.t 4) (.t 17), none⟩] [4])
    (.ret)))
def a28 : AFun := ⟨2, b28, [.cell 4 2 true]⟩

def b29L0 : AC :=
  .seq (.reg [⟨some 44, .bin .lss (.t 43) (.t 42), none⟩] [2, 3, 4, 6, 41, 42, 43, 44])
  (.seq (.cond (.t 44)
     (.skip)
     (.exit 1))
   (.seq (.block 2 (.seq (.reg [⟨some 45, .idxA 2 (.t 41) (.t 43), none⟩,
         ⟨some 46, .ld 2 true (.t 45), none⟩,
         ⟨some 8, .new [.int .i64 0, .int .i64 0], none⟩,
         ⟨none, .st 2 (.t 8) (.t 46), none⟩] [2, 3, 4, 6, 8, 41, 42, 43])
      (.reg [⟨some 47, .mv (.t 6), none⟩,
         ⟨some 48, .fldA 0 (.t 8), none⟩,
         ⟨some 49, .ld 1 false (.t 48), none⟩,
         ⟨some 50, .call 66 [(.t 47), (.t 49)], none⟩,
         ⟨some 6, .mv (.t 50), none⟩] [2, 3, 4, 6, 41, 42, 43])))
    (.reg [⟨some 51, .bin .add (.t 43) (.k (.sc (.int .i64 1))), none⟩,
       ⟨some 43, .mv (.t 51), none⟩] [2, 3, 4, 6, 41, 42, 43])))
def b29L1 : AC :=
  .seq (.reg [⟨some 73, .bin .lss (.t 72) (.t 71), none⟩] [4, 6, 11, 70, 71, 72, 73])
  (.seq (.cond (.t 73)
     (.skip)
     (.exit 3))
   (.seq (.block 4 (.seq (.reg [⟨some 74, .mv (.t 72), none⟩,
         ⟨some 75, .idxA 1 (.t 70) (.t 72), none⟩,
         ⟨some 76, .ld 1 false (.t 75), none⟩,
         ⟨some 12, .mv (.t 74), none⟩,
         ⟨some 13, .mv (.t 76), none⟩] [4, 6, 11, 12, 13, 70, 71, 72])
      (.reg [⟨some 77, .mv (.t 11), none⟩,
         ⟨some 78, .mv (.t 12), none⟩,
         ⟨some 79, .mv (.t 6), none⟩,
         ⟨some 80, .bin .mul (.t 78) (.t 79), none⟩,
         ⟨some 81, .mv (.t 13), none⟩,
         ⟨some 82, .bld [.int .i64 0, .int .i64 0] [(0, 1, .t 80), (1, 1, .t 81)], none⟩,
         ⟨some 83, .bsl 2 [.int .i64 0, .int .i64 0] 1 [(0, .t 82)], none⟩,
         ⟨some 84, .app 2 16 [.int .i64 0, .int .i64 0] (.t 77) (.t 83), none⟩,
         ⟨some 11, .mv (.t 84), none⟩] [4, 6, 11, 70, 71, 72])))
    (.reg [⟨some 85, .bin .add (.t 72) (.k (.sc (.int .i64 1))), none⟩,
       ⟨some 72, .mv (.t 85), none⟩] [4, 6, 11, 70, 71, 72])))
/-- unravel/polymatrix.Gcd -/
def b29 : AC :=
  .seq (.reg [⟨some 2, .box (.t 0), none⟩,
     ⟨some 3, .box (.t 1), none⟩,
     ⟨some 4, .new [.bool false, .nilS], none⟩,
     ⟨some 5, .mv (.k (.sc (.int .i64 0))), none⟩] [2, 3, 4])
  (.seq (.block 0 (.seq (.reg [⟨some 16, .ld 2 true (.t 2), none⟩,
        ⟨some 17, .call 39 [(.t 16)], none⟩,
        ⟨some 18, .mv (.t 17), none⟩,
        ⟨some 19, .ld 2 true (.t 3), (some (18, false))⟩,
        ⟨some 20, .call 39 [(.t 19)], (some (18, false))⟩,
        ⟨some 21, .pick (.t 18) (.k (.sc (.bool true))) (.t 20), none⟩,
        ⟨some 15, .mv (.t 21), none⟩] [2, 3, 4, 15])
     (.cond (.t 15)
       (.seq (.reg [⟨some 22, .bld [.bool false, .nilS] [], none⟩,
           ⟨none, .st 2 (.t 4) (.t 22), none⟩,
           ⟨some 5, .mv (.k (.sc (.int .i64 9))), none⟩] [4, 5])
        (.ret))
       (.seq (.reg [⟨some 24, .ld 2 true (.t 2), none⟩,
           ⟨some 25, .call 14 [(.t 24)], none⟩,
           ⟨some 23, .mv (.t 25), none⟩] [2, 3, 4, 23])
        (.cond (.t 23)
          (.seq (.reg [⟨some 26, .ld 2 true (.t 3), none⟩,
              ⟨some 27, .call 25 [(.t 26)], none⟩,
              ⟨none, .st 2 (.t 4) (.t 27), none⟩,
              ⟨some 5, .mv (.k (.sc (.int .i64 0))), none⟩] [4, 5])
           (.ret))
          (.seq (.reg [⟨some 29, .ld 2 true (.t 3), none⟩,
              ⟨some 30, .call 14 [(.t 29)], none⟩,
              ⟨some 28, .mv (.t 30), none⟩] [2, 3, 4, 28])
           (.cond (.t 28)
             (.seq (.reg [⟨some 31, .ld 2 true (.t 2), none⟩,
                 ⟨some 32, .call 25 [(.t 31)], none⟩,
                 ⟨none, .st 2 (.t 4) (.t 32), none⟩,
                 ⟨some 5, .mv (.k (.sc (.int .i64 0))), none⟩] [4, 5])
              (.ret))
             (.skip))))))))
   (.seq (.reg [⟨some 6, .mv (.k (.sc (.int .i64 0))), none⟩] [2, 3, 4, 6])
    (.seq (.seq (.regd [(⟨some 33, .ld 2 true (.t 2), none⟩, 0, false),
         (⟨some 34, .ld 2 true (.t 2), none⟩, 1, false),
         (⟨some 35, .call 53 [(.t 34)], none⟩, 2, false),
         (⟨some 36, .call 65 [(.t 33), (.t 35)], none⟩, 3, false),
         (⟨some 37, .ld 2 true (.t 3), none⟩, 4, false),
         (⟨some 38, .ld 2 true (.t 3), none⟩, 5, false),
         (⟨some 39, .call 53 [(.t 38)], none⟩, 6, false),
         (⟨some 40, .call 65 [(.t 37), (.t 39)], none⟩, 7, true),
         (⟨some 41, .app 2 16 [.int .i64 0, .int .i64 0] (.t 36) (.t 40), none⟩, 8, true),
         (⟨some 42, .len false (.t 41), none⟩, 9, false),
         (⟨some 43, .mv (.k (.sc (.int .i64 0))), none⟩, 10, false)] [2, 3, 4, 6, 41, 42, 43])
      (.block 1 (.loop [2, 3, 4, 6, 41, 42, 43] b29L0)))
     (.seq (.reg [⟨some 52, .mv (.t 6), none⟩,
         ⟨some 53, .mm true (.t 52) [(.k (.sc (.int .i64 1)))], none⟩,
         ⟨some 6, .mv (.t 53), none⟩] [2, 3, 4, 6])
      (.seq (.regd [(⟨some 55, .ld 2 true (.t 2), none⟩, 0, false),
          (⟨some 56, .mv (.t 6), none⟩, 1, false),
          (⟨some 57, .call 68 [(.t 55), (.t 56)], none⟩, 2, false),
          (⟨some 58, .ld 2 true (.t 3), none⟩, 3, false),
          (⟨some 59, .mv (.t 6), none⟩, 4, false),
          (⟨some 60, .call 68 [(.t 58), (.t 59)], none⟩, 5, true),
          (⟨some 61, .call 67 [(.t 57), (.t 60)], none⟩, 6, true),
          (⟨some 54, .mv (.t 61), none⟩, 7, false),
          (⟨some 62, .ext (.t 54) 0, none⟩, 8, false),
          (⟨some 63, .ext (.t 54) 1, none⟩, 9, false),
          (⟨some 9, .mv (.t 62), none⟩, 10, false),
          (⟨some 10, .mv (.t 63), none⟩, 11, false)] [4, 6, 9, 10])
       (.seq (.seq (.reg [⟨some 64, .mv (.t 10), none⟩,
            ⟨some 65, .un .not (.t 64), none⟩] [4, 6, 9, 65])
         (.cond (.t 65)
           (.seq (.reg [⟨some 66, .bld [.bool false, .nilS] [], none⟩,
               ⟨none, .st 2 (.t 4) (.t 66), none⟩,
               ⟨some 5, .mv (.k (.sc (.int .i64 9))), none⟩] [4, 5])
            (.ret))
           (.skip)))
        (.seq (.reg [⟨some 67, .mv (.t 9), none⟩,
            ⟨some 68, .len false (.t 67), none⟩,
            ⟨some 69, .mk 2 16 [.int .i64 0, .int .i64 0] (.k (.sc (.int .i64 0))) (.t 68), none⟩,
            ⟨some 11, .mv (.t 69), none⟩] [4, 6, 9, 11])
         (.seq (.seq (.reg [⟨some 70, .mv (.t 9), none⟩,
              ⟨some 71, .len false (.t 70), none⟩,
              ⟨some 72, .mv (.k (.sc (.int .i64 0))), none⟩] [4, 6, 11, 70, 71, 72])
           (.block 3 (.loop [4, 6, 11, 70, 71, 72] b29L1)))
          (.seq (.reg [⟨some 86, .mv (.t 11), none⟩,
              ⟨some 87, .call 69 [(.t 86)], none⟩,
              ⟨some 88, .call 25 [(.t 87)], none⟩,
              ⟨some 14, .new [.bool false, .nilS], none⟩,
              ⟨none, .st 2 (.t 14) (.t 88), none⟩] [4, 14])
           (.seq (.seq (.reg [⟨some 89, .ld 2 true (.t 14), none⟩,
                ⟨some 90, .call 39 [(.t 89)], none⟩] [4, 14, 90])
             (.cond (.t 90)
               (.seq (.reg [⟨some 91, .bld [.bool false, .nilS] [], none⟩,
                   ⟨none, .st 2 (.t 4) (.t 91), none⟩,
                   ⟨some 5, .mv (.k (.sc (.int .i64 9))), none⟩] [4, 5])
                (.ret))
               (.skip)))
            (.seq (.reg [⟨some 92, .ld 2 true (.t 14), none⟩,
                ⟨none, .st 2 (.t 4) (.t 92), none⟩,
                ⟨some 5, .mv (.k (.sc (.int .i64 0))), none⟩] [4, 5])
             (.ret))))))))))))
def a29 : AFun := ⟨2, b29, [.cell 4 2 true, .t 5]⟩

def b30L0 : AC :=
  .seq (.reg [⟨some 78, .bin .lss (.t 77) (.t 76), none⟩] [2, 3, 4, 6, 7, 75, 76, 77, 78])
  (.seq (.cond (.t 78)
     (.skip)
     (.exit 1))
   (.seq (.block 2 (.seq (.reg [⟨some 79, .idxA 2 (.t 75) (.t 77), none⟩,
         ⟨some 80, .ld 2 true (.t 79), none⟩,
         ⟨some 9, .new [.int .i64 0, .int .i64 0], none⟩,
         ⟨none, .st 2 (.t 9) (.t 80), none⟩] [2, 3, 4, 6, 7, 9, 75, 76, 77])
      (.regd [(⟨some 81, .mv (.t 7), none⟩, 0, false),
         (⟨some 82, .fldA 0 (.t 9), none⟩, 1, false),
         (⟨some 83, .ld 1 false (.t 82), none⟩, 2, false),
         (⟨some 84, .ld 2 true (.t 2), none⟩, 3, false),
         (⟨some 85, .call 53 [(.t 84)], none⟩, 4, false),
         (⟨some 86, .bin .sub (.t 83) (.t 85), none⟩, 5, false),
         (⟨some 87, .fldA 1 (.t 9), none⟩, 6, false),
         (⟨some 88, .ld 1 false (.t 87), none⟩, 7, false),
         (⟨some 89, .call 71 [(.t 88)], none⟩, 8, false),
         (⟨some 90, .idxA 2 (.t 81) (.t 86), none⟩, 9, false),
         (⟨none, .st 2 (.t 90) (.t 89), none⟩, 10, true)] [2, 3, 4, 6, 7, 75, 76, 77])))
    (.reg [⟨some 91, .bin .add (.t 77) (.k (.sc (.int .i64 1))), none⟩,
       ⟨some 77, .mv (.t 91), none⟩] [2, 3, 4, 6, 7, 75, 76, 77])))
def b30L2 : AC :=
  .seq (.reg [⟨some 142, .bin .lss (.t 141) (.t 140), none⟩] [2, 3, 4, 6, 7, 10, 11, 12, 93, 94, 139, 140, 141, 142])
  (.seq (.cond (.t 142)
     (.skip)
     (.exit 5))
   (.seq (.block 6 (.seq (.reg [⟨some 143, .idxA 2 (.t 139) (.t 141), none⟩,
         ⟨some 144, .ld 2 true (.t 143), none⟩,
         ⟨some 16, .new [.int .i64 0, .int .i64 0], none⟩,
         ⟨none, .st 2 (.t 16) (.t 144), none⟩] [2, 3, 4, 6, 7, 10, 11, 12, 16, 93, 94, 139, 140, 141])
      (.seq (.regd [(⟨some 145, .mv (.t 11), none⟩, 0, false),
          (⟨some 146, .fldA 0 (.t 16), none⟩, 1, false),
          (⟨some 147, .ld 1 false (.t 146), none⟩, 2, false),
          (⟨some 148, .bin .add (.t 145) (.t 147), none⟩, 3, false),
          (⟨some 149, .ld 2 true (.t 3), none⟩, 4, false),
          (⟨some 150, .call 53 [(.t 149)], none⟩, 5, false),
          (⟨some 151, .bin .sub (.t 148) (.t 150), none⟩, 6, false),
          (⟨some 17, .mv (.t 151), none⟩, 7, false)] [2, 3, 4, 6, 7, 10, 11, 12, 16, 17, 93, 94, 139, 140, 141])
       (.regd [(⟨some 152, .mv (.t 7), none⟩, 0, false),
          (⟨some 153, .mv (.t 17), none⟩, 1, false),
          (⟨some 154, .mv (.t 7), none⟩, 2, false),
          (⟨some 155, .mv (.t 17), none⟩, 3, false),
          (⟨some 156, .idxA 2 (.t 154) (.t 155), none⟩, 4, false),
          (⟨some 157, .ld 2 true (.t 156), none⟩, 5, false),
          (⟨some 158, .mv (.t 12), none⟩, 6, false),
          (⟨some 159, .un .neg (.t 158), none⟩, 7, false),
          (⟨some 160, .fldA 1 (.t 16), none⟩, 8, false),
          (⟨some 161, .ld 1 false (.t 160), none⟩, 9, false),
          (⟨some 162, .call 74 [(.t 159), (.t 161)], none⟩, 10, false),
          (⟨some 163, .call 58 [(.t 157), (.t 162)], none⟩, 11, true),
          (⟨some 164, .idxA 2 (.t 152) (.t 153), none⟩, 12, false),
          (⟨none, .st 2 (.t 164) (.t 163), none⟩, 13, true)] [2, 3, 4, 6, 7, 10, 11, 12, 93, 94, 139, 140, 141]))))
    (.reg [⟨some 165, .bin .add (.t 141) (.k (.sc (.int .i64 1))), none⟩,
       ⟨some 141, .mv (.t 165), none⟩] [2, 3, 4, 6, 7, 10, 11, 12, 93, 94, 139, 140, 141])))
def b30L1 : AC :=
  .seq (.reg [⟨some 95, .bin .lss (.t 94) (.t 93), none⟩] [2, 3, 4, 6, 7, 10, 93, 94, 95])
  (.seq (.cond (.t 95)
     (.skip)
     (.exit 3))
   (.seq (.block 4 (.seq (.reg [⟨some 96, .mv (.t 94), none⟩,
         ⟨some 11, .mv (.t 96), none⟩] [2, 3, 4, 6, 7, 10, 11, 93, 94])
      (.seq (.seq (.reg [⟨some 97, .mv (.t 7), none⟩,
           ⟨some 98, .mv (.t 11), none⟩,
           ⟨some 99, .idxA 2 (.t 97) (.t 98), none⟩,
           ⟨some 100, .ld 2 true (.t 99), none⟩,
           ⟨some 101, .call 72 [(.t 100)], none⟩] [2, 3, 4, 6, 7, 10, 11, 93, 94, 101])
        (.cond (.t 101)
          (.exit 4)
          (.skip)))
       (.seq (.regd [(⟨some 103, .mv (.t 7), none⟩, 0, false),
           (⟨some 104, .mv (.t 11), none⟩, 1, false),
           (⟨some 105, .idxA 2 (.t 103) (.t 104), none⟩, 2, false),
           (⟨some 106, .ld 2 true (.t 105), none⟩, 3, false),
           (⟨some 107, .fldA 1 (.t 3), none⟩, 4, false),
           (⟨some 108, .ld 1 false (.t 107), none⟩, 5, false),
           (⟨some 109, .idxA 2 (.t 108) (.k (.sc (.int .i64 0))), none⟩, 6, false),
           (⟨some 110, .fldA 1 (.t 109), none⟩, 7, false),
           (⟨some 111, .ld 1 false (.t 110), none⟩, 8, false),
           (⟨some 112, .call 73 [(.t 106), (.t 111)], none⟩, 9, true),
           (⟨some 102, .mv (.t 112), none⟩, 10, false),
           (⟨some 113, .ext (.t 102) 0, none⟩, 11, false),
           (⟨some 114, .ext (.t 102) 1, none⟩, 12, false),
           (⟨some 12, .mv (.t 113), none⟩, 13, false),
           (⟨some 13, .mv (.t 114), none⟩, 14, false)] [2, 3, 4, 6, 7, 10, 11, 12, 13, 93, 94])
        (.seq (.regd [(⟨some 115, .ld 2 true (.t 2), none⟩, 0, false),
            (⟨some 116, .call 53 [(.t 115)], none⟩, 1, false),
            (⟨some 117, .ld 2 true (.t 3), none⟩, 2, false),
            (⟨some 118, .call 53 [(.t 117)], none⟩, 3, true),
            (⟨some 119, .bin .sub (.t 116) (.t 118), none⟩, 4, false),
            (⟨some 120, .mv (.t 11), none⟩, 5, false),
            (⟨some 121, .bin .add (.t 119) (.t 120), none⟩, 6, false),
            (⟨some 14, .mv (.t 121), none⟩, 7, false)] [2, 3, 4, 6, 7, 10, 11, 12, 13, 14, 93, 94])
         (.seq (.seq (.reg [⟨some 122, .mv (.t 13), none⟩,
              ⟨some 123, .un .not (.t 122), none⟩,
              ⟨some 124, .mv (.t 123), none⟩,
              ⟨some 125, .mv (.t 14), (some (124, false))⟩,
              ⟨some 126, .call 50 [(.t 125), (.k (.sc (.int .i64 1048576)))], (some (124, false))⟩,
              ⟨some 127, .un .not (.t 126), (some (124, false))⟩,
              ⟨some 128, .pick (.t 124) (.k (.sc (.bool true))) (.t 127), none⟩] [2, 3, 4, 6, 7, 10, 11, 12, 14, 93, 94, 128])
           (.cond (.t 128)
             (.seq (.reg [⟨some 129, .bld [.bool false, .nilS] [], none⟩,
                 ⟨none, .st 2 (.t 4) (.t 129), none⟩,
                 ⟨some 5, .mv (.k (.sc (.int .i64 10))), none⟩] [4, 5])
              (.ret))
             (.skip)))
          (.seq (.reg [⟨some 130, .fldA 1 (.t 10), none⟩,
              ⟨some 131, .ld 1 false (.t 130), none⟩,
              ⟨some 132, .mv (.t 14), none⟩,
              ⟨some 133, .mv (.t 12), none⟩,
              ⟨some 134, .bld [.int .i64 0, .int .i64 0] [(0, 1, .t 132), (1, 1, .t 133)], none⟩,
              ⟨some 135, .bsl 2 [.int .i64 0, .int .i64 0] 1 [(0, .t 134)], none⟩,
              ⟨some 136, .app 2 16 [.int .i64 0, .int .i64 0] (.t 131) (.t 135), none⟩,
              ⟨some 137, .fldA 1 (.t 10), none⟩,
              ⟨none, .st 1 (.t 137) (.t 136), none⟩] [2, 3, 4, 6, 7, 10, 11, 12, 93, 94])
           (.seq (.reg [⟨some 138, .fldA 1 (.t 3), none⟩,
               ⟨some 139, .ld 1 false (.t 138), none⟩,
               ⟨some 140, .len false (.t 139), none⟩,
               ⟨some 141, .mv (.k (.sc (.int .i64 0))), none⟩] [2, 3, 4, 6, 7, 10, 11, 12, 93, 94, 139, 140, 141])
            (.block 5 (.loop [2, 3, 4, 6, 7, 10, 11, 12, 93, 94, 139, 140, 141] b30L2))))))))))
    (.reg [⟨some 166, .bin .add (.t 94) (.k (.sc (.int .i64 1))), none⟩,
       ⟨some 94, .mv (.t 166), none⟩] [2, 3, 4, 6, 7, 10, 93, 94])))
def b30L3 : AC :=
  .seq (.reg [⟨some 173, .bin .lss (.t 172) (.t 171), none⟩] [4, 10, 170, 171, 172, 173])
  (.seq (.cond (.t 173)
     (.skip)
     (.exit 7))
   (.seq (.block 8 (.seq (.reg [⟨some 174, .idxA 2 (.t 170) (.t 172), none⟩,
         ⟨some 175, .ld 2 true (.t 174), none⟩,
         ⟨some 19, .new [.int .u64 0, .int .u64 0], none⟩,
         ⟨none, .st 2 (.t 19) (.t 175), none⟩] [4, 10, 19, 170, 171, 172])
      (.seq (.reg [⟨some 176, .ld 2 true (.t 19), none⟩,
          ⟨some 177, .call 72 [(.t 176)], none⟩,
          ⟨some 178, .un .not (.t 177), none⟩] [4, 10, 170, 171, 172, 178])
       (.cond (.t 178)
         (.seq (.reg [⟨some 179, .bld [.bool false, .nilS] [], none⟩,
             ⟨none, .st 2 (.t 4) (.t 179), none⟩,
             ⟨some 5, .mv (.k (.sc (.int .i64 10))), none⟩] [4, 5])
          (.ret))
         (.skip)))))
    (.reg [⟨some 180, .bin .add (.t 172) (.k (.sc (.int .i64 1))), none⟩,
       ⟨some 172, .mv (.t 180), none⟩] [4, 10, 170, 171, 172])))
/-- (unravel/laurent.Poly).Div -/
def b30 : AC :=
  .seq (.reg [⟨some 2, .box (.t 0), none⟩,
     ⟨some 3, .box (.t 1), none⟩,
     ⟨some 4, .new [.bool false, .nilS], none⟩,
     ⟨some 5, .mv (.k (.sc (.int .i64 0))), none⟩] [2, 3, 4])
  (.seq (.block 0 (.seq (.reg [⟨some 21, .fldA 0 (.t 2), none⟩,
        ⟨some 22, .ld 1 false (.t 21), none⟩,
        ⟨some 23, .mv (.t 22), none⟩,
        ⟨some 24, .fldA 0 (.t 3), (some (23, false))⟩,
        ⟨some 25, .ld 1 false (.t 24), (some (23, false))⟩,
        ⟨some 26, .pick (.t 23) (.k (.sc (.bool true))) (.t 25), none⟩,
        ⟨some 20, .mv (.t 26), none⟩] [2, 3, 4, 20])
     (.cond (.t 20)
       (.seq (.reg [⟨some 27, .bld [.bool false, .nilS] [], none⟩,
           ⟨none, .st 2 (.t 4) (.t 27), none⟩,
           ⟨some 5, .mv (.k (.sc (.int .i64 9))), none⟩] [4, 5])
        (.ret))
       (.seq (.reg [⟨some 29, .fldA 1 (.t 3), none⟩,
           ⟨some 30, .ld 1 false (.t 29), none⟩,
           ⟨some 31, .len false (.t 30), none⟩,
           ⟨some 32, .bin .eql (.t 31) (.k (.sc (.int .i64 0))), none⟩,
           ⟨some 28, .mv (.t 32), none⟩] [2, 3, 4, 28])
        (.cond (.t 28)
          (.seq (.reg [⟨some 33, .bld [.bool false, .nilS] [], none⟩,
              ⟨none, .st 2 (.t 4) (.t 33), none⟩,
              ⟨some 5, .mv (.k (.sc (.int .i64 2))), none⟩] [4, 5])
           (.ret))
          (.seq (.reg [⟨some 35, .fldA 1 (.t 2), none⟩,
              ⟨some 36, .ld 1 false (.t 35), none⟩,
              ⟨some 37, .len false (.t 36), none⟩,
              ⟨some 38, .bin .eql (.t 37) (.k (.sc (.int .i64 0))), none⟩,
              ⟨some 34, .mv (.t 38), none⟩] [2, 3, 4, 34])
           (.cond (.t 34)
             (.seq (.reg [⟨some 39, .bld [.bool false, .nilS] [], none⟩,
                 ⟨none, .st 2 (.t 4) (.t 39), none⟩,
                 ⟨some 5, .mv (.k (.sc (.int .i64 0))), none⟩] [4, 5])
              (.ret))
             (.seq (.reg [⟨some 41, .fldA 1 (.t 3), none⟩,
                 ⟨some 42, .ld 1 false (.t 41), none⟩,
                 ⟨some 43, .len false (.t 42), none⟩,
                 ⟨some 44, .bin .eql (.t 43) (.k (.sc (.int .i64 1))), none⟩,
                 ⟨some 40, .mv (.t 44), none⟩] [2, 3, 4, 40])
              (.cond (.t 40)
                (.seq (.regd [(⟨some 45, .ld 2 true (.t 2), none⟩, 0, false),
                    (⟨some 46, .fldA 1 (.t 3), none⟩, 1, false),
                    (⟨some 47, .ld 1 false (.t 46), none⟩, 2, false),
                    (⟨some 48, .idxA 2 (.t 47) (.k (.sc (.int .i64 0))), none⟩, 3, false),
                    (⟨some 49, .ld 2 true (.t 48), none⟩, 4, false),
                    (⟨some 50, .call 70 [(.t 45), (.t 49)], none⟩, 5, true),
                    (⟨some 51, .ext (.t 50) 0, none⟩, 6, false),
                    (⟨some 52, .ext (.t 50) 1, none⟩, 7, false),
                    (⟨none, .st 2 (.t 4) (.t 51), none⟩, 8, true),
                    (⟨some 5, .mv (.t 52), none⟩, 9, false)] [4, 5])
                 (.ret))
                (.skip))))))))))
   (.seq (.regd [(⟨some 53, .ld 2 true (.t 2), none⟩, 0, false),
       (⟨some 54, .call 54 [(.t 53)], none⟩, 1, false),
       (⟨some 55, .ld 2 true (.t 2), none⟩, 2, false),
       (⟨some 56, .call 53 [(.t 55)], none⟩, 3, false),
       (⟨some 57, .bin .sub (.t 54) (.t 56), none⟩, 4, false),
       (⟨some 58, .ld 2 true (.t 3), none⟩, 5, false),
       (⟨some 59, .call 54 [(.t 58)], none⟩, 6, false),
       (⟨some 60, .ld 2 true (.t 3), none⟩, 7, false),
       (⟨some 61, .call 53 [(.t 60)], none⟩, 8, true),
       (⟨some 62, .bin .sub (.t 59) (.t 61), none⟩, 9, false),
       (⟨some 63, .bin .sub (.t 57) (.t 62), none⟩, 10, false),
       (⟨some 6, .mv (.t 63), none⟩, 11, false)] [2, 3, 4, 6])
    (.seq (.seq (.reg [⟨some 64, .mv (.t 6), none⟩,
         ⟨some 65, .bin .lss (.t 64) (.k (.sc (.int .i64 0))), none⟩] [2, 3, 4, 6, 65])
      (.cond (.t 65)
        (.seq (.reg [⟨some 66, .bld [.bool false, .nilS] [], none⟩,
            ⟨none, .st 2 (.t 4) (.t 66), none⟩,
            ⟨some 5, .mv (.k (.sc (.int .i64 10))), none⟩] [4, 5])
         (.ret))
        (.skip)))
     (.seq (.regd [(⟨some 67, .ld 2 true (.t 2), none⟩, 0, false),
         (⟨some 68, .call 54 [(.t 67)], none⟩, 1, false),
         (⟨some 69, .ld 2 true (.t 2), none⟩, 2, false),
         (⟨some 70, .call 53 [(.t 69)], none⟩, 3, true),
         (⟨some 71, .bin .sub (.t 68) (.t 70), none⟩, 4, false),
         (⟨some 72, .bin .add (.t 71) (.k (.sc (.int .i64 1))), none⟩, 5, false),
         (⟨some 73, .mk 2 16 [.int .u64 0, .int .u64 0] (.t 72) (.t 72), none⟩, 6, true),
         (⟨some 7, .mv (.t 73), none⟩, 7, false)] [2, 3, 4, 6, 7])
      (.seq (.seq (.reg [⟨some 74, .fldA 1 (.t 2), none⟩,
           ⟨some 75, .ld 1 false (.t 74), none⟩,
           ⟨some 76, .len false (.t 75), none⟩,
           ⟨some 77, .mv (.k (.sc (.int .i64 0))), none⟩] [2, 3, 4, 6, 7, 75, 76, 77])
        (.block 1 (.loop [2, 3, 4, 6, 7, 75, 76, 77] b30L0)))
       (.seq (.reg [⟨some 10, .new [.bool false, .nilS], none⟩] [2, 3, 4, 6, 7, 10])
        (.seq (.seq (.reg [⟨some 92, .mv (.t 6), none⟩,
             ⟨some 93, .bin .add (.t 92) (.k (.sc (.int .i64 1))), none⟩,
             ⟨some 94, .mv (.k (.sc (.int .i64 0))), none⟩] [2, 3, 4, 6, 7, 10, 93, 94])
          (.block 3 (.loop [2, 3, 4, 6, 7, 10, 93, 94] b30L1)))
         (.seq (.seq (.reg [⟨some 167, .mv (.t 7), none⟩,
              ⟨some 168, .mv (.t 6), none⟩,
              ⟨some 169, .bin .add (.t 168) (.k (.sc (.int .i64 1))), none⟩,
              ⟨some 170, .sl 2 (.t 167) (some (.t 169)) none, none⟩,
              ⟨some 171, .len false (.t 170), none⟩,
              ⟨some 172, .mv (.k (.sc (.int .i64 0))), none⟩] [4, 10, 170, 171, 172])
           (.block 7 (.loop [4, 10, 170, 171, 172] b30L3)))
          (.seq (.reg [⟨some 181, .ld 2 true (.t 10), none⟩,
              ⟨none, .st 2 (.t 4) (.t 181), none⟩,
              ⟨some 5, .mv (.k (.sc (.int .i64 0))), none⟩] [4, 5])
           (.ret))))))))))
def a30 : AFun := ⟨2, b30, [.cell 4 2 true, .t 5]⟩

def b35L0 : AC :=
  .seq (.reg [⟨some 8, .bin .lss (.t 7) (.t 6), none⟩] [0, 5, 6, 7, 8])
  (.seq (.cond (.t 8)
     (.skip)
     (.exit 0))
   (.seq (.block 1 (.seq (.reg [⟨some 9, .idxA 1 (.t 5) (.t 7), none⟩,
         ⟨some 10, .ld 1 false (.t 9), none⟩,
         ⟨some 4, .mv (.t 10), none⟩] [0, 4, 5, 6, 7])
      (.seq (.reg [⟨some 11, .mv (.t 4), none⟩,
          ⟨some 12, .len false (.t 11), none⟩,
          ⟨some 13, .mv (.t 0), none⟩,
          ⟨some 14, .idxA 1 (.t 13) (.k (.sc (.int .i64 0))), none⟩,
          ⟨some 15, .ld 1 false (.t 14), none⟩,
          ⟨some 16, .len false (.t 15), none⟩,
          ⟨some 17, .bin .neq (.t 12) (.t 16), none⟩] [0, 5, 6, 7, 17])
       (.cond (.t 17)
         (.seq (.reg [⟨some 2, .mv (.k (.sc (.bool false))), none⟩] [2])
          (.ret))
         (.skip)))))
    (.reg [⟨some 18, .bin .add (.t 7) (.k (.sc (.int .i64 1))), none⟩,
       ⟨some 7, .mv (.t 18), none⟩] [0, 5, 6, 7])))
/-- unravel/polymatrix.formed -/
def b35 : AC :=
  .seq (.reg [⟨some 2, .mv (.k (.sc (.bool false))), none⟩] [0])
  (.seq (.seq (.reg [⟨some 5, .mv (.t 0), none⟩,
       ⟨some 6, .len false (.t 5), none⟩,
       ⟨some 7, .mv (.k (.sc (.int .i64 0))), none⟩] [0, 5, 6, 7])
    (.block 0 (.loop [0, 5, 6, 7] b35L0)))
   (.seq (.reg [⟨some 2, .mv (.k (.sc (.bool true))), none⟩] [2])
    (.ret)))
def a35 : AFun := ⟨1, b35, [.t 2]⟩

/-- unravel/polymatrix.full -/
def b36 : AC :=
  .seq (.reg [⟨some 2, .mv (.k (.sc (.bool false))), none⟩] [0])
  (.seq (.reg [⟨some 3, .mv (.t 0), none⟩,
      ⟨some 4, .len false (.t 3), none⟩,
      ⟨some 5, .bin .gtr (.t 4) (.k (.sc (.int .i64 64))), none⟩,
      ⟨some 6, .mv (.t 5), none⟩,
      ⟨some 7, .mv (.t 0), (some (6, false))⟩,
      ⟨some 8, .call 37 [(.t 7)], (some (6, false))⟩,
      ⟨some 9, .bin .gtr (.t 8) (.k (.sc (.int .i64 64))), (some (6, false))⟩,
      ⟨some 10, .pick (.t 6) (.k (.sc (.bool true))) (.t 9), none⟩,
      ⟨some 2, .mv (.t 10), none⟩] [2])
   (.ret))
def a36 : AFun := ⟨1, b36, [.t 2]⟩

/-- unravel/polymatrix.columns -/
def b37 : AC :=
  .seq (.reg [⟨some 2, .mv (.k (.sc (.int .i64 0))), none⟩] [0])
  (.seq (.seq (.reg [⟨some 3, .mv (.t 0), none⟩,
       ⟨some 4, .len false (.t 3), none⟩,
       ⟨some 5, .bin .eql (.t 4) (.k (.sc (.int .i64 0))), none⟩] [0, 5])
    (.cond (.t 5)
      (.seq (.reg [⟨some 2, .mv (.k (.sc (.int .i64 0))), none⟩] [2])
       (.ret))
      (.skip)))
   (.seq (.reg [⟨some 6, .mv (.t 0), none⟩,
       ⟨some 7, .idxA 1 (.t 6) (.k (.sc (.int .i64 0))), none⟩,
       ⟨some 8, .ld 1 false (.t 7), none⟩,
       ⟨some 9, .len false (.t 8), none⟩,
       ⟨some 2, .mv (.t 9), none⟩] [2])
    (.ret)))
def a37 : AFun := ⟨1, b37, [.t 2]⟩

/-- slices.ContainsFunc[[]unravel/laurent.Poly,unravel/laurent.Poly] -/
def b38 : AC :=
  .seq (.reg [⟨some 4, .mv (.k (.sc (.bool false))), none⟩] [0, 1])
  (.seq (.reg [⟨some 5, .mv (.t 0), none⟩,
      ⟨some 6, .mv (.t 1), none⟩,
      ⟨some 7, .call 75 [(.t 5), (.t 6)], none⟩,
      ⟨some 8, .bin .geq (.t 7) (.k (.sc (.int .i64 0))), none⟩,
      ⟨some 4, .mv (.t 8), none⟩] [4])
   (.ret))
def a38 : AFun := ⟨2, b38, [.t 4]⟩

/-- (unravel/laurent.Poly).Big -/
def b39 : AC :=
  .seq (.reg [⟨some 1, .box (.t 0), none⟩,
     ⟨some 2, .mv (.k (.sc (.bool false))), none⟩] [1])
  (.seq (.reg [⟨some 3, .fldA 0 (.t 1), none⟩,
      ⟨some 4, .ld 1 false (.t 3), none⟩,
      ⟨some 2, .mv (.t 4), none⟩] [2])
   (.ret))
def a39 : AFun := ⟨1, b39, [.t 2]⟩

def b40L1 : AC :=
  .seq (.reg [⟨some 34, .bin .lss (.t 33) (.t 32), none⟩] [0, 2, 4, 5, 6, 7, 8, 9, 10, 11, 24, 25, 26, 31, 32, 33, 34])
  (.seq (.cond (.t 34)
     (.skip)
     (.exit 2))
   (.seq (.block 3 (.seq (.reg [⟨some 35, .idxA 2 (.t 31) (.t 33), none⟩,
         ⟨some 36, .ld 2 true (.t 35), none⟩,
         ⟨some 13, .new [.bool false, .nilS], none⟩,
         ⟨none, .st 2 (.t 13) (.t 36), none⟩] [0, 2, 4, 5, 6, 7, 8, 9, 10, 11, 13, 24, 25, 26, 31, 32, 33])
      (.block 4 (.seq (.reg [⟨some 46, .ld 2 true (.t 13), none⟩,
           ⟨some 47, .call 14 [(.t 46)], none⟩,
           ⟨some 45, .mv (.t 47), none⟩] [0, 2, 4, 5, 6, 7, 8, 9, 10, 11, 13, 24, 25, 26, 31, 32, 33, 45])
        (.cond (.t 45)
          (.skip)
          (.seq (.reg [⟨some 49, .mv (.t 11), none⟩,
              ⟨some 50, .un .not (.t 49), none⟩,
              ⟨some 48, .mv (.t 50), none⟩] [0, 2, 4, 5, 6, 7, 8, 9, 10, 11, 13, 24, 25, 26, 31, 32, 33, 48])
           (.cond (.t 48)
             (.regd [(⟨some 51, .ld 2 true (.t 13), none⟩, 0, false),
                (⟨some 52, .call 53 [(.t 51)], none⟩, 1, false),
                (⟨some 53, .ld 2 true (.t 13), none⟩, 2, false),
                (⟨some 54, .call 54 [(.t 53)], none⟩, 3, true),
                (⟨some 9, .mv (.t 52), none⟩, 4, false),
                (⟨some 10, .mv (.t 54), none⟩, 5, false),
                (⟨some 11, .mv (.k (.sc (.bool true))), none⟩, 6, false)] [0, 2, 4, 5, 6, 7, 8, 9, 10, 11, 24, 25, 26, 31, 32, 33])
             (.regd [(⟨some 37, .mv (.t 9), none⟩, 0, false),
                (⟨some 38, .ld 2 true (.t 13), none⟩, 1, false),
                (⟨some 39, .call 53 [(.t 38)], none⟩, 2, false),
                (⟨some 40, .mm false (.t 37) [(.t 39)], none⟩, 3, false),
                (⟨some 41, .mv (.t 10), none⟩, 4, false),
                (⟨some 42, .ld 2 true (.t 13), none⟩, 5, false),
                (⟨some 43, .call 54 [(.t 42)], none⟩, 6, true),
                (⟨some 44, .mm true (.t 41) [(.t 43)], none⟩, 7, false),
                (⟨some 9, .mv (.t 40), none⟩, 8, false),
                (⟨some 10, .mv (.t 44), none⟩, 9, false)] [0, 2, 4, 5, 6, 7, 8, 9, 10, 11, 24, 25, 26, 31, 32, 33]))))))))
    (.reg [⟨some 55, .bin .add (.t 33) (.k (.sc (.int .i64 1))), none⟩,
       ⟨some 33, .mv (.t 55), none⟩] [0, 2, 4, 5, 6, 7, 8, 9, 10, 11, 24, 25, 26, 31, 32, 33])))
def b40L0 : AC :=
  .seq (.reg [⟨some 27, .bin .lss (.t 26) (.t 25), none⟩] [0, 2, 4, 5, 6, 24, 25, 26, 27])
  (.seq (.cond (.t 27)
     (.skip)
     (.exit 0))
   (.seq (.block 1 (.seq (.reg [⟨some 28, .mv (.t 26), none⟩,
         ⟨some 29, .idxA 1 (.t 24) (.t 26), none⟩,
         ⟨some 30, .ld 1 false (.t 29), none⟩,
         ⟨some 7, .mv (.t 28), none⟩,
         ⟨some 8, .mv (.t 30), none⟩] [0, 2, 4, 5, 6, 7, 8, 24, 25, 26])
      (.seq (.reg [⟨some 9, .mv (.k (.sc (.int .i64 0))), none⟩,
          ⟨some 10, .mv (.k (.sc (.int .i64 0))), none⟩,
          ⟨some 11, .mv (.k (.sc (.bool false))), none⟩] [0, 2, 4, 5, 6, 7, 8, 9, 10, 11, 24, 25, 26])
       (.seq (.seq (.reg [⟨some 31, .mv (.t 8), none⟩,
            ⟨some 32, .len false (.t 31), none⟩,
            ⟨some 33, .mv (.k (.sc (.int .i64 0))), none⟩] [0, 2, 4, 5, 6, 7, 8, 9, 10, 11, 24, 25, 26, 31, 32, 33])
         (.block 2 (.loop [0, 2, 4, 5, 6, 7, 8, 9, 10, 11, 24, 25, 26, 31, 32, 33] b40L1)))
        (.seq (.seq (.reg [⟨some 56, .mv (.t 11), none⟩,
             ⟨some 57, .un .not (.t 56), none⟩,
             ⟨some 58, .mv (.t 57), none⟩,
             ⟨some 59, .mv (.t 8), (some (58, true))⟩,
             ⟨some 60, .len false (.t 59), (some (58, true))⟩,
             ⟨some 61, .bin .gtr (.t 60) (.k (.sc (.int .i64 0))), (some (58, true))⟩,
             ⟨some 62, .pick (.t 58) (.t 61) (.k (.sc (.bool false))), none⟩] [0, 2, 4, 5, 6, 7, 9, 10, 24, 25, 26, 62])
          (.cond (.t 62)
            (.seq (.reg [⟨some 63, .bld [.bool false, .nilS] [], none⟩,
                ⟨none, .st 2 (.t 2) (.t 63), none⟩,
                ⟨some 3, .mv (.k (.sc (.bool true))), none⟩] [2, 3])
             (.ret))
            (.skip)))
         (.seq (.reg [⟨some 64, .mv (.t 4), none⟩,
             ⟨some 65, .mv (.t 7), none⟩,
             ⟨some 66, .mv (.t 9), none⟩,
             ⟨some 67, .idxA 1 (.t 64) (.t 65), none⟩,
             ⟨none, .st 1 (.t 67) (.t 66), none⟩] [0, 2, 4, 5, 6, 9, 10, 24, 25, 26])
          (.seq (.reg [⟨some 68, .mv (.t 5), none⟩,
              ⟨some 69, .mv (.t 9), none⟩,
              ⟨some 70, .bin .add (.t 68) (.t 69), none⟩,
              ⟨some 5, .mv (.t 70), none⟩] [0, 2, 4, 5, 6, 9, 10, 24, 25, 26])
           (.reg [⟨some 71, .mv (.t 6), none⟩,
              ⟨some 72, .mv (.t 10), none⟩,
              ⟨some 73, .mv (.t 9), none⟩,
              ⟨some 74, .bin .sub (.t 72) (.t 73), none⟩,
              ⟨some 75, .bin .add (.t 71) (.t 74), none⟩,
              ⟨some 6, .mv (.t 75), none⟩] [0, 2, 4, 5, 6, 24, 25, 26]))))))))
    (.reg [⟨some 76, .bin .add (.t 26) (.k (.sc (.int .i64 1))), none⟩,
       ⟨some 26, .mv (.t 76), none⟩] [0, 2, 4, 5, 6, 24, 25, 26])))
def b40L3 : AC :=
  .seq (.reg [⟨some 96, .bin .lss (.t 95) (.t 94), none⟩] [2, 4, 5, 6, 14, 15, 86, 87, 88, 93, 94, 95, 96])
  (.seq (.cond (.t 96)
     (.skip)
     (.exit 7))
   (.seq (.block 8 (.seq (.reg [⟨some 97, .idxA 2 (.t 93) (.t 95), none⟩,
         ⟨some 98, .ld 2 true (.t 97), none⟩,
         ⟨some 18, .new [.bool false, .nilS], none⟩,
         ⟨none, .st 2 (.t 18) (.t 98), none⟩] [2, 4, 5, 6, 14, 15, 18, 86, 87, 88, 93, 94, 95])
      (.regd [(⟨some 99, .mv (.t 14), none⟩, 0, false),
         (⟨some 100, .mv (.t 15), none⟩, 1, false),
         (⟨some 101, .mv (.t 14), none⟩, 2, false),
         (⟨some 102, .mv (.t 15), none⟩, 3, false),
         (⟨some 103, .idxA 1 (.t 101) (.t 102), none⟩, 4, false),
         (⟨some 104, .ld 1 false (.t 103), none⟩, 5, false),
         (⟨some 105, .ld 2 true (.t 18), none⟩, 6, false),
         (⟨some 106, .mv (.t 4), none⟩, 7, false),
         (⟨some 107, .mv (.t 15), none⟩, 8, false),
         (⟨some 108, .idxA 1 (.t 106) (.t 107), none⟩, 9, false),
         (⟨some 109, .ld 1 false (.t 108), none⟩, 10, false),
         (⟨some 110, .call 65 [(.t 105), (.t 109)], none⟩, 11, false),
         (⟨some 111, .bsl 1 [.nilS] 1 [(0, .t 110)], none⟩, 12, false),
         (⟨some 112, .app 1 24 [.nilS] (.t 104) (.t 111), none⟩, 13, true),
         (⟨some 113, .idxA 1 (.t 99) (.t 100), none⟩, 14, false),
         (⟨none, .st 1 (.t 113) (.t 112), none⟩, 15, true)] [2, 4, 5, 6, 14, 15, 86, 87, 88, 93, 94, 95])))
    (.reg [⟨some 114, .bin .add (.t 95) (.k (.sc (.int .i64 1))), none⟩,
       ⟨some 95, .mv (.t 114), none⟩] [2, 4, 5, 6, 14, 15, 86, 87, 88, 93, 94, 95])))
def b40L2 : AC :=
  .seq (.reg [⟨some 89, .bin .lss (.t 88) (.t 87), none⟩] [2, 4, 5, 6, 14, 86, 87, 88, 89])
  (.seq (.cond (.t 89)
     (.skip)
     (.exit 5))
   (.seq (.block 6 (.seq (.reg [⟨some 90, .mv (.t 88), none⟩,
         ⟨some 91, .idxA 1 (.t 86) (.t 88), none⟩,
         ⟨some 92, .ld 1 false (.t 91), none⟩,
         ⟨some 15, .mv (.t 90), none⟩,
         ⟨some 16, .mv (.t 92), none⟩] [2, 4, 5, 6, 14, 15, 16, 86, 87, 88])
      (.seq (.reg [⟨some 93, .mv (.t 16), none⟩,
          ⟨some 94, .len false (.t 93), none⟩,
          ⟨some 95, .mv (.k (.sc (.int .i64 0))), none⟩] [2, 4, 5, 6, 14, 15, 86, 87, 88, 93, 94, 95])
       (.block 7 (.loop [2, 4, 5, 6, 14, 15, 86, 87, 88, 93, 94, 95] b40L3)))))
    (.reg [⟨some 115, .bin .add (.t 88) (.k (.sc (.int .i64 1))), none⟩,
       ⟨some 88, .mv (.t 115), none⟩] [2, 4, 5, 6, 14, 86, 87, 88])))
/-- unravel/polymatrix.determinant -/
def b40 : AC :=
  .seq (.reg [⟨some 2, .new [.bool false, .nilS], none⟩,
     ⟨some 3, .mv (.k (.sc (.bool false))), none⟩] [0, 2])
  (.seq (.reg [⟨some 21, .mv (.t 0), none⟩,
      ⟨some 22, .len false (.t 21), none⟩,
      ⟨some 23, .mk 1 8 [.int .i64 0] (.t 22) (.t 22), none⟩,
      ⟨some 4, .mv (.t 23), none⟩] [0, 2, 4])
   (.seq (.reg [⟨some 5, .mv (.k (.sc (.int .i64 0))), none⟩,
       ⟨some 6, .mv (.k (.sc (.int .i64 0))), none⟩] [0, 2, 4, 5, 6])
    (.seq (.seq (.reg [⟨some 24, .mv (.t 0), none⟩,
         ⟨some 25, .len false (.t 24), none⟩,
         ⟨some 26, .mv (.k (.sc (.int .i64 0))), none⟩] [0, 2, 4, 5, 6, 24, 25, 26])
      (.block 0 (.loop [0, 2, 4, 5, 6, 24, 25, 26] b40L0)))
     (.seq (.seq (.reg [⟨some 77, .mv (.t 6), none⟩,
          ⟨some 78, .bin .geq (.t 77) (.k (.sc (.int .i64 131072))), none⟩] [0, 2, 4, 5, 6, 78])
       (.cond (.t 78)
         (.seq (.reg [⟨some 79, .mv (.t 0), none⟩,
             ⟨some 80, .call 76 [(.t 79)], none⟩,
             ⟨some 81, .ext (.t 80) 0, none⟩,
             ⟨some 82, .ext (.t 80) 1, none⟩,
             ⟨none, .st 2 (.t 2) (.t 81), none⟩,
             ⟨some 3, .mv (.t 82), none⟩] [2, 3])
          (.ret))
         (.skip)))
      (.seq (.reg [⟨some 83, .mv (.t 0), none⟩,
          ⟨some 84, .len false (.t 83), none⟩,
          ⟨some 85, .mk 1 24 [.nilS] (.t 84) (.t 84), none⟩,
          ⟨some 14, .mv (.t 85), none⟩] [0, 2, 4, 5, 6, 14])
       (.seq (.seq (.reg [⟨some 86, .mv (.t 0), none⟩,
            ⟨some 87, .len false (.t 86), none⟩,
            ⟨some 88, .mv (.k (.sc (.int .i64 0))), none⟩] [2, 4, 5, 6, 14, 86, 87, 88])
         (.block 5 (.loop [2, 4, 5, 6, 14, 86, 87, 88] b40L2)))
        (.seq (.reg [⟨some 117, .mv (.t 14), none⟩,
            ⟨some 118, .mv (.t 6), none⟩,
            ⟨some 119, .call 77 [(.t 117), (.t 118)], none⟩,
            ⟨some 116, .mv (.t 119), none⟩,
            ⟨some 120, .ext (.t 116) 0, none⟩,
            ⟨some 121, .ext (.t 116) 1, none⟩,
            ⟨some 19, .mv (.t 120), none⟩,
            ⟨some 20, .mv (.t 121), none⟩] [2, 5, 19, 20])
         (.seq (.seq (.reg [⟨some 122, .mv (.t 20), none⟩,
              ⟨some 123, .un .not (.t 122), none⟩] [2, 5, 19, 123])
           (.cond (.t 123)
             (.seq (.reg [⟨some 124, .bld [.bool false, .nilS] [], none⟩,
                 ⟨none, .st 2 (.t 2) (.t 124), none⟩,
                 ⟨some 3, .mv (.k (.sc (.bool false))), none⟩] [2, 3])
              (.ret))
             (.skip)))
          (.seq (.reg [⟨some 125, .mv (.t 5), none⟩,
              ⟨some 126, .mv (.t 19), none⟩,
              ⟨some 127, .call 20 [(.t 125), (.t 126)], none⟩,
              ⟨none, .st 2 (.t 2) (.t 127), none⟩,
              ⟨some 3, .mv (.k (.sc (.bool true))), none⟩] [2, 3])
           (.ret))))))))))
def a40 : AFun := ⟨1, b40, [.cell 2 2 true, .t 3]⟩

/-- (*strings.Builder).WriteByte -/
def b41 : AC :=
  .seq (.reg [⟨some 4, .mv (.k (.sc .nilI)), none⟩] [0, 1])
  (.seq (.reg [⟨some 5, .mv (.t 0), none⟩,
      ⟨some 6, .call 78 [(.t 5)], none⟩] [0, 1])
   (.seq (.reg [⟨some 7, .mv (.t 0), none⟩,
       ⟨some 8, .mv (.t 0), none⟩,
       ⟨some 9, .nilc (.t 8), none⟩,
       ⟨some 10, .fldA 1 (.t 9), none⟩,
       ⟨some 11, .ld 1 false (.t 10), none⟩,
       ⟨some 12, .mv (.t 1), none⟩,
       ⟨some 13, .bsl ⟨1, some 5⟩ [.int .u8 0] 1 [(0, .t 12)], none⟩,
       ⟨some 14, .app ⟨1, some 5⟩ 1 [.int .u8 0] (.t 11) (.t 13), none⟩,
       ⟨some 15, .nilc (.t 7), none⟩,
       ⟨some 16, .fldA 1 (.t 15), none⟩,
       ⟨none, .st 1 (.t 16) (.t 14), none⟩] [])
    (.seq (.reg [⟨some 4, .mv (.k (.sc .nilI)), none⟩] [4])
     (.ret))))
def a41 : AFun := ⟨2, b41, [.t 4]⟩

/-- (*strings.Builder).WriteString -/
def b42 : AC :=
  .seq (.reg [⟨some 4, .mv (.k (.sc (.int .i64 0))), none⟩,
     ⟨some 5, .mv (.k (.sc .nilI)), none⟩] [0, 1])
  (.seq (.reg [⟨some 6, .mv (.t 0), none⟩,
      ⟨some 7, .call 78 [(.t 6)], none⟩] [0, 1])
   (.seq (.reg [⟨some 8, .mv (.t 0), none⟩,
       ⟨some 9, .mv (.t 0), none⟩,
       ⟨some 10, .nilc (.t 9), none⟩,
       ⟨some 11, .fldA 1 (.t 10), none⟩,
       ⟨some 12, .ld 1 false (.t 11), none⟩,
       ⟨some 13, .mv (.t 1), none⟩,
       ⟨some 14, .app ⟨1, some 5⟩ 1 [.int .u8 0] (.t 12) (.t 13), none⟩,
       ⟨some 15, .nilc (.t 8), none⟩,
       ⟨some 16, .fldA 1 (.t 15), none⟩,
       ⟨none, .st 1 (.t 16) (.t 14), none⟩] [1])
    (.seq (.reg [⟨some 17, .mv (.t 1), none⟩,
        ⟨some 18, .len true (.t 17), none⟩,
        ⟨some 4, .mv (.t 18), none⟩,
        ⟨some 5, .mv (.k (.sc .nilI)), none⟩] [4, 5])
     (.ret))))
def a42 : AFun := ⟨2, b42, [.t 4, .t 5]⟩

/-- (*strings.Builder).String -/
def b44 : AC :=
  .seq (.reg [⟨some 2, .mv (.k (.sc (.str ⟨#[]⟩))), none⟩] [0])
  (.seq (.regd [(⟨some 3, .mv (.t 0), none⟩, 0, false),
      (⟨some 4, .nilc (.t 3), none⟩, 1, false),
      (⟨some 5, .fldA 1 (.t 4), none⟩, 2, false),
      (⟨some 6, .ld 1 false (.t 5), none⟩, 3, false),
      (⟨some 7, .usd (.t 6), none⟩, 4, false),
      (⟨some 8, .mv (.t 0), none⟩, 5, false),
      (⟨some 9, .nilc (.t 8), none⟩, 6, false),
      (⟨some 10, .fldA 1 (.t 9), none⟩, 7, false),
      (⟨some 11, .ld 1 false (.t 10), none⟩, 8, false),
      (⟨some 12, .len false (.t 11), none⟩, 9, false),
      (⟨some 13, .ustr 5 (.t 7) (.t 12), none⟩, 10, true),
      (⟨some 2, .mv (.t 13), none⟩, 11, false)] [2])
   (.ret))
def a44 : AFun := ⟨1, b44, [.t 2]⟩

/-- unravel/unravelref12.Decimal -/
def b45 : AC :=
  .seq (.reg [⟨some 2, .mv (.k (.sc (.str ⟨#[]⟩))), none⟩] [0])
  (.seq (.seq (.reg [⟨some 4, .mv (.t 0), none⟩,
       ⟨some 5, .bin .lss (.t 4) (.k (.sc (.int .i64 0))), none⟩] [0, 5])
    (.cond (.t 5)
      (.seq (.reg [⟨some 6, .mv (.t 0), none⟩,
          ⟨some 7, .un .neg (.t 6), none⟩,
          ⟨some 8, .call 45 [(.t 7)], none⟩,
          ⟨some 9, .bin .add (.k (.sc (.str ⟨#[45]⟩))) (.t 8), none⟩,
          ⟨some 2, .mv (.t 9), none⟩] [2])
       (.ret))
      (.skip)))
   (.seq (.reg [⟨some 10, .mv (.t 0), none⟩,
       ⟨some 11, .bin .rem (.t 10) (.k (.sc (.int .i64 10))), none⟩,
       ⟨some 12, .mv (.t 0), none⟩,
       ⟨some 13, .bin .rem (.t 12) (.k (.sc (.int .i64 10))), none⟩,
       ⟨some 14, .bin .add (.t 13) (.k (.sc (.int .i64 1))), none⟩,
       ⟨some 15, .slS (.k (.sc (.str ⟨#[48, 49, 50, 51, 52, 53, 54, 55, 56, 57]⟩))) (some (.t 11)) (some (.t 14)), none⟩,
       ⟨some 3, .mv (.t 15), none⟩] [0, 3])
    (.seq (.seq (.reg [⟨some 16, .mv (.t 0), none⟩,
         ⟨some 17, .bin .lss (.t 16) (.k (.sc (.int .i64 10))), none⟩] [0, 3, 17])
      (.cond (.t 17)
        (.seq (.reg [⟨some 18, .mv (.t 3), none⟩,
            ⟨some 2, .mv (.t 18), none⟩] [2])
         (.ret))
        (.skip)))
     (.seq (.reg [⟨some 19, .mv (.t 0), none⟩,
         ⟨some 20, .bin .quo (.t 19) (.k (.sc (.int .i64 10))), none⟩,
         ⟨some 21, .call 45 [(.t 20)], none⟩,
         ⟨some 22, .mv (.t 3), none⟩,
         ⟨some 23, .bin .add (.t 21) (.t 22), none⟩,
         ⟨some 2, .mv (.t 23), none⟩] [2])
      (.ret)))))
def a45 : AFun := ⟨1, b45, [.t 2]⟩

def b46L1 : AC :=
  .seq (.seq (.reg [⟨some 23, .mv (.t 8), none⟩,
      ⟨some 24, .fldA 0 (.t 3), none⟩,
      ⟨some 25, .ld 1 false (.t 24), none⟩,
      ⟨some 26, .len false (.t 25), none⟩,
      ⟨some 27, .bin .lss (.t 23) (.t 26), none⟩] [2, 3, 4, 5, 6, 7, 8, 27])
   (.cond (.t 27)
     (.skip)
     (.exit 2)))
  (.seq (.block 3 (.regd [(⟨some 31, .mv (.t 5), none⟩, 0, false),
       (⟨some 32, .mv (.t 6), none⟩, 1, false),
       (⟨some 33, .fldA 0 (.t 2), none⟩, 2, false),
       (⟨some 34, .ld 1 false (.t 33), none⟩, 3, false),
       (⟨some 35, .mv (.t 7), none⟩, 4, false),
       (⟨some 36, .idxA 2 (.t 34) (.t 35), none⟩, 5, false),
       (⟨some 37, .fldA 0 (.t 36), none⟩, 6, false),
       (⟨some 38, .ld 1 false (.t 37), none⟩, 7, false),
       (⟨some 39, .fldA 0 (.t 3), none⟩, 8, false),
       (⟨some 40, .ld 1 false (.t 39), none⟩, 9, false),
       (⟨some 41, .mv (.t 8), none⟩, 10, false),
       (⟨some 42, .idxA 2 (.t 40) (.t 41), none⟩, 11, false),
       (⟨some 43, .fldA 0 (.t 42), none⟩, 12, false),
       (⟨some 44, .ld 1 false (.t 43), none⟩, 13, false),
       (⟨some 45, .bin .add (.t 38) (.t 44), none⟩, 14, false),
       (⟨some 46, .fldA 0 (.t 2), none⟩, 15, false),
       (⟨some 47, .ld 1 false (.t 46), none⟩, 16, false),
       (⟨some 48, .mv (.t 7), none⟩, 17, false),
       (⟨some 49, .idxA 2 (.t 47) (.t 48), none⟩, 18, false),
       (⟨some 50, .fldA 1 (.t 49), none⟩, 19, false),
       (⟨some 51, .ld 1 false (.t 50), none⟩, 20, false),
       (⟨some 52, .fldA 0 (.t 3), none⟩, 21, false),
       (⟨some 53, .ld 1 false (.t 52), none⟩, 22, false),
       (⟨some 54, .mv (.t 8), none⟩, 23, false),
       (⟨some 55, .idxA 2 (.t 53) (.t 54), none⟩, 24, false),
       (⟨some 56, .fldA 1 (.t 55), none⟩, 25, false),
       (⟨some 57, .ld 1 false (.t 56), none⟩, 26, false),
       (⟨some 58, .call 81 [(.t 51), (.t 57)], none⟩, 27, false),
       (⟨some 59, .call 80 [(.t 31), (.t 32), (.t 45), (.t 58)], none⟩, 28, true),
       (⟨some 30, .mv (.t 59), none⟩, 29, false),
       (⟨some 60, .ext (.t 30) 0, none⟩, 30, false),
       (⟨some 61, .ext (.t 30) 1, none⟩, 31, false),
       (⟨some 5, .mv (.t 60), none⟩, 32, false),
       (⟨some 6, .mv (.t 61), none⟩, 33, false)] [2, 3, 4, 5, 6, 7, 8]))
   (.reg [⟨some 28, .mv (.t 8), none⟩,
      ⟨some 29, .bin .add (.t 28) (.k (.sc (.int .i64 1))), none⟩,
      ⟨some 8, .mv (.t 29), none⟩] [2, 3, 4, 5, 6, 7, 8]))
def b46L0 : AC :=
  .seq (.seq (.reg [⟨some 16, .mv (.t 7), none⟩,
      ⟨some 17, .fldA 0 (.t 2), none⟩,
      ⟨some 18, .ld 1 false (.t 17), none⟩,
      ⟨some 19, .len false (.t 18), none⟩,
      ⟨some 20, .bin .lss (.t 16) (.t 19), none⟩] [2, 3, 4, 5, 6, 7, 20])
   (.cond (.t 20)
     (.skip)
     (.exit 0)))
  (.seq (.block 1 (.seq (.reg [⟨some 8, .mv (.k (.sc (.int .i64 0))), none⟩] [2, 3, 4, 5, 6, 7, 8])
     (.block 2 (.loop [2, 3, 4, 5, 6, 7, 8] b46L1))))
   (.reg [⟨some 21, .mv (.t 7), none⟩,
      ⟨some 22, .bin .add (.t 21) (.k (.sc (.int .i64 1))), none⟩,
      ⟨some 7, .mv (.t 22), none⟩] [2, 3, 4, 5, 6, 7]))
/-- unravel/unravelref12.Mul -/
def b46 : AC :=
  .seq (.reg [⟨some 2, .box (.t 0), none⟩,
     ⟨some 3, .box (.t 1), none⟩,
     ⟨some 4, .new [.nilS, .bool false], none⟩] [2, 3, 4])
  (.seq (.seq (.reg [⟨some 9, .fldA 1 (.t 2), none⟩,
       ⟨some 10, .ld 1 false (.t 9), none⟩,
       ⟨some 11, .mv (.t 10), none⟩,
       ⟨some 12, .fldA 1 (.t 3), (some (11, false))⟩,
       ⟨some 13, .ld 1 false (.t 12), (some (11, false))⟩,
       ⟨some 14, .pick (.t 11) (.k (.sc (.bool true))) (.t 13), none⟩] [2, 3, 4, 14])
    (.cond (.t 14)
      (.seq (.reg [⟨some 15, .bld [.nilS, .bool false] [(1, 1, .k (.sc (.bool true)))], none⟩,
          ⟨none, .st 2 (.t 4) (.t 15), none⟩] [4])
       (.ret))
      (.skip)))
   (.seq (.reg [⟨some 5, .mv (.k (.sc .nilS)), none⟩] [2, 3, 4, 5])
    (.seq (.reg [⟨some 6, .mv (.k (.sc .nilS)), none⟩] [2, 3, 4, 5, 6])
     (.seq (.seq (.reg [⟨some 7, .mv (.k (.sc (.int .i64 0))), none⟩] [2, 3, 4, 5, 6, 7])
       (.block 0 (.loop [2, 3, 4, 5, 6, 7] b46L0)))
      (.seq (.reg [⟨some 62, .mv (.t 5), none⟩,
          ⟨some 63, .mv (.t 6), none⟩,
          ⟨some 64, .call 82 [(.t 62), (.t 63)], none⟩,
          ⟨none, .st 2 (.t 4) (.t 64), none⟩] [4])
       (.ret))))))
def a46 : AFun := ⟨2, b46, [.cell 4 2 true]⟩

def b48L0 : AC :=
  .seq (.seq (.reg [⟨some 8, .mv (.t 4), none⟩,
      ⟨some 9, .fldA 0 (.t 1), none⟩,
      ⟨some 10, .ld 1 false (.t 9), none⟩,
      ⟨some 11, .len false (.t 10), none⟩,
      ⟨some 12, .bin .lss (.t 8) (.t 11), none⟩] [1, 2, 3, 4, 12])
   (.cond (.t 12)
     (.skip)
     (.exit 0)))
  (.seq (.block 1 (.regd [(⟨some 15, .fldA 0 (.t 3), none⟩, 0, false),
       (⟨some 16, .ld 1 false (.t 15), none⟩, 1, false),
       (⟨some 17, .fldA 0 (.t 1), none⟩, 2, false),
       (⟨some 18, .ld 1 false (.t 17), none⟩, 3, false),
       (⟨some 19, .mv (.t 4), none⟩, 4, false),
       (⟨some 20, .idxA 2 (.t 18) (.t 19), none⟩, 5, false),
       (⟨some 21, .fldA 0 (.t 20), none⟩, 6, false),
       (⟨some 22, .ld 1 false (.t 21), none⟩, 7, false),
       (⟨some 23, .fldA 0 (.t 1), none⟩, 8, false),
       (⟨some 24, .ld 1 false (.t 23), none⟩, 9, false),
       (⟨some 25, .mv (.t 4), none⟩, 10, false),
       (⟨some 26, .idxA 2 (.t 24) (.t 25), none⟩, 11, false),
       (⟨some 27, .fldA 1 (.t 26), none⟩, 12, false),
       (⟨some 28, .ld 1 false (.t 27), none⟩, 13, false),
       (⟨some 29, .un .neg (.t 28), none⟩, 14, false),
       (⟨some 30, .bld [.int .i64 0, .int .i64 0] [(0, 1, .t 22), (1, 1, .t 29)], none⟩, 15, false),
       (⟨some 31, .bsl 2 [.int .i64 0, .int .i64 0] 1 [(0, .t 30)], none⟩, 16, false),
       (⟨some 32, .app 2 16 [.int .i64 0, .int .i64 0] (.t 16) (.t 31), none⟩, 17, true),
       (⟨some 33, .fldA 0 (.t 3), none⟩, 18, false),
       (⟨none, .st 1 (.t 33) (.t 32), none⟩, 19, true)] [1, 2, 3, 4]))
   (.reg [⟨some 13, .mv (.t 4), none⟩,
      ⟨some 14, .bin .add (.t 13) (.k (.sc (.int .i64 1))), none⟩,
      ⟨some 4, .mv (.t 14), none⟩] [1, 2, 3, 4]))
/-- unravel/unravelref12.Neg -/
def b48 : AC :=
  .seq (.reg [⟨some 1, .box (.t 0), none⟩,
     ⟨some 2, .new [.nilS, .bool false], none⟩] [1, 2])
  (.seq (.reg [⟨some 5, .fldA 1 (.t 1), none⟩,
      ⟨some 6, .ld 1 false (.t 5), none⟩,
      ⟨some 7, .bld [.nilS, .bool false] [(1, 1, .t 6)], none⟩,
      ⟨some 3, .new [.nilS, .bool false], none⟩,
      ⟨none, .st 2 (.t 3) (.t 7), none⟩] [1, 2, 3])
   (.seq (.seq (.reg [⟨some 4, .mv (.k (.sc (.int .i64 0))), none⟩] [1, 2, 3, 4])
     (.block 0 (.loop [1, 2, 3, 4] b48L0)))
    (.seq (.reg [⟨some 34, .ld 2 true (.t 3), none⟩,
        ⟨none, .st 2 (.t 2) (.t 34), none⟩] [2])
     (.ret))))
def a48 : AFun := ⟨1, b48, [.cell 2 2 true]⟩

/-- unravel/laurent.within -/
def b50 : AC :=
  .seq (.reg [⟨some 4, .mv (.k (.sc (.bool false))), none⟩] [0, 1])
  (.seq (.reg [⟨some 5, .mv (.t 0), none⟩,
      ⟨some 6, .mv (.t 1), none⟩,
      ⟨some 7, .un .neg (.t 6), none⟩,
      ⟨some 8, .bin .geq (.t 5) (.t 7), none⟩,
      ⟨some 9, .mv (.t 8), none⟩,
      ⟨some 10, .mv (.t 0), (some (9, true))⟩,
      ⟨some 11, .mv (.t 1), (some (9, true))⟩,
      ⟨some 12, .bin .leq (.t 10) (.t 11), (some (9, true))⟩,
      ⟨some 13, .pick (.t 9) (.t 12) (.k (.sc (.bool false))), none⟩,
      ⟨some 4, .mv (.t 13), none⟩] [4])
   (.ret))
def a50 : AFun := ⟨2, b50, [.t 4]⟩

def b51L0 : AC :=
  .seq (.seq (.reg [⟨some 29, .mv (.t 10), none⟩,
      ⟨some 30, .fldA 1 (.t 3), none⟩,
      ⟨some 31, .ld 1 false (.t 30), none⟩,
      ⟨some 32, .len false (.t 31), none⟩,
      ⟨some 33, .bin .lss (.t 29) (.t 32), none⟩,
      ⟨some 34, .mv (.t 33), none⟩,
      ⟨some 35, .mv (.t 11), (some (34, false))⟩,
      ⟨some 36, .fldA 1 (.t 4), (some (34, false))⟩,
      ⟨some 37, .ld 1 false (.t 36), (some (34, false))⟩,
      ⟨some 38, .len false (.t 37), (some (34, false))⟩,
      ⟨some 39, .bin .lss (.t 35) (.t 38), (some (34, false))⟩,
      ⟨some 40, .pick (.t 34) (.k (.sc (.bool true))) (.t 39), none⟩] [3, 4, 6, 7, 8, 9, 10, 11, 40])
   (.cond (.t 40)
     (.skip)
     (.exit 0)))
  (.block 1 (.block 2 (.seq (.regd [(⟨some 66, .mv (.t 11), none⟩, 0, false),
        (⟨some 67, .fldA 1 (.t 4), none⟩, 1, false),
        (⟨some 68, .ld 1 false (.t 67), none⟩, 2, true),
        (⟨some 69, .len false (.t 68), none⟩, 3, false),
        (⟨some 70, .bin .eql (.t 66) (.t 69), none⟩, 4, false),
        (⟨some 71, .mv (.t 70), none⟩, 5, false),
        (⟨some 72, .mv (.t 10), (some (71, false))⟩, 6, false),
        (⟨some 73, .fldA 1 (.t 3), (some (71, false))⟩, 7, false),
        (⟨some 74, .ld 1 false (.t 73), (some (71, false))⟩, 8, true),
        (⟨some 75, .len false (.t 74), (some (71, false))⟩, 9, false),
        (⟨some 76, .bin .lss (.t 72) (.t 75), (some (71, false))⟩, 10, false),
        (⟨some 77, .mv (.t 76), (some (71, false))⟩, 11, false),
        (⟨some 78, .fldA 1 (.t 3), (some (77, true))⟩, 12, false),
        (⟨some 79, .ld 1 false (.t 78), (some (77, true))⟩, 13, false),
        (⟨some 80, .mv (.t 10), (some (77, true))⟩, 14, false),
        (⟨some 81, .idxA 2 (.t 79) (.t 80), (some (77, true))⟩, 15, false),
        (⟨some 82, .fldA 0 (.t 81), (some (77, true))⟩, 16, false),
        (⟨some 83, .ld 1 false (.t 82), (some (77, true))⟩, 17, false),
        (⟨some 84, .fldA 1 (.t 4), (some (77, true))⟩, 18, false),
        (⟨some 85, .ld 1 false (.t 84), (some (77, true))⟩, 19, false),
        (⟨some 86, .mv (.t 11), (some (77, true))⟩, 20, false),
        (⟨some 87, .idxA 2 (.t 85) (.t 86), (some (77, true))⟩, 21, false),
        (⟨some 88, .fldA 0 (.t 87), (some (77, true))⟩, 22, false),
        (⟨some 89, .ld 1 false (.t 88), (some (77, true))⟩, 23, false),
        (⟨some 90, .bin .lss (.t 83) (.t 89), (some (77, true))⟩, 24, false),
        (⟨some 91, .pick (.t 77) (.t 90) (.k (.sc (.bool false))), (some (71, false))⟩, 25, false),
        (⟨some 92, .pick (.t 71) (.k (.sc (.bool true))) (.t 91), none⟩, 26, false),
        (⟨some 65, .mv (.t 92), none⟩, 27, false)] [3, 4, 6, 7, 8, 9, 10, 11, 65])
     (.cond (.t 65)
       (.seq (.regd [(⟨some 93, .mv (.t 9), none⟩, 0, false),
           (⟨some 94, .fldA 1 (.t 3), none⟩, 1, false),
           (⟨some 95, .ld 1 false (.t 94), none⟩, 2, false),
           (⟨some 96, .mv (.t 10), none⟩, 3, false),
           (⟨some 97, .idxA 2 (.t 95) (.t 96), none⟩, 4, false),
           (⟨some 98, .fldA 0 (.t 97), none⟩, 5, false),
           (⟨some 99, .ld 1 false (.t 98), none⟩, 6, false),
           (⟨some 100, .fldA 1 (.t 3), none⟩, 7, false),
           (⟨some 101, .ld 1 false (.t 100), none⟩, 8, false),
           (⟨some 102, .mv (.t 10), none⟩, 9, false),
           (⟨some 103, .idxA 2 (.t 101) (.t 102), none⟩, 10, false),
           (⟨some 104, .fldA 1 (.t 103), none⟩, 11, false),
           (⟨some 105, .ld 1 false (.t 104), none⟩, 12, false),
           (⟨some 106, .callv (.t 93) [(.t 99), (.t 105), (.k (.sc (.int .i64 0)))], none⟩, 13, true)] [3, 4, 6, 7, 8, 9, 10, 11])
        (.reg [⟨some 107, .mv (.t 10), none⟩,
           ⟨some 108, .bin .add (.t 107) (.k (.sc (.int .i64 1))), none⟩,
           ⟨some 10, .mv (.t 108), none⟩] [3, 4, 6, 7, 8, 9, 10, 11]))
       (.seq (.regd [(⟨some 110, .mv (.t 10), none⟩, 0, false),
           (⟨some 111, .fldA 1 (.t 3), none⟩, 1, false),
           (⟨some 112, .ld 1 false (.t 111), none⟩, 2, true),
           (⟨some 113, .len false (.t 112), none⟩, 3, false),
           (⟨some 114, .bin .eql (.t 110) (.t 113), none⟩, 4, false),
           (⟨some 115, .mv (.t 114), none⟩, 5, false),
           (⟨some 116, .fldA 1 (.t 4), (some (115, false))⟩, 6, false),
           (⟨some 117, .ld 1 false (.t 116), (some (115, false))⟩, 7, false),
           (⟨some 118, .mv (.t 11), (some (115, false))⟩, 8, false),
           (⟨some 119, .idxA 2 (.t 117) (.t 118), (some (115, false))⟩, 9, false),
           (⟨some 120, .fldA 0 (.t 119), (some (115, false))⟩, 10, false),
           (⟨some 121, .ld 1 false (.t 120), (some (115, false))⟩, 11, false),
           (⟨some 122, .fldA 1 (.t 3), (some (115, false))⟩, 12, false),
           (⟨some 123, .ld 1 false (.t 122), (some (115, false))⟩, 13, false),
           (⟨some 124, .mv (.t 10), (some (115, false))⟩, 14, false),
           (⟨some 125, .idxA 2 (.t 123) (.t 124), (some (115, false))⟩, 15, false),
           (⟨some 126, .fldA 0 (.t 125), (some (115, false))⟩, 16, false),
           (⟨some 127, .ld 1 false (.t 126), (some (115, false))⟩, 17, false),
           (⟨some 128, .bin .lss (.t 121) (.t 127), (some (115, false))⟩, 18, false),
           (⟨some 129, .pick (.t 115) (.k (.sc (.bool true))) (.t 128), none⟩, 19, false),
           (⟨some 109, .mv (.t 129), none⟩, 20, false)] [3, 4, 6, 7, 8, 9, 10, 11, 109])
        (.cond (.t 109)
          (.seq (.regd [(⟨some 130, .mv (.t 9), none⟩, 0, false),
              (⟨some 131, .fldA 1 (.t 4), none⟩, 1, false),
              (⟨some 132, .ld 1 false (.t 131), none⟩, 2, false),
              (⟨some 133, .mv (.t 11), none⟩, 3, false),
              (⟨some 134, .idxA 2 (.t 132) (.t 133), none⟩, 4, false),
              (⟨some 135, .fldA 0 (.t 134), none⟩, 5, false),
              (⟨some 136, .ld 1 false (.t 135), none⟩, 6, false),
              (⟨some 137, .fldA 1 (.t 4), none⟩, 7, false),
              (⟨some 138, .ld 1 false (.t 137), none⟩, 8, false),
              (⟨some 139, .mv (.t 11), none⟩, 9, false),
              (⟨some 140, .idxA 2 (.t 138) (.t 139), none⟩, 10, false),
              (⟨some 141, .fldA 1 (.t 140), none⟩, 11, false),
              (⟨some 142, .ld 1 false (.t 141), none⟩, 12, false),
              (⟨some 143, .callv (.t 130) [(.t 136), (.k (.sc (.int .i64 0))), (.t 142)], none⟩, 13, true)] [3, 4, 6, 7, 8, 9, 10, 11])
           (.reg [⟨some 144, .mv (.t 11), none⟩,
              ⟨some 145, .bin .add (.t 144) (.k (.sc (.int .i64 1))), none⟩,
              ⟨some 11, .mv (.t 145), none⟩] [3, 4, 6, 7, 8, 9, 10, 11]))
          (.seq (.regd [(⟨some 41, .mv (.t 9), none⟩, 0, false),
              (⟨some 42, .fldA 1 (.t 3), none⟩, 1, false),
              (⟨some 43, .ld 1 false (.t 42), none⟩, 2, false),
              (⟨some 44, .mv (.t 10), none⟩, 3, false),
              (⟨some 45, .idxA 2 (.t 43) (.t 44), none⟩, 4, false),
              (⟨some 46, .fldA 0 (.t 45), none⟩, 5, false),
              (⟨some 47, .ld 1 false (.t 46), none⟩, 6, false),
              (⟨some 48, .fldA 1 (.t 3), none⟩, 7, false),
              (⟨some 49, .ld 1 false (.t 48), none⟩, 8, false),
              (⟨some 50, .mv (.t 10), none⟩, 9, false),
              (⟨some 51, .idxA 2 (.t 49) (.t 50), none⟩, 10, false),
              (⟨some 52, .fldA 1 (.t 51), none⟩, 11, false),
              (⟨some 53, .ld 1 false (.t 52), none⟩, 12, false),
              (⟨some 54, .fldA 1 (.t 4), none⟩, 13, false),
              (⟨some 55, .ld 1 false (.t 54), none⟩, 14, false),
              (⟨some 56, .mv (.t 11), none⟩, 15, false),
              (⟨some 57, .idxA 2 (.t 55) (.t 56), none⟩, 16, false),
              (⟨some 58, .fldA 1 (.t 57), none⟩, 17, false),
              (⟨some 59, .ld 1 false (.t 58), none⟩, 18, false),
              (⟨some 60, .callv (.t 41) [(.t 47), (.t 53), (.t 59)], none⟩, 19, true)] [3, 4, 6, 7, 8, 9, 10, 11])
           (.seq (.reg [⟨some 61, .mv (.t 10), none⟩,
               ⟨some 62, .bin .add (.t 61) (.k (.sc (.int .i64 1))), none⟩,
               ⟨some 10, .mv (.t 62), none⟩] [3, 4, 6, 7, 8, 9, 10, 11])
            (.reg [⟨some 63, .mv (.t 11), none⟩,
               ⟨some 64, .bin .add (.t 63) (.k (.sc (.int .i64 1))), none⟩,
               ⟨some 11, .mv (.t 64), none⟩] [3, 4, 6, 7, 8, 9, 10, 11])))))))))
/-- unravel/laurent.combine -/
def b51 : AC :=
  .seq (.reg [⟨some 3, .box (.t 0), none⟩,
     ⟨some 4, .box (.t 1), none⟩,
     ⟨some 5, .box (.t 2), none⟩,
     ⟨some 6, .new [.bool false, .nilS], none⟩] [3, 4, 5, 6])
  (.seq (.seq (.reg [⟨some 12, .fldA 0 (.t 3), none⟩,
       ⟨some 13, .ld 1 false (.t 12), none⟩,
       ⟨some 14, .mv (.t 13), none⟩,
       ⟨some 15, .fldA 0 (.t 4), (some (14, false))⟩,
       ⟨some 16, .ld 1 false (.t 15), (some (14, false))⟩,
       ⟨some 17, .pick (.t 14) (.k (.sc (.bool true))) (.t 16), none⟩] [3, 4, 5, 6, 17])
    (.cond (.t 17)
      (.seq (.reg [⟨some 18, .bld [.bool false, .nilS] [(0, 1, .k (.sc (.bool true)))], none⟩,
          ⟨none, .st 2 (.t 6) (.t 18), none⟩] [6])
       (.ret))
      (.skip)))
   (.seq (.reg [⟨some 19, .fldA 1 (.t 3), none⟩,
       ⟨some 20, .ld 1 false (.t 19), none⟩,
       ⟨some 21, .len false (.t 20), none⟩,
       ⟨some 22, .fldA 1 (.t 4), none⟩,
       ⟨some 23, .ld 1 false (.t 22), none⟩,
       ⟨some 24, .len false (.t 23), none⟩,
       ⟨some 25, .bin .add (.t 21) (.t 24), none⟩,
       ⟨some 26, .mk 2 16 [.int .i64 0, .int .i64 0] (.k (.sc (.int .i64 0))) (.t 25), none⟩,
       ⟨some 27, .bld [.bool false, .nilS] [(1, 1, .t 26)], none⟩,
       ⟨some 7, .new [.bool false, .nilS], none⟩,
       ⟨none, .st 2 (.t 7) (.t 27), none⟩] [3, 4, 5, 6, 7])
    (.seq (.reg [⟨some 8, .new [.bool false], none⟩,
        ⟨none, .st 1 (.t 8) (.k (.sc (.bool true))), none⟩] [3, 4, 5, 6, 7, 8])
     (.seq (.reg [⟨some 28, .mkf 83 [(.t 5), (.t 8), (.t 7)], none⟩,
         ⟨some 9, .mv (.t 28), none⟩] [3, 4, 6, 7, 8, 9])
      (.seq (.reg [⟨some 10, .mv (.k (.sc (.int .i64 0))), none⟩,
          ⟨some 11, .mv (.k (.sc (.int .i64 0))), none⟩] [3, 4, 6, 7, 8, 9, 10, 11])
       (.seq (.block 0 (.loop [3, 4, 6, 7, 8, 9, 10, 11] b51L0))
        (.seq (.seq (.reg [⟨some 146, .ld 1 false (.t 8), none⟩,
             ⟨some 147, .un .not (.t 146), none⟩] [6, 7, 147])
          (.cond (.t 147)
            (.seq (.reg [⟨some 148, .bld [.bool false, .nilS] [(0, 1, .k (.sc (.bool true)))], none⟩,
                ⟨none, .st 2 (.t 6) (.t 148), none⟩] [6])
             (.ret))
            (.skip)))
         (.seq (.reg [⟨some 149, .ld 2 true (.t 7), none⟩,
             ⟨none, .st 2 (.t 6) (.t 149), none⟩] [6])
          (.ret)))))))))
def a51 : AFun := ⟨3, b51, [.cell 6 2 true]⟩

/-- (unravel/laurent.Poly).Add$1 -/
def b52 : AC :=
  .seq (.reg [⟨some 4, .mv (.k (.sc (.int .i64 0))), none⟩] [0, 1])
  (.seq (.reg [⟨some 5, .mv (.t 0), none⟩,
      ⟨some 6, .mv (.t 1), none⟩,
      ⟨some 7, .bin .add (.t 5) (.t 6), none⟩,
      ⟨some 4, .mv (.t 7), none⟩] [4])
   (.ret))
def a52 : AFun := ⟨2, b52, [.t 4]⟩

/-- (unravel/laurent.Poly).Low -/
def b53 : AC :=
  .seq (.reg [⟨some 1, .box (.t 0), none⟩,
     ⟨some 2, .mv (.k (.sc (.int .i64 0))), none⟩] [1])
  (.seq (.seq (.reg [⟨some 3, .fldA 1 (.t 1), none⟩,
       ⟨some 4, .ld 1 false (.t 3), none⟩,
       ⟨some 5, .len false (.t 4), none⟩,
       ⟨some 6, .bin .eql (.t 5) (.k (.sc (.int .i64 0))), none⟩] [1, 6])
    (.cond (.t 6)
      (.seq (.reg [⟨some 2, .mv (.k (.sc (.int .i64 0))), none⟩] [2])
       (.ret))
      (.skip)))
   (.seq (.reg [⟨some 7, .fldA 1 (.t 1), none⟩,
       ⟨some 8, .ld 1 false (.t 7), none⟩,
       ⟨some 9, .idxA 2 (.t 8) (.k (.sc (.int .i64 0))), none⟩,
       ⟨some 10, .fldA 0 (.t 9), none⟩,
       ⟨some 11, .ld 1 false (.t 10), none⟩,
       ⟨some 2, .mv (.t 11), none⟩] [2])
    (.ret)))
def a53 : AFun := ⟨1, b53, [.t 2]⟩

/-- (unravel/laurent.Poly).High -/
def b54 : AC :=
  .seq (.reg [⟨some 1, .box (.t 0), none⟩,
     ⟨some 2, .mv (.k (.sc (.int .i64 0))), none⟩] [1])
  (.seq (.seq (.reg [⟨some 3, .fldA 1 (.t 1), none⟩,
       ⟨some 4, .ld 1 false (.t 3), none⟩,
       ⟨some 5, .len false (.t 4), none⟩,
       ⟨some 6, .bin .eql (.t 5) (.k (.sc (.int .i64 0))), none⟩] [1, 6])
    (.cond (.t 6)
      (.seq (.reg [⟨some 2, .mv (.k (.sc (.int .i64 0))), none⟩] [2])
       (.ret))
      (.skip)))
   (.seq (.reg [⟨some 7, .fldA 1 (.t 1), none⟩,
       ⟨some 8, .ld 1 false (.t 7), none⟩,
       ⟨some 9, .fldA 1 (.t 1), none⟩,
       ⟨some 10, .ld 1 false (.t 9), none⟩,
       ⟨some 11, .len false (.t 10), none⟩,
       ⟨some 12, .bin .sub (.t 11) (.k (.sc (.int .i64 1))), none⟩,
       ⟨some 13, .idxA 2 (.t 8) (.t 12), none⟩,
       ⟨some 14, .fldA 0 (.t 13), none⟩,
       ⟨some 15, .ld 1 false (.t 14), none⟩,
       ⟨some 2, .mv (.t 15), none⟩] [2])
    (.ret)))
def a54 : AFun := ⟨1, b54, [.t 2]⟩

/-- (unravel/laurent.wide).add -/
def b58 : AC :=
  .seq (.reg [⟨some 2, .box (.t 0), none⟩,
     ⟨some 3, .box (.t 1), none⟩,
     ⟨some 4, .new [.int .u64 0, .int .u64 0], none⟩] [2, 3, 4])
  (.seq (.reg [⟨some 10, .fldA 1 (.t 2), none⟩,
      ⟨some 11, .ld 1 false (.t 10), none⟩,
      ⟨some 12, .fldA 1 (.t 3), none⟩,
      ⟨some 13, .ld 1 false (.t 12), none⟩,
      ⟨some 14, .car false (.t 11) (.t 13) (.k (.sc (.int .u64 0))), none⟩,
      ⟨some 9, .mv (.t 14), none⟩,
      ⟨some 15, .ext (.t 9) 0, none⟩,
      ⟨some 16, .ext (.t 9) 1, none⟩,
      ⟨some 5, .mv (.t 15), none⟩,
      ⟨some 6, .mv (.t 16), none⟩] [2, 3, 4, 5, 6])
   (.seq (.reg [⟨some 18, .fldA 0 (.t 2), none⟩,
       ⟨some 19, .ld 1 false (.t 18), none⟩,
       ⟨some 20, .fldA 0 (.t 3), none⟩,
       ⟨some 21, .ld 1 false (.t 20), none⟩,
       ⟨some 22, .mv (.t 6), none⟩,
       ⟨some 23, .car false (.t 19) (.t 21) (.t 22), none⟩,
       ⟨some 17, .mv (.t 23), none⟩,
       ⟨some 24, .ext (.t 17) 0, none⟩,
       ⟨some 25, .ext (.t 17) 1, none⟩,
       ⟨some 7, .mv (.t 24), none⟩,
       ⟨some 8, .mv (.t 25), none⟩] [4, 5, 7])
    (.seq (.reg [⟨some 26, .mv (.t 7), none⟩,
        ⟨some 27, .mv (.t 5), none⟩,
        ⟨some 28, .bld [.int .u64 0, .int .u64 0] [(0, 1, .t 26), (1, 1, .t 27)], none⟩,
        ⟨none, .st 2 (.t 4) (.t 28), none⟩] [4])
     (.ret))))
def a58 : AFun := ⟨2, b58, [.cell 4 2 true]⟩

def b60L0 : AC :=
  .seq (.reg [⟨some 14, .bin .lss (.t 13) (.t 12), none⟩] [0, 1, 12, 13, 14])
  (.seq (.cond (.t 14)
     (.skip)
     (.exit 0))
   (.seq (.block 1 (.seq (.reg [⟨some 15, .mv (.t 13), none⟩,
         ⟨some 5, .mv (.t 15), none⟩] [0, 1, 5, 12, 13])
      (.seq (.regd [(⟨some 16, .mv (.t 0), none⟩, 0, false),
          (⟨some 17, .mv (.t 5), none⟩, 1, false),
          (⟨some 18, .idxA 2 (.t 16) (.t 17), none⟩, 2, false),
          (⟨some 19, .ld 2 true (.t 18), none⟩, 3, false),
          (⟨some 20, .mv (.t 1), none⟩, 4, false),
          (⟨some 21, .mv (.t 5), none⟩, 5, false),
          (⟨some 22, .idxA 2 (.t 20) (.t 21), none⟩, 6, false),
          (⟨some 23, .ld 2 true (.t 22), none⟩, 7, false),
          (⟨some 24, .seq2 true (.t 19) (.t 23), none⟩, 8, true)] [0, 1, 12, 13, 24])
       (.cond (.t 24)
         (.seq (.reg [⟨some 4, .mv (.k (.sc (.bool false))), none⟩] [4])
          (.ret))
         (.skip)))))
    (.reg [⟨some 25, .bin .add (.t 13) (.k (.sc (.int .i64 1))), none⟩,
       ⟨some 13, .mv (.t 25), none⟩] [0, 1, 12, 13])))
/-- slices.Equal[[]unravel/laurent.term,unravel/laurent.term] -/
def b60 : AC :=
  .seq (.reg [⟨some 4, .mv (.k (.sc (.bool false))), none⟩] [0, 1])
  (.seq (.seq (.reg [⟨some 6, .mv (.t 0), none⟩,
       ⟨some 7, .len false (.t 6), none⟩,
       ⟨some 8, .mv (.t 1), none⟩,
       ⟨some 9, .len false (.t 8), none⟩,
       ⟨some 10, .bin .neq (.t 7) (.t 9), none⟩] [0, 1, 10])
    (.cond (.t 10)
      (.seq (.reg [⟨some 4, .mv (.k (.sc (.bool false))), none⟩] [4])
       (.ret))
      (.skip)))
   (.seq (.seq (.reg [⟨some 11, .mv (.t 0), none⟩,
        ⟨some 12, .len false (.t 11), none⟩,
        ⟨some 13, .mv (.k (.sc (.int .i64 0))), none⟩] [0, 1, 12, 13])
     (.block 0 (.loop [0, 1, 12, 13] b60L0)))
    (.seq (.reg [⟨some 4, .mv (.k (.sc (.bool true))), none⟩] [4])
     (.ret))))
def a60 : AFun := ⟨2, b60, [.t 4]⟩

/-- (unravel/laurent.Poly).Neg$1 -/
def b61 : AC :=
  .seq (.reg [⟨some 4, .mv (.k (.sc (.int .i64 0))), none⟩] [1])
  (.seq (.reg [⟨some 5, .mv (.t 1), none⟩,
      ⟨some 6, .un .neg (.t 5), none⟩,
      ⟨some 4, .mv (.t 6), none⟩] [4])
   (.ret))
def a61 : AFun := ⟨2, b61, [.t 4]⟩

/-- (unravel/laurent.Poly).Coef -/
def b62 : AC :=
  .seq (.reg [⟨some 2, .box (.t 0), none⟩,
     ⟨some 4, .mv (.k (.sc (.int .i64 0))), none⟩] [1, 2])
  (.seq (.reg [⟨some 8, .fldA 1 (.t 2), none⟩,
      ⟨some 9, .ld 1 false (.t 8), none⟩,
      ⟨some 10, .mv (.t 1), none⟩,
      ⟨some 11, .call 89 [(.t 9), (.t 10), (.k (.sc (.fn 90 [])))], none⟩,
      ⟨some 7, .mv (.t 11), none⟩,
      ⟨some 12, .ext (.t 7) 0, none⟩,
      ⟨some 13, .ext (.t 7) 1, none⟩,
      ⟨some 5, .mv (.t 12), none⟩,
      ⟨some 6, .mv (.t 13), none⟩] [2, 5, 6])
   (.seq (.seq (.reg [⟨some 14, .mv (.t 6), none⟩,
        ⟨some 15, .un .not (.t 14), none⟩] [2, 5, 15])
     (.cond (.t 15)
       (.seq (.reg [⟨some 4, .mv (.k (.sc (.int .i64 0))), none⟩] [4])
        (.ret))
       (.skip)))
    (.seq (.reg [⟨some 16, .fldA 1 (.t 2), none⟩,
        ⟨some 17, .ld 1 false (.t 16), none⟩,
        ⟨some 18, .mv (.t 5), none⟩,
        ⟨some 19, .idxA 2 (.t 17) (.t 18), none⟩,
        ⟨some 20, .fldA 1 (.t 19), none⟩,
        ⟨some 21, .ld 1 false (.t 20), none⟩,
        ⟨some 4, .mv (.t 21), none⟩] [4])
     (.ret))))
def a62 : AFun := ⟨2, b62, [.t 4]⟩

def b63L0 : AC :=
  .seq (.reg [⟨some 21, .bin .lss (.t 20) (.t 19), none⟩] [1, 4, 5, 18, 19, 20, 21])
  (.seq (.cond (.t 21)
     (.skip)
     (.exit 0))
   (.seq (.block 1 (.seq (.reg [⟨some 22, .idxA 2 (.t 18) (.t 20), none⟩,
         ⟨some 23, .ld 2 true (.t 22), none⟩,
         ⟨some 7, .new [.int .i64 0, .int .i64 0], none⟩,
         ⟨none, .st 2 (.t 7) (.t 23), none⟩] [1, 4, 5, 7, 18, 19, 20])
      (.seq (.reg [⟨some 24, .mv (.t 1), none⟩,
          ⟨some 25, .fldA 0 (.t 7), none⟩,
          ⟨some 26, .ld 1 false (.t 25), none⟩,
          ⟨some 27, .callv (.t 24) [(.t 26)], none⟩,
          ⟨some 8, .mv (.t 27), none⟩] [1, 4, 5, 7, 8, 18, 19, 20])
       (.seq (.seq (.reg [⟨some 28, .mv (.t 8), none⟩,
            ⟨some 29, .call 50 [(.t 28), (.k (.sc (.int .i64 1048576)))], none⟩,
            ⟨some 30, .un .not (.t 29), none⟩] [1, 4, 5, 7, 8, 18, 19, 20, 30])
         (.cond (.t 30)
           (.seq (.reg [⟨some 31, .bld [.bool false, .nilS] [(0, 1, .k (.sc (.bool true)))], none⟩,
               ⟨none, .st 2 (.t 4) (.t 31), none⟩] [4])
            (.ret))
           (.skip)))
        (.reg [⟨some 32, .fldA 1 (.t 5), none⟩,
           ⟨some 33, .ld 1 false (.t 32), none⟩,
           ⟨some 34, .mv (.t 8), none⟩,
           ⟨some 35, .fldA 1 (.t 7), none⟩,
           ⟨some 36, .ld 1 false (.t 35), none⟩,
           ⟨some 37, .bld [.int .i64 0, .int .i64 0] [(0, 1, .t 34), (1, 1, .t 36)], none⟩,
           ⟨some 38, .bsl 2 [.int .i64 0, .int .i64 0] 1 [(0, .t 37)], none⟩,
           ⟨some 39, .app 2 16 [.int .i64 0, .int .i64 0] (.t 33) (.t 38), none⟩,
           ⟨some 40, .fldA 1 (.t 5), none⟩,
           ⟨none, .st 1 (.t 40) (.t 39), none⟩] [1, 4, 5, 18, 19, 20])))))
    (.reg [⟨some 41, .bin .add (.t 20) (.k (.sc (.int .i64 1))), none⟩,
       ⟨some 20, .mv (.t 41), none⟩] [1, 4, 5, 18, 19, 20])))
/-- unravel/laurent.moved -/
def b63 : AC :=
  .seq (.reg [⟨some 2, .box (.t 0), none⟩,
     ⟨some 4, .new [.bool false, .nilS], none⟩] [1, 2, 4])
  (.seq (.seq (.reg [⟨some 9, .fldA 0 (.t 2), none⟩,
       ⟨some 10, .ld 1 false (.t 9), none⟩] [1, 2, 4, 10])
    (.cond (.t 10)
      (.seq (.reg [⟨some 11, .ld 2 true (.t 2), none⟩,
          ⟨none, .st 2 (.t 4) (.t 11), none⟩] [4])
       (.ret))
      (.skip)))
   (.seq (.reg [⟨some 12, .fldA 1 (.t 2), none⟩,
       ⟨some 13, .ld 1 false (.t 12), none⟩,
       ⟨some 14, .len false (.t 13), none⟩,
       ⟨some 15, .mk 2 16 [.int .i64 0, .int .i64 0] (.k (.sc (.int .i64 0))) (.t 14), none⟩,
       ⟨some 16, .bld [.bool false, .nilS] [(1, 1, .t 15)], none⟩,
       ⟨some 5, .new [.bool false, .nilS], none⟩,
       ⟨none, .st 2 (.t 5) (.t 16), none⟩] [1, 2, 4, 5])
    (.seq (.seq (.reg [⟨some 17, .fldA 1 (.t 2), none⟩,
         ⟨some 18, .ld 1 false (.t 17), none⟩,
         ⟨some 19, .len false (.t 18), none⟩,
         ⟨some 20, .mv (.k (.sc (.int .i64 0))), none⟩] [1, 4, 5, 18, 19, 20])
      (.block 0 (.loop [1, 4, 5, 18, 19, 20] b63L0)))
     (.seq (.seq (.regd [(⟨some 42, .fldA 1 (.t 5), none⟩, 0, false),
          (⟨some 43, .ld 1 false (.t 42), none⟩, 1, true),
          (⟨some 44, .len false (.t 43), none⟩, 2, false),
          (⟨some 45, .bin .gtr (.t 44) (.k (.sc (.int .i64 1))), none⟩, 3, false),
          (⟨some 46, .mv (.t 45), none⟩, 4, false),
          (⟨some 47, .fldA 1 (.t 5), (some (46, true))⟩, 5, false),
          (⟨some 48, .ld 1 false (.t 47), (some (46, true))⟩, 6, false),
          (⟨some 49, .idxA 2 (.t 48) (.k (.sc (.int .i64 0))), (some (46, true))⟩, 7, false),
          (⟨some 50, .fldA 0 (.t 49), (some (46, true))⟩, 8, false),
          (⟨some 51, .ld 1 false (.t 50), (some (46, true))⟩, 9, false),
          (⟨some 52, .fldA 1 (.t 5), (some (46, true))⟩, 10, false),
          (⟨some 53, .ld 1 false (.t 52), (some (46, true))⟩, 11, false),
          (⟨some 54, .idxA 2 (.t 53) (.k (.sc (.int .i64 1))), (some (46, true))⟩, 12, false),
          (⟨some 55, .fldA 0 (.t 54), (some (46, true))⟩, 13, false),
          (⟨some 56, .ld 1 false (.t 55), (some (46, true))⟩, 14, false),
          (⟨some 57, .bin .gtr (.t 51) (.t 56), (some (46, true))⟩, 15, false),
          (⟨some 58, .pick (.t 46) (.t 57) (.k (.sc (.bool false))), none⟩, 16, false)] [4, 5, 58])
       (.cond (.t 58)
         (.reg [⟨some 59, .fldA 1 (.t 5), none⟩,
            ⟨some 60, .ld 1 false (.t 59), none⟩,
            ⟨some 61, .call 92 [(.t 60)], none⟩] [4, 5])
         (.skip)))
      (.seq (.reg [⟨some 62, .ld 2 true (.t 5), none⟩,
          ⟨none, .st 2 (.t 4) (.t 62), none⟩] [4])
       (.ret))))))
def a63 : AFun := ⟨2, b63, [.cell 4 2 true]⟩

/-- (unravel/laurent.Poly).Shift$1 -/
def b64 : AC :=
  .seq (.reg [⟨some 3, .mv (.k (.sc (.int .i64 0))), none⟩] [0, 1])
  (.seq (.reg [⟨some 4, .mv (.t 0), none⟩,
      ⟨some 5, .ld 1 false (.t 1), none⟩,
      ⟨some 6, .bin .add (.t 4) (.t 5), none⟩,
      ⟨some 3, .mv (.t 6), none⟩] [3])
   (.ret))
def a64 : AFun := ⟨2, b64, [.t 3]⟩

def b65L0 : AC :=
  .seq (.seq (.reg [⟨some 10, .mv (.t 6), none⟩,
      ⟨some 11, .ld 2 true (.t 2), none⟩,
      ⟨some 12, .call 54 [(.t 11)], none⟩,
      ⟨some 13, .bin .leq (.t 10) (.t 12), none⟩] [1, 2, 5, 6, 13])
   (.cond (.t 13)
     (.skip)
     (.exit 0)))
  (.seq (.block 1 (.seq (.reg [⟨some 16, .ld 2 true (.t 2), none⟩,
        ⟨some 17, .mv (.t 6), none⟩,
        ⟨some 18, .call 62 [(.t 16), (.t 17)], none⟩,
        ⟨some 7, .mv (.t 18), none⟩] [1, 2, 5, 6, 7])
     (.seq (.reg [⟨some 19, .mv (.t 7), none⟩,
         ⟨some 20, .bin .neq (.t 19) (.k (.sc (.int .i64 0))), none⟩] [1, 2, 5, 6, 7, 20])
      (.cond (.t 20)
        (.reg [⟨some 21, .mv (.t 5), none⟩,
           ⟨some 22, .mv (.t 6), none⟩,
           ⟨some 23, .mv (.t 1), none⟩,
           ⟨some 24, .bin .sub (.t 22) (.t 23), none⟩,
           ⟨some 25, .mv (.t 7), none⟩,
           ⟨some 26, .bld [.int .i64 0, .int .i64 0] [(0, 1, .t 24), (1, 1, .t 25)], none⟩,
           ⟨some 27, .bsl 2 [.int .i64 0, .int .i64 0] 1 [(0, .t 26)], none⟩,
           ⟨some 28, .app 2 16 [.int .i64 0, .int .i64 0] (.t 21) (.t 27), none⟩,
           ⟨some 5, .mv (.t 28), none⟩] [1, 2, 5, 6])
        (.skip)))))
   (.reg [⟨some 14, .mv (.t 6), none⟩,
      ⟨some 15, .bin .add (.t 14) (.k (.sc (.int .i64 1))), none⟩,
      ⟨some 6, .mv (.t 15), none⟩] [1, 2, 5, 6]))
/-- unravel/polymatrix.termsOf -/
def b65 : AC :=
  .seq (.reg [⟨some 2, .box (.t 0), none⟩,
     ⟨some 4, .mv (.k (.sc .nilS)), none⟩] [1, 2])
  (.seq (.reg [⟨some 5, .mv (.k (.sc .nilS)), none⟩] [1, 2, 5])
   (.seq (.seq (.reg [⟨some 8, .ld 2 true (.t 2), none⟩,
        ⟨some 9, .call 53 [(.t 8)], none⟩,
        ⟨some 6, .mv (.t 9), none⟩] [1, 2, 5, 6])
     (.block 0 (.loop [1, 2, 5, 6] b65L0)))
    (.seq (.reg [⟨some 29, .mv (.t 5), none⟩,
        ⟨some 4, .mv (.t 29), none⟩] [4])
     (.ret))))
def a65 : AFun := ⟨2, b65, [.t 4]⟩

def b66L0 : AC :=
  .seq (.seq (.reg [⟨some 5, .mv (.t 1), none⟩,
      ⟨some 6, .bin .neq (.t 5) (.k (.sc (.int .i64 0))), none⟩] [0, 1, 6])
   (.cond (.t 6)
     (.skip)
     (.exit 0)))
  (.block 1 (.regd [(⟨some 7, .mv (.t 1), none⟩, 0, false),
      (⟨some 8, .mv (.t 0), none⟩, 1, false),
      (⟨some 9, .mv (.t 1), none⟩, 2, false),
      (⟨some 10, .bin .rem (.t 8) (.t 9), none⟩, 3, false),
      (⟨some 0, .mv (.t 7), none⟩, 4, false),
      (⟨some 1, .mv (.t 10), none⟩, 5, false)] [0, 1]))
/-- unravel/polymatrix.divisor -/
def b66 : AC :=
  .seq (.reg [⟨some 4, .mv (.k (.sc (.int .i64 0))), none⟩] [0, 1])
  (.seq (.block 0 (.loop [0, 1] b66L0))
   (.seq (.reg [⟨some 11, .mv (.t 0), none⟩,
       ⟨some 12, .mv (.t 0), none⟩,
       ⟨some 13, .un .neg (.t 12), none⟩,
       ⟨some 14, .mm true (.t 11) [(.t 13)], none⟩,
       ⟨some 4, .mv (.t 14), none⟩] [4])
    (.ret)))
def a66 : AFun := ⟨2, b66, [.t 4]⟩

def b67L1 : AC :=
  .seq (.reg [⟨some 82, .bin .lss (.t 81) (.t 80), none⟩] [0, 1, 6, 7, 8, 9, 11, 13, 61, 62, 63, 79, 80, 81, 82])
  (.seq (.cond (.t 82)
     (.skip)
     (.exit 2))
   (.seq (.block 3 (.seq (.reg [⟨some 83, .mv (.t 81), none⟩,
         ⟨some 84, .idxA 1 (.t 79) (.t 81), none⟩,
         ⟨some 85, .ld 1 false (.t 84), none⟩,
         ⟨some 14, .mv (.t 83), none⟩,
         ⟨some 15, .mv (.t 85), none⟩] [0, 1, 6, 7, 8, 9, 11, 13, 14, 15, 61, 62, 63, 79, 80, 81])
      (.seq (.regd [(⟨some 86, .mv (.t 13), none⟩, 0, false),
          (⟨some 87, .mv (.t 14), none⟩, 1, false),
          (⟨some 88, .ld 2 true (.t 11), none⟩, 2, false),
          (⟨some 89, .ld 2 true (.t 11), none⟩, 3, false),
          (⟨some 90, .ld 2 true (.t 11), none⟩, 4, false),
          (⟨some 91, .mv (.t 7), none⟩, 5, false),
          (⟨some 92, .call 99 [(.t 90), (.t 91)], none⟩, 6, false),
          (⟨some 93, .mv (.t 15), none⟩, 7, false),
          (⟨some 94, .call 98 [(.t 89), (.t 92), (.t 93)], none⟩, 8, false),
          (⟨some 95, .call 97 [(.t 88), (.t 94)], none⟩, 9, true),
          (⟨some 96, .idxA 1 (.t 86) (.t 87), none⟩, 10, false),
          (⟨none, .st 1 (.t 96) (.t 95), none⟩, 11, true)] [0, 1, 6, 7, 8, 9, 11, 13, 14, 61, 62, 63, 79, 80, 81])
       (.seq (.reg [⟨some 97, .mv (.t 13), none⟩,
           ⟨some 98, .mv (.t 14), none⟩,
           ⟨some 99, .idxA 1 (.t 97) (.t 98), none⟩,
           ⟨some 100, .ld 1 false (.t 99), none⟩,
           ⟨some 101, .bin .gtr (.t 100) (.k (.sc (.int .i64 1125899906842624))), none⟩,
           ⟨some 102, .mv (.t 101), none⟩,
           ⟨some 103, .mv (.t 13), (some (102, false))⟩,
           ⟨some 104, .mv (.t 14), (some (102, false))⟩,
           ⟨some 105, .idxA 1 (.t 103) (.t 104), (some (102, false))⟩,
           ⟨some 106, .ld 1 false (.t 105), (some (102, false))⟩,
           ⟨some 107, .bin .lss (.t 106) (.k (.sc (.int .i64 (-1125899906842624)))), (some (102, false))⟩,
           ⟨some 108, .pick (.t 102) (.k (.sc (.bool true))) (.t 107), none⟩] [0, 1, 6, 7, 8, 9, 11, 13, 61, 62, 63, 79, 80, 81, 108])
        (.cond (.t 108)
          (.exit 1)
          (.skip))))))
    (.reg [⟨some 109, .bin .add (.t 81) (.k (.sc (.int .i64 1))), none⟩,
       ⟨some 81, .mv (.t 109), none⟩] [0, 1, 6, 7, 8, 9, 11, 13, 61, 62, 63, 79, 80, 81])))
def b67L2 : AC :=
  .seq (.reg [⟨some 135, .bin .lss (.t 134) (.t 133), none⟩] [6, 13, 132, 133, 134, 135])
  (.seq (.cond (.t 135)
     (.skip)
     (.exit 4))
   (.seq (.block 5 (.seq (.reg [⟨some 136, .mv (.t 134), none⟩,
         ⟨some 137, .idxA 1 (.t 132) (.t 134), none⟩,
         ⟨some 138, .ld 1 false (.t 137), none⟩,
         ⟨some 21, .mv (.t 136), none⟩,
         ⟨some 22, .mv (.t 138), none⟩] [6, 13, 21, 22, 132, 133, 134])
      (.seq (.seq (.reg [⟨some 139, .mv (.t 22), none⟩,
           ⟨some 140, .mv (.t 22), none⟩,
           ⟨some 141, .un .neg (.t 140), none⟩,
           ⟨some 142, .mm true (.t 139) [(.t 141)], none⟩,
           ⟨some 143, .mv (.t 6), none⟩,
           ⟨some 144, .bin .quo (.k (.sc (.int .i64 1125899906842624))) (.t 143), none⟩,
           ⟨some 145, .bin .gtr (.t 142) (.t 144), none⟩] [6, 13, 21, 22, 132, 133, 134, 145])
        (.cond (.t 145)
          (.seq (.reg [⟨some 4, .mv (.k (.sc .nilS)), none⟩,
              ⟨some 5, .mv (.k (.sc (.bool false))), none⟩] [4, 5])
           (.ret))
          (.skip)))
       (.reg [⟨some 146, .mv (.t 13), none⟩,
          ⟨some 147, .mv (.t 21), none⟩,
          ⟨some 148, .mv (.t 22), none⟩,
          ⟨some 149, .mv (.t 6), none⟩,
          ⟨some 150, .bin .mul (.t 148) (.t 149), none⟩,
          ⟨some 151, .idxA 1 (.t 146) (.t 147), none⟩,
          ⟨none, .st 1 (.t 151) (.t 150), none⟩] [6, 13, 132, 133, 134]))))
    (.reg [⟨some 152, .bin .add (.t 134) (.k (.sc (.int .i64 1))), none⟩,
       ⟨some 134, .mv (.t 152), none⟩] [6, 13, 132, 133, 134])))
def b67L0 : AC :=
  .seq (.reg [⟨some 64, .bin .lss (.t 63) (.t 62), none⟩] [0, 1, 6, 7, 8, 9, 61, 62, 63, 64])
  (.seq (.cond (.t 64)
     (.skip)
     (.exit 0))
   (.seq (.block 1 (.seq (.reg [⟨some 65, .idxA 2 (.t 61) (.t 63), none⟩,
         ⟨some 66, .ld 2 true (.t 65), none⟩,
         ⟨some 11, .new [.int .u64 0, .int .u64 0], none⟩,
         ⟨none, .st 2 (.t 11) (.t 66), none⟩] [0, 1, 6, 7, 8, 9, 11, 61, 62, 63])
      (.seq (.reg [⟨some 67, .ld 2 true (.t 11), none⟩,
          ⟨some 68, .mv (.t 0), none⟩,
          ⟨some 69, .mv (.t 1), none⟩,
          ⟨some 70, .call 96 [(.t 67), (.t 68), (.t 69)], none⟩,
          ⟨some 12, .mv (.t 70), none⟩] [0, 1, 6, 7, 8, 9, 11, 12, 61, 62, 63])
       (.seq (.seq (.reg [⟨some 71, .mv (.t 12), none⟩,
            ⟨some 72, .len false (.t 71), none⟩,
            ⟨some 73, .bin .eql (.t 72) (.k (.sc (.int .i64 1))), none⟩] [0, 1, 6, 7, 8, 9, 11, 12, 61, 62, 63, 73])
         (.cond (.t 73)
           (.seq (.reg [⟨some 74, .mv (.t 6), none⟩,
               ⟨some 75, .bsl 1 [.int .i64 0] 1 [(0, .t 74)], none⟩,
               ⟨some 4, .mv (.t 75), none⟩,
               ⟨some 5, .mv (.k (.sc (.bool true))), none⟩] [4, 5])
            (.ret))
           (.skip)))
        (.seq (.reg [⟨some 76, .mv (.t 12), none⟩,
            ⟨some 77, .len false (.t 76), none⟩,
            ⟨some 78, .mk 1 8 [.int .i64 0] (.t 77) (.t 77), none⟩,
            ⟨some 13, .mv (.t 78), none⟩] [0, 1, 6, 7, 8, 9, 11, 12, 13, 61, 62, 63])
         (.seq (.seq (.reg [⟨some 79, .mv (.t 12), none⟩,
              ⟨some 80, .len false (.t 79), none⟩,
              ⟨some 81, .mv (.k (.sc (.int .i64 0))), none⟩] [0, 1, 6, 7, 8, 9, 11, 13, 61, 62, 63, 79, 80, 81])
           (.block 2 (.loop [0, 1, 6, 7, 8, 9, 11, 13, 61, 62, 63, 79, 80, 81] b67L1)))
          (.seq (.reg [⟨some 110, .mv (.t 13), none⟩,
              ⟨some 111, .mv (.t 13), none⟩,
              ⟨some 112, .call 93 [(.t 111)], none⟩,
              ⟨some 113, .call 94 [(.t 110), (.t 112)], none⟩,
              ⟨some 13, .mv (.t 113), none⟩] [0, 1, 6, 7, 8, 9, 13, 61, 62, 63])
           (.seq (.reg [⟨some 114, .mv (.t 13), none⟩,
               ⟨some 115, .call 20 [(.k (.sc (.int .i64 0))), (.t 114)], none⟩,
               ⟨some 16, .new [.bool false, .nilS], none⟩,
               ⟨none, .st 2 (.t 16) (.t 115), none⟩] [0, 1, 6, 7, 8, 9, 13, 16, 61, 62, 63])
            (.seq (.seq (.reg [⟨some 117, .ld 2 true (.t 8), none⟩,
                 ⟨some 118, .ld 2 true (.t 16), none⟩,
                 ⟨some 119, .call 30 [(.t 117), (.t 118)], none⟩,
                 ⟨some 116, .mv (.t 119), none⟩,
                 ⟨some 120, .ext (.t 116) 0, none⟩,
                 ⟨some 121, .ext (.t 116) 1, none⟩,
                 ⟨some 17, .new [.bool false, .nilS], none⟩,
                 ⟨none, .st 2 (.t 17) (.t 120), none⟩,
                 ⟨some 18, .mv (.t 121), none⟩] [0, 1, 6, 7, 8, 9, 13, 16, 18, 61, 62, 63])
              (.seq (.reg [⟨some 122, .mv (.t 18), none⟩,
                  ⟨some 123, .bin .neq (.t 122) (.k (.sc (.int .i64 0))), none⟩] [0, 1, 6, 7, 8, 9, 13, 16, 61, 62, 63, 123])
               (.cond (.t 123)
                 (.exit 1)
                 (.skip))))
             (.seq (.seq (.reg [⟨some 125, .ld 2 true (.t 9), none⟩,
                  ⟨some 126, .ld 2 true (.t 16), none⟩,
                  ⟨some 127, .call 30 [(.t 125), (.t 126)], none⟩,
                  ⟨some 124, .mv (.t 127), none⟩,
                  ⟨some 128, .ext (.t 124) 0, none⟩,
                  ⟨some 129, .ext (.t 124) 1, none⟩,
                  ⟨some 19, .new [.bool false, .nilS], none⟩,
                  ⟨none, .st 2 (.t 19) (.t 128), none⟩,
                  ⟨some 20, .mv (.t 129), none⟩] [0, 1, 6, 7, 8, 9, 13, 20, 61, 62, 63])
               (.seq (.reg [⟨some 130, .mv (.t 20), none⟩,
                   ⟨some 131, .bin .neq (.t 130) (.k (.sc (.int .i64 0))), none⟩] [0, 1, 6, 7, 8, 9, 13, 61, 62, 63, 131])
                (.cond (.t 131)
                  (.exit 1)
                  (.skip))))
              (.seq (.seq (.reg [⟨some 132, .mv (.t 13), none⟩,
                   ⟨some 133, .len false (.t 132), none⟩,
                   ⟨some 134, .mv (.k (.sc (.int .i64 0))), none⟩] [6, 13, 132, 133, 134])
                (.block 4 (.loop [6, 13, 132, 133, 134] b67L2)))
               (.seq (.reg [⟨some 153, .mv (.t 13), none⟩,
                   ⟨some 4, .mv (.t 153), none⟩,
                   ⟨some 5, .mv (.k (.sc (.bool true))), none⟩] [4, 5])
                (.ret)))))))))))))
    (.reg [⟨some 154, .bin .add (.t 63) (.k (.sc (.int .i64 1))), none⟩,
       ⟨some 63, .mv (.t 154), none⟩] [0, 1, 6, 7, 8, 9, 61, 62, 63])))
/-- unravel/polymatrix.commonDivisor -/
def b67 : AC :=
  .seq (.reg [⟨some 4, .mv (.k (.sc .nilS)), none⟩,
     ⟨some 5, .mv (.k (.sc (.bool false))), none⟩] [0, 1])
  (.scope (.seq (.reg [⟨some 23, .mv (.t 0), none⟩,
       ⟨some 24, .call 93 [(.t 23)], none⟩,
       ⟨some 25, .mv (.t 1), none⟩,
       ⟨some 26, .call 93 [(.t 25)], none⟩,
       ⟨some 27, .call 66 [(.t 24), (.t 26)], none⟩,
       ⟨some 6, .mv (.t 27), none⟩] [0, 1, 6])
    (.seq (.reg [⟨some 28, .mv (.t 0), none⟩,
        ⟨some 29, .mv (.t 0), none⟩,
        ⟨some 30, .call 93 [(.t 29)], none⟩,
        ⟨some 31, .call 94 [(.t 28), (.t 30)], none⟩,
        ⟨some 32, .mv (.t 1), none⟩,
        ⟨some 33, .mv (.t 1), none⟩,
        ⟨some 34, .call 93 [(.t 33)], none⟩,
        ⟨some 35, .call 94 [(.t 32), (.t 34)], none⟩,
        ⟨some 0, .mv (.t 31), none⟩,
        ⟨some 1, .mv (.t 35), none⟩] [0, 1, 6])
     (.seq (.regd [(⟨some 36, .mv (.t 0), none⟩, 0, false),
         (⟨some 37, .mv (.t 0), none⟩, 1, false),
         (⟨some 38, .len false (.t 37), none⟩, 2, false),
         (⟨some 39, .bin .sub (.t 38) (.k (.sc (.int .i64 1))), none⟩, 3, false),
         (⟨some 40, .idxA 1 (.t 36) (.t 39), none⟩, 4, false),
         (⟨some 41, .ld 1 false (.t 40), none⟩, 5, false),
         (⟨some 42, .mv (.t 1), none⟩, 6, false),
         (⟨some 43, .mv (.t 1), none⟩, 7, false),
         (⟨some 44, .len false (.t 43), none⟩, 8, false),
         (⟨some 45, .bin .sub (.t 44) (.k (.sc (.int .i64 1))), none⟩, 9, false),
         (⟨some 46, .idxA 1 (.t 42) (.t 45), none⟩, 10, false),
         (⟨some 47, .ld 1 false (.t 46), none⟩, 11, false),
         (⟨some 48, .call 66 [(.t 41), (.t 47)], none⟩, 12, true),
         (⟨some 7, .mv (.t 48), none⟩, 13, false)] [0, 1, 6, 7])
      (.seq (.reg [⟨some 49, .mv (.t 0), none⟩,
          ⟨some 50, .len false (.t 49), none⟩,
          ⟨some 51, .un .neg (.t 50), none⟩,
          ⟨some 52, .bin .quo (.t 51) (.k (.sc (.int .i64 2))), none⟩,
          ⟨some 53, .mv (.t 0), none⟩,
          ⟨some 54, .call 20 [(.t 52), (.t 53)], none⟩,
          ⟨some 55, .mv (.t 1), none⟩,
          ⟨some 56, .len false (.t 55), none⟩,
          ⟨some 57, .un .neg (.t 56), none⟩,
          ⟨some 58, .bin .quo (.t 57) (.k (.sc (.int .i64 2))), none⟩,
          ⟨some 59, .mv (.t 1), none⟩,
          ⟨some 60, .call 20 [(.t 58), (.t 59)], none⟩,
          ⟨some 8, .new [.bool false, .nilS], none⟩,
          ⟨some 9, .new [.bool false, .nilS], none⟩,
          ⟨none, .st 2 (.t 8) (.t 54), none⟩,
          ⟨none, .st 2 (.t 9) (.t 60), none⟩] [0, 1, 6, 7, 8, 9])
       (.seq (.skip)
        (.seq (.seq (.reg [⟨some 61, .call 95 [(.k (.sc (.int .i64 8)))], none⟩,
             ⟨some 62, .len false (.t 61), none⟩,
             ⟨some 63, .mv (.k (.sc (.int .i64 0))), none⟩] [0, 1, 6, 7, 8, 9, 61, 62, 63])
          (.block 0 (.loop [0, 1, 6, 7, 8, 9, 61, 62, 63] b67L0)))
         (.seq (.reg [⟨some 4, .mv (.k (.sc .nilS)), none⟩,
             ⟨some 5, .mv (.k (.sc (.bool false))), none⟩] [4, 5])
          (.ret)))))))))
def a67 : AFun := ⟨2, b67, [.t 4, .t 5]⟩

def b68L0 : AC :=
  .seq (.reg [⟨some 19, .bin .lss (.t 18) (.t 17), none⟩] [1, 2, 5, 17, 18, 19])
  (.seq (.cond (.t 19)
     (.skip)
     (.exit 0))
   (.seq (.block 1 (.seq (.reg [⟨some 20, .mv (.t 18), none⟩,
         ⟨some 6, .mv (.t 20), none⟩] [1, 2, 5, 6, 17, 18])
      (.regd [(⟨some 21, .mv (.t 5), none⟩, 0, false),
         (⟨some 22, .mv (.t 6), none⟩, 1, false),
         (⟨some 23, .ld 2 true (.t 2), none⟩, 2, false),
         (⟨some 24, .ld 2 true (.t 2), none⟩, 3, false),
         (⟨some 25, .call 53 [(.t 24)], none⟩, 4, false),
         (⟨some 26, .mv (.t 6), none⟩, 5, false),
         (⟨some 27, .mv (.t 1), none⟩, 6, false),
         (⟨some 28, .bin .mul (.t 26) (.t 27), none⟩, 7, false),
         (⟨some 29, .bin .add (.t 25) (.t 28), none⟩, 8, false),
         (⟨some 30, .call 62 [(.t 23), (.t 29)], none⟩, 9, true),
         (⟨some 31, .idxA 1 (.t 21) (.t 22), none⟩, 10, false),
         (⟨none, .st 1 (.t 31) (.t 30), none⟩, 11, true)] [1, 2, 5, 17, 18])))
    (.reg [⟨some 32, .bin .add (.t 18) (.k (.sc (.int .i64 1))), none⟩,
       ⟨some 18, .mv (.t 32), none⟩] [1, 2, 5, 17, 18])))
/-- unravel/polymatrix.dense -/
def b68 : AC :=
  .seq (.reg [⟨some 2, .box (.t 0), none⟩,
     ⟨some 4, .mv (.k (.sc .nilS)), none⟩] [1, 2])
  (.seq (.regd [(⟨some 7, .ld 2 true (.t 2), none⟩, 0, false),
      (⟨some 8, .call 54 [(.t 7)], none⟩, 1, false),
      (⟨some 9, .ld 2 true (.t 2), none⟩, 2, false),
      (⟨some 10, .call 53 [(.t 9)], none⟩, 3, true),
      (⟨some 11, .bin .sub (.t 8) (.t 10), none⟩, 4, false),
      (⟨some 12, .mv (.t 1), none⟩, 5, false),
      (⟨some 13, .bin .quo (.t 11) (.t 12), none⟩, 6, false),
      (⟨some 14, .bin .add (.t 13) (.k (.sc (.int .i64 1))), none⟩, 7, false),
      (⟨some 15, .mk 1 8 [.int .i64 0] (.t 14) (.t 14), none⟩, 8, true),
      (⟨some 5, .mv (.t 15), none⟩, 9, false)] [1, 2, 5])
   (.seq (.seq (.reg [⟨some 16, .mv (.t 5), none⟩,
        ⟨some 17, .len false (.t 16), none⟩,
        ⟨some 18, .mv (.k (.sc (.int .i64 0))), none⟩] [1, 2, 5, 17, 18])
     (.block 0 (.loop [1, 2, 5, 17, 18] b68L0)))
    (.seq (.reg [⟨some 33, .mv (.t 5), none⟩,
        ⟨some 4, .mv (.t 33), none⟩] [4])
     (.ret))))
def a68 : AFun := ⟨2, b68, [.t 4]⟩

/-- unravel/polymatrix.total -/
def b69 : AC :=
  .seq (.reg [⟨some 2, .new [.bool false, .nilS], none⟩] [0, 2])
  (.seq (.seq (.reg [⟨some 4, .mv (.t 0), none⟩,
       ⟨some 5, .len false (.t 4), none⟩] [0, 2, 5])
    (.block 0 (.seq (.reg [⟨some 7, .bin .eql (.t 5) (.k (.sc (.int .i64 0))), none⟩,
         ⟨some 6, .mv (.t 7), none⟩] [0, 2, 5, 6])
      (.cond (.t 6)
        (.seq (.reg [⟨some 8, .bld [.bool false, .nilS] [], none⟩,
            ⟨none, .st 2 (.t 2) (.t 8), none⟩] [2])
         (.ret))
        (.seq (.reg [⟨some 10, .bin .eql (.t 5) (.k (.sc (.int .i64 1))), none⟩,
            ⟨some 9, .mv (.t 10), none⟩] [0, 2, 9])
         (.cond (.t 9)
           (.seq (.regd [(⟨some 11, .mv (.t 0), none⟩, 0, false),
               (⟨some 12, .idxA 2 (.t 11) (.k (.sc (.int .i64 0))), none⟩, 1, false),
               (⟨some 13, .fldA 1 (.t 12), none⟩, 2, false),
               (⟨some 14, .ld 1 false (.t 13), none⟩, 3, false),
               (⟨some 15, .mv (.t 0), none⟩, 4, false),
               (⟨some 16, .idxA 2 (.t 15) (.k (.sc (.int .i64 0))), none⟩, 5, false),
               (⟨some 17, .fldA 0 (.t 16), none⟩, 6, false),
               (⟨some 18, .ld 1 false (.t 17), none⟩, 7, false),
               (⟨some 19, .call 100 [(.t 14), (.t 18)], none⟩, 8, true),
               (⟨none, .st 2 (.t 2) (.t 19), none⟩, 9, true)] [2])
            (.ret))
           (.skip)))))))
   (.seq (.reg [⟨some 20, .mv (.t 0), none⟩,
       ⟨some 21, .len false (.t 20), none⟩,
       ⟨some 22, .bin .quo (.t 21) (.k (.sc (.int .i64 2))), none⟩,
       ⟨some 3, .mv (.t 22), none⟩] [0, 2, 3])
    (.seq (.regd [(⟨some 23, .mv (.t 0), none⟩, 0, false),
        (⟨some 24, .mv (.t 3), none⟩, 1, false),
        (⟨some 25, .sl 2 (.t 23) none (some (.t 24)), none⟩, 2, false),
        (⟨some 26, .call 69 [(.t 25)], none⟩, 3, false),
        (⟨some 27, .mv (.t 0), none⟩, 4, false),
        (⟨some 28, .mv (.t 3), none⟩, 5, false),
        (⟨some 29, .sl 2 (.t 27) (some (.t 28)) none, none⟩, 6, false),
        (⟨some 30, .call 69 [(.t 29)], none⟩, 7, true),
        (⟨some 31, .call 21 [(.t 26), (.t 30)], none⟩, 8, true),
        (⟨none, .st 2 (.t 2) (.t 31), none⟩, 9, true)] [2])
     (.ret))))
def a69 : AFun := ⟨1, b69, [.cell 2 2 true]⟩

/-- unravel/laurent.widen -/
def b71 : AC :=
  .seq (.reg [⟨some 2, .new [.int .u64 0, .int .u64 0], none⟩] [0, 2])
  (.seq (.reg [⟨some 3, .mv (.t 0), none⟩,
      ⟨some 4, .bin .shr (.t 3) (.k (.sc (.int .u64 63))), none⟩,
      ⟨some 5, .conv .u64 (.t 4), none⟩,
      ⟨some 6, .mv (.t 0), none⟩,
      ⟨some 7, .conv .u64 (.t 6), none⟩,
      ⟨some 8, .bld [.int .u64 0, .int .u64 0] [(0, 1, .t 5), (1, 1, .t 7)], none⟩,
      ⟨none, .st 2 (.t 2) (.t 8), none⟩] [2])
   (.ret))
def a71 : AFun := ⟨1, b71, [.cell 2 2 true]⟩

/-- (unravel/laurent.wide).zero -/
def b72 : AC :=
  .seq (.reg [⟨some 1, .box (.t 0), none⟩,
     ⟨some 2, .mv (.k (.sc (.bool false))), none⟩] [1])
  (.seq (.reg [⟨some 3, .fldA 0 (.t 1), none⟩,
      ⟨some 4, .ld 1 false (.t 3), none⟩,
      ⟨some 5, .bin .eql (.t 4) (.k (.sc (.int .u64 0))), none⟩,
      ⟨some 6, .mv (.t 5), none⟩,
      ⟨some 7, .fldA 1 (.t 1), (some (6, true))⟩,
      ⟨some 8, .ld 1 false (.t 7), (some (6, true))⟩,
      ⟨some 9, .bin .eql (.t 8) (.k (.sc (.int .u64 0))), (some (6, true))⟩,
      ⟨some 10, .pick (.t 6) (.t 9) (.k (.sc (.bool false))), none⟩,
      ⟨some 2, .mv (.t 10), none⟩] [2])
   (.ret))
def a72 : AFun := ⟨1, b72, [.t 2]⟩

/-- (unravel/laurent.wide).quotient -/
def b73 : AC :=
  .seq (.reg [⟨some 2, .box (.t 0), none⟩,
     ⟨some 4, .mv (.k (.sc (.int .i64 0))), none⟩,
     ⟨some 5, .mv (.k (.sc (.bool false))), none⟩] [1, 2])
  (.seq (.reg [⟨some 12, .ld 2 true (.t 2), none⟩,
      ⟨some 13, .call 88 [(.t 12)], none⟩,
      ⟨some 11, .mv (.t 13), none⟩,
      ⟨some 14, .ext (.t 11) 0, none⟩,
      ⟨some 15, .ext (.t 11) 1, none⟩,
      ⟨some 6, .new [.int .u64 0, .int .u64 0], none⟩,
      ⟨none, .st 2 (.t 6) (.t 14), none⟩,
      ⟨some 7, .mv (.t 15), none⟩] [1, 6, 7])
   (.seq (.reg [⟨some 16, .mv (.t 1), none⟩,
       ⟨some 17, .call 101 [(.t 16)], none⟩,
       ⟨some 8, .mv (.t 17), none⟩] [1, 6, 7, 8])
    (.seq (.seq (.reg [⟨some 18, .fldA 0 (.t 6), none⟩,
         ⟨some 19, .ld 1 false (.t 18), none⟩,
         ⟨some 20, .mv (.t 8), none⟩,
         ⟨some 21, .bin .geq (.t 19) (.t 20), none⟩] [1, 6, 7, 8, 21])
      (.cond (.t 21)
        (.seq (.reg [⟨some 4, .mv (.k (.sc (.int .i64 0))), none⟩,
            ⟨some 5, .mv (.k (.sc (.bool false))), none⟩] [4, 5])
         (.ret))
        (.skip)))
     (.seq (.reg [⟨some 23, .fldA 0 (.t 6), none⟩,
         ⟨some 24, .ld 1 false (.t 23), none⟩,
         ⟨some 25, .fldA 1 (.t 6), none⟩,
         ⟨some 26, .ld 1 false (.t 25), none⟩,
         ⟨some 27, .mv (.t 8), none⟩,
         ⟨some 28, .call 102 [(.t 24), (.t 26), (.t 27)], none⟩,
         ⟨some 22, .mv (.t 28), none⟩,
         ⟨some 29, .ext (.t 22) 0, none⟩,
         ⟨some 30, .ext (.t 22) 1, none⟩,
         ⟨some 9, .mv (.t 29), none⟩,
         ⟨some 10, .mv (.t 30), none⟩] [1, 7, 9, 10])
      (.seq (.seq (.reg [⟨some 31, .mv (.t 10), none⟩,
           ⟨some 32, .bin .neq (.t 31) (.k (.sc (.int .u64 0))), none⟩,
           ⟨some 33, .mv (.t 32), none⟩,
           ⟨some 34, .mv (.t 9), (some (33, false))⟩,
           ⟨some 35, .bin .gtr (.t 34) (.k (.sc (.int .u64 1125899906842624))), (some (33, false))⟩,
           ⟨some 36, .pick (.t 33) (.k (.sc (.bool true))) (.t 35), none⟩] [1, 7, 9, 36])
        (.cond (.t 36)
          (.seq (.reg [⟨some 4, .mv (.k (.sc (.int .i64 0))), none⟩,
              ⟨some 5, .mv (.k (.sc (.bool false))), none⟩] [4, 5])
           (.ret))
          (.skip)))
       (.seq (.seq (.reg [⟨some 37, .mv (.t 7), none⟩,
            ⟨some 38, .mv (.t 1), none⟩,
            ⟨some 39, .bin .lss (.t 38) (.k (.sc (.int .i64 0))), none⟩,
            ⟨some 40, .beq true (.t 37) (.t 39), none⟩] [9, 40])
         (.cond (.t 40)
           (.seq (.reg [⟨some 41, .mv (.t 9), none⟩,
               ⟨some 42, .conv .i64 (.t 41), none⟩,
               ⟨some 43, .un .neg (.t 42), none⟩,
               ⟨some 4, .mv (.t 43), none⟩,
               ⟨some 5, .mv (.k (.sc (.bool true))), none⟩] [4, 5])
            (.ret))
           (.skip)))
        (.seq (.reg [⟨some 44, .mv (.t 9), none⟩,
            ⟨some 45, .conv .i64 (.t 44), none⟩,
            ⟨some 4, .mv (.t 45), none⟩,
            ⟨some 5, .mv (.k (.sc (.bool true))), none⟩] [4, 5])
         (.ret))))))))
def a73 : AFun := ⟨2, b73, [.t 4, .t 5]⟩

/-- unravel/laurent.product -/
def b74 : AC :=
  .seq (.reg [⟨some 4, .new [.int .u64 0, .int .u64 0], none⟩] [0, 1, 4])
  (.seq (.reg [⟨some 9, .mv (.t 0), none⟩,
      ⟨some 10, .call 101 [(.t 9)], none⟩,
      ⟨some 11, .mv (.t 1), none⟩,
      ⟨some 12, .call 101 [(.t 11)], none⟩,
      ⟨some 13, .call 103 [(.t 10), (.t 12)], none⟩,
      ⟨some 8, .mv (.t 13), none⟩,
      ⟨some 14, .ext (.t 8) 0, none⟩,
      ⟨some 15, .ext (.t 8) 1, none⟩,
      ⟨some 5, .mv (.t 14), none⟩,
      ⟨some 6, .mv (.t 15), none⟩] [0, 1, 4, 5, 6])
   (.seq (.reg [⟨some 16, .mv (.t 5), none⟩,
       ⟨some 17, .mv (.t 6), none⟩,
       ⟨some 18, .bld [.int .u64 0, .int .u64 0] [(0, 1, .t 16), (1, 1, .t 17)], none⟩,
       ⟨some 7, .new [.int .u64 0, .int .u64 0], none⟩,
       ⟨none, .st 2 (.t 7) (.t 18), none⟩] [0, 1, 4, 7])
    (.seq (.seq (.reg [⟨some 19, .mv (.t 0), none⟩,
         ⟨some 20, .bin .lss (.t 19) (.k (.sc (.int .i64 0))), none⟩,
         ⟨some 21, .mv (.t 1), none⟩,
         ⟨some 22, .bin .lss (.t 21) (.k (.sc (.int .i64 0))), none⟩,
         ⟨some 23, .beq true (.t 20) (.t 22), none⟩] [4, 7, 23])
      (.cond (.t 23)
        (.seq (.reg [⟨some 24, .ld 2 true (.t 7), none⟩,
            ⟨some 25, .call 104 [(.t 24)], none⟩,
            ⟨none, .st 2 (.t 4) (.t 25), none⟩] [4])
         (.ret))
        (.skip)))
     (.seq (.reg [⟨some 26, .ld 2 true (.t 7), none⟩,
         ⟨none, .st 2 (.t 4) (.t 26), none⟩] [4])
      (.ret)))))
def a74 : AFun := ⟨2, b74, [.cell 4 2 true]⟩

def b75L0 : AC :=
  .seq (.reg [⟨some 9, .bin .lss (.t 8) (.t 7), none⟩] [0, 1, 7, 8, 9])
  (.seq (.cond (.t 9)
     (.skip)
     (.exit 0))
   (.seq (.block 1 (.seq (.reg [⟨some 10, .mv (.t 8), none⟩,
         ⟨some 5, .mv (.t 10), none⟩] [0, 1, 5, 7, 8])
      (.seq (.reg [⟨some 11, .mv (.t 1), none⟩,
          ⟨some 12, .mv (.t 0), none⟩,
          ⟨some 13, .mv (.t 5), none⟩,
          ⟨some 14, .idxA 2 (.t 12) (.t 13), none⟩,
          ⟨some 15, .ld 2 true (.t 14), none⟩,
          ⟨some 16, .callv (.t 11) [(.t 15)], none⟩] [0, 1, 5, 7, 8, 16])
       (.cond (.t 16)
         (.seq (.reg [⟨some 17, .mv (.t 5), none⟩,
             ⟨some 4, .mv (.t 17), none⟩] [4])
          (.ret))
         (.skip)))))
    (.reg [⟨some 18, .bin .add (.t 8) (.k (.sc (.int .i64 1))), none⟩,
       ⟨some 8, .mv (.t 18), none⟩] [0, 1, 7, 8])))
/-- slices.IndexFunc[[]unravel/laurent.Poly,unravel/laurent.Poly] -/
def b75 : AC :=
  .seq (.reg [⟨some 4, .mv (.k (.sc (.int .i64 0))), none⟩] [0, 1])
  (.seq (.seq (.reg [⟨some 6, .mv (.t 0), none⟩,
       ⟨some 7, .len false (.t 6), none⟩,
       ⟨some 8, .mv (.k (.sc (.int .i64 0))), none⟩] [0, 1, 7, 8])
    (.block 0 (.loop [0, 1, 7, 8] b75L0)))
   (.seq (.reg [⟨some 4, .mv (.k (.sc (.int .i64 (-1)))), none⟩] [4])
    (.ret)))
def a75 : AFun := ⟨2, b75, [.t 4]⟩

def b77L1 : AC :=
  .seq (.reg [⟨some 40, .bin .lss (.t 39) (.t 38), none⟩] [0, 1, 7, 9, 10, 22, 23, 24, 37, 38, 39, 40])
  (.seq (.cond (.t 40)
     (.skip)
     (.exit 2))
   (.seq (.block 3 (.seq (.reg [⟨some 41, .mv (.t 39), none⟩,
         ⟨some 42, .idxA 1 (.t 37) (.t 39), none⟩,
         ⟨some 43, .ld 1 false (.t 42), none⟩,
         ⟨some 11, .mv (.t 41), none⟩,
         ⟨some 12, .mv (.t 43), none⟩] [0, 1, 7, 9, 10, 11, 12, 22, 23, 24, 37, 38, 39])
      (.seq (.reg [⟨some 44, .mv (.t 7), none⟩,
          ⟨some 45, .mv (.t 11), none⟩,
          ⟨some 46, .ld 2 true (.t 9), none⟩,
          ⟨some 47, .mv (.t 12), none⟩,
          ⟨some 48, .call 97 [(.t 46), (.t 47)], none⟩,
          ⟨some 49, .idxA 1 (.t 44) (.t 45), none⟩,
          ⟨none, .st 1 (.t 49) (.t 48), none⟩] [0, 1, 7, 9, 10, 11, 22, 23, 24, 37, 38, 39])
       (.seq (.reg [⟨some 50, .mv (.t 7), none⟩,
           ⟨some 51, .mv (.t 11), none⟩,
           ⟨some 52, .idxA 1 (.t 50) (.t 51), none⟩,
           ⟨some 53, .ld 1 false (.t 52), none⟩,
           ⟨some 54, .bin .gtr (.t 53) (.k (.sc (.int .i64 1125899906842624))), none⟩,
           ⟨some 55, .mv (.t 54), none⟩,
           ⟨some 56, .mv (.t 7), (some (55, false))⟩,
           ⟨some 57, .mv (.t 11), (some (55, false))⟩,
           ⟨some 58, .idxA 1 (.t 56) (.t 57), (some (55, false))⟩,
           ⟨some 59, .ld 1 false (.t 58), (some (55, false))⟩,
           ⟨some 60, .bin .lss (.t 59) (.k (.sc (.int .i64 (-1125899906842624)))), (some (55, false))⟩,
           ⟨some 61, .pick (.t 55) (.k (.sc (.bool true))) (.t 60), none⟩] [0, 1, 7, 9, 10, 22, 23, 24, 37, 38, 39, 61])
        (.cond (.t 61)
          (.seq (.reg [⟨some 4, .mv (.k (.sc .nilS)), none⟩,
              ⟨some 5, .mv (.k (.sc (.bool false))), none⟩] [4, 5])
           (.ret))
          (.skip))))))
    (.reg [⟨some 62, .bin .add (.t 39) (.k (.sc (.int .i64 1))), none⟩,
       ⟨some 39, .mv (.t 62), none⟩] [0, 1, 7, 9, 10, 22, 23, 24, 37, 38, 39])))
def b77L2 : AC :=
  .seq (.reg [⟨some 66, .bin .lss (.t 65) (.t 64), none⟩] [0, 1, 7, 9, 22, 23, 24, 63, 64, 65, 66])
  (.seq (.cond (.t 66)
     (.skip)
     (.exit 4))
   (.seq (.block 5 (.seq (.reg [⟨some 67, .mv (.t 65), none⟩,
         ⟨some 68, .idxA 1 (.t 63) (.t 65), none⟩,
         ⟨some 69, .ld 1 false (.t 68), none⟩,
         ⟨some 13, .mv (.t 67), none⟩,
         ⟨some 14, .mv (.t 69), none⟩] [0, 1, 7, 9, 13, 14, 22, 23, 24, 63, 64, 65])
      (.seq (.regd [(⟨some 70, .ld 2 true (.t 9), none⟩, 0, false),
          (⟨some 71, .mv (.t 7), none⟩, 1, false),
          (⟨some 72, .mv (.t 13), none⟩, 2, false),
          (⟨some 73, .idxA 1 (.t 71) (.t 72), none⟩, 3, false),
          (⟨some 74, .ld 1 false (.t 73), none⟩, 4, false),
          (⟨some 75, .call 99 [(.t 70), (.t 74)], none⟩, 5, true),
          (⟨some 76, .mv (.t 14), none⟩, 6, false),
          (⟨some 77, .bin .neq (.t 75) (.t 76), none⟩, 7, false)] [0, 1, 7, 9, 22, 23, 24, 63, 64, 65, 77])
       (.cond (.t 77)
         (.seq (.reg [⟨some 4, .mv (.k (.sc .nilS)), none⟩,
             ⟨some 5, .mv (.k (.sc (.bool false))), none⟩] [4, 5])
          (.ret))
         (.skip)))))
    (.reg [⟨some 78, .bin .add (.t 65) (.k (.sc (.int .i64 1))), none⟩,
       ⟨some 65, .mv (.t 78), none⟩] [0, 1, 7, 9, 22, 23, 24, 63, 64, 65])))
def b77L0 : AC :=
  .seq (.reg [⟨some 25, .bin .lss (.t 24) (.t 23), none⟩] [0, 1, 7, 22, 23, 24, 25])
  (.seq (.cond (.t 25)
     (.skip)
     (.exit 0))
   (.seq (.block 1 (.seq (.reg [⟨some 26, .idxA 2 (.t 22) (.t 24), none⟩,
         ⟨some 27, .ld 2 true (.t 26), none⟩,
         ⟨some 9, .new [.int .u64 0, .int .u64 0], none⟩,
         ⟨none, .st 2 (.t 9) (.t 27), none⟩] [0, 1, 7, 9, 22, 23, 24])
      (.seq (.reg [⟨some 28, .ld 2 true (.t 9), none⟩,
          ⟨some 29, .mv (.t 0), none⟩,
          ⟨some 30, .mv (.t 1), none⟩,
          ⟨some 31, .call 108 [(.t 28), (.t 29), (.t 30)], none⟩,
          ⟨some 10, .mv (.t 31), none⟩] [0, 1, 7, 9, 10, 22, 23, 24])
       (.seq (.seq (.reg [⟨some 32, .mv (.t 7), none⟩,
            ⟨some 33, .isnil 1 false (.t 32), none⟩] [0, 1, 7, 9, 10, 22, 23, 24, 33])
         (.cond (.t 33)
           (.seq (.reg [⟨some 34, .mv (.t 10), none⟩,
               ⟨some 35, .len false (.t 34), none⟩,
               ⟨some 36, .mk 1 8 [.int .i64 0] (.t 35) (.t 35), none⟩,
               ⟨some 7, .mv (.t 36), none⟩] [0, 1, 7, 9, 10, 22, 23, 24])
            (.seq (.reg [⟨some 37, .mv (.t 10), none⟩,
                ⟨some 38, .len false (.t 37), none⟩,
                ⟨some 39, .mv (.k (.sc (.int .i64 0))), none⟩] [0, 1, 7, 9, 10, 22, 23, 24, 37, 38, 39])
             (.block 2 (.loop [0, 1, 7, 9, 10, 22, 23, 24, 37, 38, 39] b77L1))))
           (.skip)))
        (.seq (.reg [⟨some 63, .mv (.t 10), none⟩,
            ⟨some 64, .len false (.t 63), none⟩,
            ⟨some 65, .mv (.k (.sc (.int .i64 0))), none⟩] [0, 1, 7, 9, 22, 23, 24, 63, 64, 65])
         (.block 4 (.loop [0, 1, 7, 9, 22, 23, 24, 63, 64, 65] b77L2)))))))
    (.reg [⟨some 79, .bin .add (.t 24) (.k (.sc (.int .i64 1))), none⟩,
       ⟨some 24, .mv (.t 79), none⟩] [0, 1, 7, 22, 23, 24])))
/-- unravel/polymatrix.interpolated -/
def b77 : AC :=
  .seq (.reg [⟨some 4, .mv (.k (.sc .nilS)), none⟩,
     ⟨some 5, .mv (.k (.sc (.bool false))), none⟩] [0, 1])
  (.seq (.reg [⟨some 15, .mv (.t 0), none⟩,
      ⟨some 16, .call 107 [(.t 15)], none⟩,
      ⟨some 17, .mm true (.t 16) [(.k (.sc (.int .i64 50)))], none⟩,
      ⟨some 18, .bin .add (.t 17) (.k (.sc (.int .i64 1))), none⟩,
      ⟨some 19, .bin .quo (.t 18) (.k (.sc (.int .i64 60))), none⟩,
      ⟨some 20, .bin .add (.t 19) (.k (.sc (.int .i64 1))), none⟩,
      ⟨some 6, .mv (.t 20), none⟩] [0, 1, 6])
   (.seq (.reg [⟨some 7, .mv (.k (.sc .nilS)), none⟩] [0, 1, 6, 7])
    (.seq (.seq (.reg [⟨some 21, .mv (.t 6), none⟩,
         ⟨some 22, .call 95 [(.t 21)], none⟩,
         ⟨some 23, .len false (.t 22), none⟩,
         ⟨some 24, .mv (.k (.sc (.int .i64 0))), none⟩] [0, 1, 7, 22, 23, 24])
      (.block 0 (.loop [0, 1, 7, 22, 23, 24] b77L0)))
     (.seq (.reg [⟨some 80, .mv (.t 7), none⟩,
         ⟨some 4, .mv (.t 80), none⟩,
         ⟨some 5, .mv (.k (.sc (.bool true))), none⟩] [4, 5])
      (.ret)))))
def a77 : AFun := ⟨2, b77, [.t 4, .t 5]⟩

def b80L0 : AC :=
  .seq (.seq (.reg [⟨some 14, .mv (.t 10), none⟩,
      ⟨some 15, .mv (.t 0), none⟩,
      ⟨some 16, .len false (.t 15), none⟩,
      ⟨some 17, .bin .lss (.t 14) (.t 16), none⟩,
      ⟨some 18, .mv (.t 17), none⟩,
      ⟨some 19, .mv (.t 0), (some (18, true))⟩,
      ⟨some 20, .mv (.t 10), (some (18, true))⟩,
      ⟨some 21, .idxA 1 (.t 19) (.t 20), (some (18, true))⟩,
      ⟨some 22, .ld 1 false (.t 21), (some (18, true))⟩,
      ⟨some 23, .mv (.t 2), (some (18, true))⟩,
      ⟨some 24, .bin .lss (.t 22) (.t 23), (some (18, true))⟩,
      ⟨some 25, .pick (.t 18) (.t 24) (.k (.sc (.bool false))), none⟩] [0, 1, 2, 7, 10, 25])
   (.cond (.t 25)
     (.skip)
     (.exit 0)))
  (.block 1 (.reg [⟨some 26, .mv (.t 10), none⟩,
      ⟨some 27, .bin .add (.t 26) (.k (.sc (.int .i64 1))), none⟩,
      ⟨some 10, .mv (.t 27), none⟩] [0, 1, 2, 7, 10]))
/-- unravel/unravelref12.put -/
def b80 : AC :=
  .seq (.reg [⟨some 7, .box (.t 3), none⟩,
     ⟨some 8, .mv (.k (.sc .nilS)), none⟩,
     ⟨some 9, .mv (.k (.sc .nilS)), none⟩] [0, 1, 2, 7])
  (.seq (.reg [⟨some 10, .mv (.k (.sc (.int .i64 0))), none⟩] [0, 1, 2, 7, 10])
   (.seq (.block 0 (.loop [0, 1, 2, 7, 10] b80L0))
    (.seq (.seq (.reg [⟨some 28, .mv (.t 10), none⟩,
         ⟨some 29, .mv (.t 0), none⟩,
         ⟨some 30, .len false (.t 29), none⟩,
         ⟨some 31, .bin .lss (.t 28) (.t 30), none⟩,
         ⟨some 32, .mv (.t 31), none⟩,
         ⟨some 33, .mv (.t 0), (some (32, true))⟩,
         ⟨some 34, .mv (.t 10), (some (32, true))⟩,
         ⟨some 35, .idxA 1 (.t 33) (.t 34), (some (32, true))⟩,
         ⟨some 36, .ld 1 false (.t 35), (some (32, true))⟩,
         ⟨some 37, .mv (.t 2), (some (32, true))⟩,
         ⟨some 38, .bin .eql (.t 36) (.t 37), (some (32, true))⟩,
         ⟨some 39, .pick (.t 32) (.t 38) (.k (.sc (.bool false))), none⟩] [0, 1, 2, 7, 10, 39])
      (.cond (.t 39)
        (.seq (.reg [⟨some 40, .bsl 2 [.int .i64 0, .int .i64 0] 0 [], none⟩,
            ⟨some 41, .mv (.t 1), none⟩,
            ⟨some 42, .app 2 16 [.int .i64 0, .int .i64 0] (.t 40) (.t 41), none⟩,
            ⟨some 11, .mv (.t 42), none⟩] [0, 7, 10, 11])
         (.seq (.regd [(⟨some 43, .mv (.t 11), none⟩, 0, false),
             (⟨some 44, .mv (.t 10), none⟩, 1, false),
             (⟨some 45, .mv (.t 11), none⟩, 2, false),
             (⟨some 46, .mv (.t 10), none⟩, 3, false),
             (⟨some 47, .idxA 2 (.t 45) (.t 46), none⟩, 4, false),
             (⟨some 48, .ld 2 true (.t 47), none⟩, 5, false),
             (⟨some 49, .ld 2 true (.t 7), none⟩, 6, false),
             (⟨some 50, .call 111 [(.t 48), (.t 49)], none⟩, 7, true),
             (⟨some 51, .idxA 2 (.t 43) (.t 44), none⟩, 8, false),
             (⟨none, .st 2 (.t 51) (.t 50), none⟩, 9, true)] [0, 11])
          (.seq (.reg [⟨some 52, .mv (.t 0), none⟩,
              ⟨some 53, .mv (.t 11), none⟩,
              ⟨some 8, .mv (.t 52), none⟩,
              ⟨some 9, .mv (.t 53), none⟩] [8, 9])
           (.ret))))
        (.skip)))
     (.seq (.regs [(⟨some 54, .bsl 1 [.int .i64 0] 0 [], none⟩, 0, false),
         (⟨some 55, .mv (.t 0), none⟩, 1, false),
         (⟨some 56, .mv (.t 10), none⟩, 2, false),
         (⟨some 57, .sl1 (.t 55) none (some (.t 56)), none⟩, 3, false),
         (⟨some 59, .mv (.t 2), none⟩, 5, false),
         (⟨some 60, .bsl 1 [.int .i64 0] 1 [(0, .t 59)], none⟩, 6, false),
         (⟨some 62, .mv (.t 0), none⟩, 8, false),
         (⟨some 63, .mv (.t 10), none⟩, 9, false),
         (⟨some 64, .sl1 (.t 62) (some (.t 63)) none, none⟩, 10, false),
         (⟨some 58, .app 1 8 [.int .i64 0] (.t 54) (.t 57), none⟩, 4, true),
         (⟨some 61, .app 1 8 [.int .i64 0] (.t 58) (.t 60), none⟩, 7, true),
         (⟨some 65, .app 1 8 [.int .i64 0] (.t 61) (.t 64), none⟩, 11, true),
         (⟨some 12, .mv (.t 65), none⟩, 12, false)] [7, 11, 1006] [1, 7, 10, 12])
      (.seq (.regs [(⟨some 66, .bsl 2 [.int .i64 0, .int .i64 0] 0 [], none⟩, 0, false),
          (⟨some 67, .mv (.t 1), none⟩, 1, false),
          (⟨some 68, .mv (.t 10), none⟩, 2, false),
          (⟨some 69, .sl 2 (.t 67) none (some (.t 68)), none⟩, 3, false),
          (⟨some 71, .ld 2 true (.t 7), none⟩, 5, false),
          (⟨some 72, .bsl 2 [.int .i64 0, .int .i64 0] 1 [(0, .t 71)], none⟩, 6, false),
          (⟨some 74, .mv (.t 1), none⟩, 8, false),
          (⟨some 75, .mv (.t 10), none⟩, 9, false),
          (⟨some 76, .sl 2 (.t 74) (some (.t 75)) none, none⟩, 10, false),
          (⟨some 70, .app 2 16 [.int .i64 0, .int .i64 0] (.t 66) (.t 69), none⟩, 4, true),
          (⟨some 73, .app 2 16 [.int .i64 0, .int .i64 0] (.t 70) (.t 72), none⟩, 7, true),
          (⟨some 77, .app 2 16 [.int .i64 0, .int .i64 0] (.t 73) (.t 76), none⟩, 11, true),
          (⟨some 13, .mv (.t 77), none⟩, 12, false)] [11, 1006] [12, 13])
       (.seq (.reg [⟨some 78, .mv (.t 12), none⟩,
           ⟨some 79, .mv (.t 13), none⟩,
           ⟨some 8, .mv (.t 78), none⟩,
           ⟨some 9, .mv (.t 79), none⟩] [8, 9])
        (.ret)))))))
def a80 : AFun := ⟨4, b80, [.t 8, .t 9]⟩

def b81L1 : AC :=
  .seq (.seq (.reg [⟨some 39, .mv (.t 10), none⟩,
      ⟨some 40, .mv (.t 7), none⟩,
      ⟨some 41, .bin .lss (.t 39) (.t 40), none⟩] [0, 1, 4, 5, 6, 7, 9, 10, 41])
   (.cond (.t 41)
     (.skip)
     (.exit 2)))
  (.seq (.block 3 (.reg [⟨some 44, .ld 2 true (.t 9), none⟩,
       ⟨some 45, .ld 2 true (.t 9), none⟩,
       ⟨some 46, .call 111 [(.t 44), (.t 45)], none⟩,
       ⟨none, .st 2 (.t 9) (.t 46), none⟩] [0, 1, 4, 5, 6, 7, 9, 10]))
   (.reg [⟨some 42, .mv (.t 10), none⟩,
      ⟨some 43, .bin .add (.t 42) (.k (.sc (.int .i64 1))), none⟩,
      ⟨some 10, .mv (.t 43), none⟩] [0, 1, 4, 5, 6, 7, 9, 10]))
def b81L0 : AC :=
  .seq (.seq (.reg [⟨some 16, .mv (.t 7), none⟩,
      ⟨some 17, .bin .lss (.t 16) (.k (.sc (.int .i64 60))), none⟩] [0, 1, 4, 5, 6, 7, 17])
   (.cond (.t 17)
     (.skip)
     (.exit 0)))
  (.seq (.block 1 (.seq (.reg [⟨some 20, .mv (.t 5), none⟩,
        ⟨some 21, .mv (.t 0), none⟩,
        ⟨some 22, .mv (.t 7), none⟩,
        ⟨some 23, .conv .u64 (.t 22), none⟩,
        ⟨some 24, .bin .shr (.t 21) (.t 23), none⟩,
        ⟨some 25, .bin .rem (.t 24) (.k (.sc (.int .i64 1024))), none⟩,
        ⟨some 26, .bin .mul (.t 20) (.t 25), none⟩,
        ⟨some 27, .mv (.t 1), none⟩,
        ⟨some 28, .bin .mul (.t 26) (.t 27), none⟩,
        ⟨some 8, .mv (.t 28), none⟩] [0, 1, 4, 5, 6, 7, 8])
     (.seq (.reg [⟨some 29, .mv (.t 8), none⟩,
         ⟨some 30, .bin .rem (.t 29) (.k (.sc (.int .i64 1125899906842624))), none⟩,
         ⟨some 31, .bld [.int .i64 0, .int .i64 0] [(0, 1, .k (.sc (.int .i64 0))), (1, 1, .t 30)], none⟩,
         ⟨some 32, .call 112 [(.t 31)], none⟩,
         ⟨some 9, .new [.int .i64 0, .int .i64 0], none⟩,
         ⟨none, .st 2 (.t 9) (.t 32), none⟩] [0, 1, 4, 5, 6, 7, 8, 9])
      (.seq (.reg [⟨some 33, .fldA 0 (.t 9), none⟩,
          ⟨some 34, .ld 1 false (.t 33), none⟩,
          ⟨some 35, .mv (.t 8), none⟩,
          ⟨some 36, .bin .quo (.t 35) (.k (.sc (.int .i64 1125899906842624))), none⟩,
          ⟨some 37, .bin .add (.t 34) (.t 36), none⟩,
          ⟨some 38, .fldA 0 (.t 9), none⟩,
          ⟨none, .st 1 (.t 38) (.t 37), none⟩] [0, 1, 4, 5, 6, 7, 9])
       (.seq (.seq (.reg [⟨some 10, .mv (.k (.sc (.int .i64 0))), none⟩] [0, 1, 4, 5, 6, 7, 9, 10])
         (.block 2 (.loop [0, 1, 4, 5, 6, 7, 9, 10] b81L1)))
        (.reg [⟨some 47, .ld 2 true (.t 6), none⟩,
           ⟨some 48, .ld 2 true (.t 9), none⟩,
           ⟨some 49, .call 111 [(.t 47), (.t 48)], none⟩,
           ⟨none, .st 2 (.t 6) (.t 49), none⟩] [0, 1, 4, 5, 6, 7]))))))
   (.reg [⟨some 18, .mv (.t 7), none⟩,
      ⟨some 19, .bin .add (.t 18) (.k (.sc (.int .i64 10))), none⟩,
      ⟨some 7, .mv (.t 19), none⟩] [0, 1, 4, 5, 6, 7]))
/-- unravel/unravelref12.product -/
def b81 : AC :=
  .seq (.reg [⟨some 4, .new [.int .i64 0, .int .i64 0], none⟩] [0, 1, 4])
  (.seq (.reg [⟨some 5, .mv (.k (.sc (.int .i64 1))), none⟩] [0, 1, 4, 5])
   (.seq (.seq (.reg [⟨some 11, .mv (.t 0), none⟩,
        ⟨some 12, .bin .lss (.t 11) (.k (.sc (.int .i64 0))), none⟩] [0, 1, 4, 5, 12])
     (.cond (.t 12)
       (.reg [⟨some 13, .mv (.t 0), none⟩,
          ⟨some 14, .un .neg (.t 13), none⟩,
          ⟨some 0, .mv (.t 14), none⟩,
          ⟨some 5, .mv (.k (.sc (.int .i64 (-1)))), none⟩] [0, 1, 4, 5])
       (.skip)))
    (.seq (.reg [⟨some 15, .bld [.int .i64 0, .int .i64 0] [], none⟩,
        ⟨some 6, .new [.int .i64 0, .int .i64 0], none⟩,
        ⟨none, .st 2 (.t 6) (.t 15), none⟩] [0, 1, 4, 5, 6])
     (.seq (.seq (.reg [⟨some 7, .mv (.k (.sc (.int .i64 0))), none⟩] [0, 1, 4, 5, 6, 7])
       (.block 0 (.loop [0, 1, 4, 5, 6, 7] b81L0)))
      (.seq (.reg [⟨some 50, .ld 2 true (.t 6), none⟩,
          ⟨none, .st 2 (.t 4) (.t 50), none⟩] [4])
       (.ret))))))
def a81 : AFun := ⟨2, b81, [.cell 4 2 true]⟩

def b82L0 : AC :=
  .seq (.seq (.reg [⟨some 9, .mv (.t 6), none⟩,
      ⟨some 10, .mv (.t 0), none⟩,
      ⟨some 11, .len false (.t 10), none⟩,
      ⟨some 12, .bin .lss (.t 9) (.t 11), none⟩] [0, 1, 4, 5, 6, 12])
   (.cond (.t 12)
     (.skip)
     (.exit 0)))
  (.seq (.block 1 (.seq (.seq (.reg [⟨some 15, .mv (.t 1), none⟩,
         ⟨some 16, .mv (.t 6), none⟩,
         ⟨some 17, .idxA 2 (.t 15) (.t 16), none⟩,
         ⟨some 18, .ld 2 true (.t 17), none⟩,
         ⟨some 19, .bld [.int .i64 0, .int .i64 0] [], none⟩,
         ⟨some 20, .seq2 false (.t 18) (.t 19), none⟩] [0, 1, 4, 5, 6, 20])
      (.cond (.t 20)
        (.exit 1)
        (.skip)))
     (.seq (.reg [⟨some 22, .mv (.t 1), none⟩,
         ⟨some 23, .mv (.t 6), none⟩,
         ⟨some 24, .idxA 2 (.t 22) (.t 23), none⟩,
         ⟨some 25, .ld 2 true (.t 24), none⟩,
         ⟨some 26, .call 113 [(.t 25)], none⟩,
         ⟨some 21, .mv (.t 26), none⟩,
         ⟨some 27, .ext (.t 21) 0, none⟩,
         ⟨some 28, .ext (.t 21) 1, none⟩,
         ⟨some 7, .mv (.t 27), none⟩,
         ⟨some 8, .mv (.t 28), none⟩] [0, 1, 4, 5, 6, 7, 8])
      (.seq (.seq (.reg [⟨some 29, .mv (.t 8), none⟩,
           ⟨some 30, .un .not (.t 29), none⟩,
           ⟨some 31, .mv (.t 30), none⟩,
           ⟨some 32, .mv (.t 0), (some (31, false))⟩,
           ⟨some 33, .mv (.t 6), (some (31, false))⟩,
           ⟨some 34, .idxA 1 (.t 32) (.t 33), (some (31, false))⟩,
           ⟨some 35, .ld 1 false (.t 34), (some (31, false))⟩,
           ⟨some 36, .bin .lss (.t 35) (.k (.sc (.int .i64 (-1048576)))), (some (31, false))⟩,
           ⟨some 37, .pick (.t 31) (.k (.sc (.bool true))) (.t 36), none⟩,
           ⟨some 38, .mv (.t 37), none⟩,
           ⟨some 39, .mv (.t 0), (some (38, false))⟩,
           ⟨some 40, .mv (.t 6), (some (38, false))⟩,
           ⟨some 41, .idxA 1 (.t 39) (.t 40), (some (38, false))⟩,
           ⟨some 42, .ld 1 false (.t 41), (some (38, false))⟩,
           ⟨some 43, .bin .gtr (.t 42) (.k (.sc (.int .i64 1048576))), (some (38, false))⟩,
           ⟨some 44, .pick (.t 38) (.k (.sc (.bool true))) (.t 43), none⟩] [0, 1, 4, 5, 6, 7, 44])
        (.cond (.t 44)
          (.seq (.reg [⟨some 45, .bld [.nilS, .bool false] [(1, 1, .k (.sc (.bool true)))], none⟩,
              ⟨none, .st 2 (.t 4) (.t 45), none⟩] [4])
           (.ret))
          (.skip)))
       (.regd [(⟨some 46, .fldA 0 (.t 5), none⟩, 0, false),
          (⟨some 47, .ld 1 false (.t 46), none⟩, 1, false),
          (⟨some 48, .mv (.t 0), none⟩, 2, false),
          (⟨some 49, .mv (.t 6), none⟩, 3, false),
          (⟨some 50, .idxA 1 (.t 48) (.t 49), none⟩, 4, false),
          (⟨some 51, .ld 1 false (.t 50), none⟩, 5, false),
          (⟨some 52, .mv (.t 7), none⟩, 6, false),
          (⟨some 53, .bld [.int .i64 0, .int .i64 0] [(0, 1, .t 51), (1, 1, .t 52)], none⟩, 7, false),
          (⟨some 54, .bsl 2 [.int .i64 0, .int .i64 0] 1 [(0, .t 53)], none⟩, 8, false),
          (⟨some 55, .app 2 16 [.int .i64 0, .int .i64 0] (.t 47) (.t 54), none⟩, 9, true),
          (⟨some 56, .fldA 0 (.t 5), none⟩, 10, false),
          (⟨none, .st 1 (.t 56) (.t 55), none⟩, 11, true)] [0, 1, 4, 5, 6])))))
   (.reg [⟨some 13, .mv (.t 6), none⟩,
      ⟨some 14, .bin .add (.t 13) (.k (.sc (.int .i64 1))), none⟩,
      ⟨some 6, .mv (.t 14), none⟩] [0, 1, 4, 5, 6]))
/-- unravel/unravelref12.collect -/
def b82 : AC :=
  .seq (.reg [⟨some 4, .new [.nilS, .bool false], none⟩] [0, 1, 4])
  (.seq (.reg [⟨some 5, .new [.nilS, .bool false], none⟩] [0, 1, 4, 5])
   (.seq (.seq (.reg [⟨some 6, .mv (.k (.sc (.int .i64 0))), none⟩] [0, 1, 4, 5, 6])
     (.block 0 (.loop [0, 1, 4, 5, 6] b82L0)))
    (.seq (.reg [⟨some 57, .ld 2 true (.t 5), none⟩,
        ⟨none, .st 2 (.t 4) (.t 57), none⟩] [4])
     (.ret))))
def a82 : AFun := ⟨2, b82, [.cell 4 2 true]⟩

/-- unravel/laurent.combine$1 -/
def b83 : AC :=
  .seq (.reg [⟨some 10, .ld 1 false (.t 3), none⟩,
     ⟨some 11, .mv (.t 1), none⟩,
     ⟨some 12, .mv (.t 2), none⟩,
     ⟨some 13, .callv (.t 10) [(.t 11), (.t 12)], none⟩,
     ⟨some 9, .mv (.t 13), none⟩] [0, 4, 5, 9])
  (.seq (.reg [⟨some 14, .ld 1 false (.t 4), none⟩,
      ⟨some 15, .mv (.t 14), none⟩,
      ⟨some 16, .mv (.t 9), (some (15, true))⟩,
      ⟨some 17, .call 50 [(.t 16), (.k (.sc (.int .i64 1125899906842624)))], (some (15, true))⟩,
      ⟨some 18, .pick (.t 15) (.t 17) (.k (.sc (.bool false))), none⟩,
      ⟨none, .st 1 (.t 4) (.t 18), none⟩] [0, 5, 9])
   (.seq (.reg [⟨some 19, .mv (.t 9), none⟩,
       ⟨some 20, .bin .neq (.t 19) (.k (.sc (.int .i64 0))), none⟩] [0, 5, 9, 20])
    (.cond (.t 20)
      (.reg [⟨some 21, .fldA 1 (.t 5), none⟩,
         ⟨some 22, .ld 1 false (.t 21), none⟩,
         ⟨some 23, .mv (.t 0), none⟩,
         ⟨some 24, .mv (.t 9), none⟩,
         ⟨some 25, .bld [.int .i64 0, .int .i64 0] [(0, 1, .t 23), (1, 1, .t 24)], none⟩,
         ⟨some 26, .bsl 2 [.int .i64 0, .int .i64 0] 1 [(0, .t 25)], none⟩,
         ⟨some 27, .app 2 16 [.int .i64 0, .int .i64 0] (.t 22) (.t 26), none⟩,
         ⟨some 28, .fldA 1 (.t 5), none⟩,
         ⟨none, .st 1 (.t 28) (.t 27), none⟩] [])
      (.skip))))
def a83 : AFun := ⟨6, b83, []⟩

/-- (unravel/laurent.wide).split -/
def b88 : AC :=
  .seq (.reg [⟨some 1, .box (.t 0), none⟩,
     ⟨some 2, .new [.int .u64 0, .int .u64 0], none⟩,
     ⟨some 3, .mv (.k (.sc (.bool false))), none⟩] [1, 2])
  (.seq (.seq (.reg [⟨some 4, .fldA 0 (.t 1), none⟩,
       ⟨some 5, .ld 1 false (.t 4), none⟩,
       ⟨some 6, .bin .shr (.t 5) (.k (.sc (.int .u64 63))), none⟩,
       ⟨some 7, .bin .eql (.t 6) (.k (.sc (.int .u64 1))), none⟩] [1, 2, 7])
    (.cond (.t 7)
      (.seq (.reg [⟨some 8, .ld 2 true (.t 1), none⟩,
          ⟨some 9, .call 104 [(.t 8)], none⟩,
          ⟨none, .st 2 (.t 2) (.t 9), none⟩,
          ⟨some 3, .mv (.k (.sc (.bool true))), none⟩] [2, 3])
       (.ret))
      (.skip)))
   (.seq (.reg [⟨some 10, .ld 2 true (.t 1), none⟩,
       ⟨none, .st 2 (.t 2) (.t 10), none⟩,
       ⟨some 3, .mv (.k (.sc (.bool false))), none⟩] [2, 3])
    (.ret)))
def a88 : AFun := ⟨1, b88, [.cell 2 2 true, .t 3]⟩

def b89L0 : AC :=
  .seq (.seq (.reg [⟨some 15, .mv (.t 9), none⟩,
      ⟨some 16, .mv (.t 10), none⟩,
      ⟨some 17, .bin .lss (.t 15) (.t 16), none⟩] [0, 1, 2, 8, 9, 10, 17])
   (.cond (.t 17)
     (.skip)
     (.exit 0)))
  (.block 1 (.seq (.reg [⟨some 18, .mv (.t 9), none⟩,
       ⟨some 19, .mv (.t 10), none⟩,
       ⟨some 20, .bin .add (.t 18) (.t 19), none⟩,
       ⟨some 21, .conv .u64 (.t 20), none⟩,
       ⟨some 22, .bin .shr (.t 21) (.k (.sc (.int .u64 1))), none⟩,
       ⟨some 23, .conv .i64 (.t 22), none⟩,
       ⟨some 11, .mv (.t 23), none⟩] [0, 1, 2, 8, 9, 10, 11])
    (.seq (.reg [⟨some 24, .mv (.t 2), none⟩,
        ⟨some 25, .mv (.t 0), none⟩,
        ⟨some 26, .mv (.t 11), none⟩,
        ⟨some 27, .idxA 2 (.t 25) (.t 26), none⟩,
        ⟨some 28, .ld 2 true (.t 27), none⟩,
        ⟨some 29, .mv (.t 1), none⟩,
        ⟨some 30, .callv (.t 24) [(.t 28), (.t 29)], none⟩,
        ⟨some 31, .bin .lss (.t 30) (.k (.sc (.int .i64 0))), none⟩] [0, 1, 2, 8, 9, 10, 11, 31])
     (.cond (.t 31)
       (.reg [⟨some 32, .mv (.t 11), none⟩,
          ⟨some 33, .bin .add (.t 32) (.k (.sc (.int .i64 1))), none⟩,
          ⟨some 9, .mv (.t 33), none⟩] [0, 1, 2, 8, 9, 10])
       (.reg [⟨some 34, .mv (.t 11), none⟩,
          ⟨some 10, .mv (.t 34), none⟩] [0, 1, 2, 8, 9, 10])))))
/-- slices.BinarySearchFunc[[]unravel/laurent.term,unravel/laurent.term,int] -/
def b89 : AC :=
  .seq (.reg [⟨some 6, .mv (.k (.sc (.int .i64 0))), none⟩,
     ⟨some 7, .mv (.k (.sc (.bool false))), none⟩] [0, 1, 2])
  (.seq (.reg [⟨some 12, .mv (.t 0), none⟩,
      ⟨some 13, .len false (.t 12), none⟩,
      ⟨some 8, .mv (.t 13), none⟩] [0, 1, 2, 8])
   (.seq (.reg [⟨some 14, .mv (.t 8), none⟩,
       ⟨some 9, .mv (.k (.sc (.int .i64 0))), none⟩,
       ⟨some 10, .mv (.t 14), none⟩] [0, 1, 2, 8, 9, 10])
    (.seq (.block 0 (.loop [0, 1, 2, 8, 9, 10] b89L0))
     (.seq (.reg [⟨some 35, .mv (.t 9), none⟩,
         ⟨some 36, .mv (.t 9), none⟩,
         ⟨some 37, .mv (.t 8), none⟩,
         ⟨some 38, .bin .lss (.t 36) (.t 37), none⟩,
         ⟨some 39, .mv (.t 38), none⟩,
         ⟨some 40, .mv (.t 2), (some (39, true))⟩,
         ⟨some 41, .mv (.t 0), (some (39, true))⟩,
         ⟨some 42, .mv (.t 9), (some (39, true))⟩,
         ⟨some 43, .idxA 2 (.t 41) (.t 42), (some (39, true))⟩,
         ⟨some 44, .ld 2 true (.t 43), (some (39, true))⟩,
         ⟨some 45, .mv (.t 1), (some (39, true))⟩,
         ⟨some 46, .callv (.t 40) [(.t 44), (.t 45)], (some (39, true))⟩,
         ⟨some 47, .bin .eql (.t 46) (.k (.sc (.int .i64 0))), (some (39, true))⟩,
         ⟨some 48, .pick (.t 39) (.t 47) (.k (.sc (.bool false))), none⟩,
         ⟨some 6, .mv (.t 35), none⟩,
         ⟨some 7, .mv (.t 48), none⟩] [6, 7])
      (.ret)))))
def a89 : AFun := ⟨3, b89, [.t 6, .t 7]⟩

/-- (unravel/laurent.Poly).Coef$1 -/
def b90 : AC :=
  .seq (.reg [⟨some 2, .box (.t 0), none⟩,
     ⟨some 4, .mv (.k (.sc (.int .i64 0))), none⟩] [1, 2])
  (.seq (.reg [⟨some 5, .fldA 0 (.t 2), none⟩,
      ⟨some 6, .ld 1 false (.t 5), none⟩,
      ⟨some 7, .mv (.t 1), none⟩,
      ⟨some 8, .call 91 [(.t 6), (.t 7)], none⟩,
      ⟨some 4, .mv (.t 8), none⟩] [4])
   (.ret))
def a90 : AFun := ⟨2, b90, [.t 4]⟩

/-- cmp.Compare[int] -/
def b91 : AC :=
  .seq (.reg [⟨some 4, .mv (.k (.sc (.int .i64 0))), none⟩] [0, 1])
  (.seq (.reg [⟨some 7, .mv (.t 0), none⟩,
      ⟨some 8, .call 117 [(.t 7)], none⟩,
      ⟨some 5, .mv (.t 8), none⟩] [0, 1, 5])
   (.seq (.reg [⟨some 9, .mv (.t 1), none⟩,
       ⟨some 10, .call 117 [(.t 9)], none⟩,
       ⟨some 6, .mv (.t 10), none⟩] [0, 1, 5, 6])
    (.seq (.seq (.reg [⟨some 11, .mv (.t 5), none⟩] [0, 1, 6, 11])
      (.cond (.t 11)
        (.seq (.seq (.reg [⟨some 12, .mv (.t 6), none⟩] [12])
          (.cond (.t 12)
            (.seq (.reg [⟨some 4, .mv (.k (.sc (.int .i64 0))), none⟩] [4])
             (.ret))
            (.skip)))
         (.seq (.reg [⟨some 4, .mv (.k (.sc (.int .i64 (-1)))), none⟩] [4])
          (.ret)))
        (.skip)))
     (.seq (.seq (.reg [⟨some 13, .mv (.t 6), none⟩] [0, 1, 13])
       (.cond (.t 13)
         (.seq (.reg [⟨some 4, .mv (.k (.sc (.int .i64 1))), none⟩] [4])
          (.ret))
         (.skip)))
      (.seq (.seq (.reg [⟨some 14, .mv (.t 0), none⟩,
           ⟨some 15, .mv (.t 1), none⟩,
           ⟨some 16, .bin .lss (.t 14) (.t 15), none⟩] [0, 1, 16])
        (.cond (.t 16)
          (.seq (.reg [⟨some 4, .mv (.k (.sc (.int .i64 (-1)))), none⟩] [4])
           (.ret))
          (.skip)))
       (.seq (.seq (.reg [⟨some 17, .mv (.t 0), none⟩,
            ⟨some 18, .mv (.t 1), none⟩,
            ⟨some 19, .bin .gtr (.t 17) (.t 18), none⟩] [19])
         (.cond (.t 19)
           (.seq (.reg [⟨some 4, .mv (.k (.sc (.int .i64 1))), none⟩] [4])
            (.ret))
           (.skip)))
        (.seq (.reg [⟨some 4, .mv (.k (.sc (.int .i64 0))), none⟩] [4])
         (.ret))))))))
def a91 : AFun := ⟨2, b91, [.t 4]⟩

def b92L0 : AC :=
  .seq (.seq (.reg [⟨some 7, .mv (.t 2), none⟩,
      ⟨some 8, .mv (.t 3), none⟩,
      ⟨some 9, .bin .lss (.t 7) (.t 8), none⟩] [0, 2, 3, 9])
   (.cond (.t 9)
     (.skip)
     (.exit 0)))
  (.seq (.block 1 (.regd [(⟨some 14, .mv (.t 0), none⟩, 0, false),
       (⟨some 15, .mv (.t 2), none⟩, 1, false),
       (⟨some 16, .mv (.t 0), none⟩, 2, false),
       (⟨some 17, .mv (.t 3), none⟩, 3, false),
       (⟨some 18, .mv (.t 0), none⟩, 4, false),
       (⟨some 19, .mv (.t 3), none⟩, 5, false),
       (⟨some 20, .idxA 2 (.t 18) (.t 19), none⟩, 6, false),
       (⟨some 21, .ld 2 true (.t 20), none⟩, 7, false),
       (⟨some 22, .mv (.t 0), none⟩, 8, false),
       (⟨some 23, .mv (.t 2), none⟩, 9, false),
       (⟨some 24, .idxA 2 (.t 22) (.t 23), none⟩, 10, false),
       (⟨some 25, .ld 2 true (.t 24), none⟩, 11, false),
       (⟨some 26, .idxA 2 (.t 14) (.t 15), none⟩, 12, false),
       (⟨none, .st 2 (.t 26) (.t 21), none⟩, 13, true),
       (⟨some 27, .idxA 2 (.t 16) (.t 17), none⟩, 14, false),
       (⟨none, .st 2 (.t 27) (.t 25), none⟩, 15, true)] [0, 2, 3]))
   (.reg [⟨some 10, .mv (.t 2), none⟩,
      ⟨some 11, .bin .add (.t 10) (.k (.sc (.int .i64 1))), none⟩,
      ⟨some 12, .mv (.t 3), none⟩,
      ⟨some 13, .bin .sub (.t 12) (.k (.sc (.int .i64 1))), none⟩,
      ⟨some 2, .mv (.t 11), none⟩,
      ⟨some 3, .mv (.t 13), none⟩] [0, 2, 3]))
/-- slices.Reverse[[]unravel/laurent.term,unravel/laurent.term] -/
def b92 : AC :=
  .seq (.reg [⟨some 4, .mv (.t 0), none⟩,
     ⟨some 5, .len false (.t 4), none⟩,
     ⟨some 6, .bin .sub (.t 5) (.k (.sc (.int .i64 1))), none⟩,
     ⟨some 2, .mv (.k (.sc (.int .i64 0))), none⟩,
     ⟨some 3, .mv (.t 6), none⟩] [0, 2, 3])
  (.block 0 (.loop [0, 2, 3] b92L0))
def a92 : AFun := ⟨1, b92, []⟩

def b93L0 : AC :=
  .seq (.reg [⟨some 9, .bin .lss (.t 8) (.t 7), none⟩] [3, 6, 7, 8, 9])
  (.seq (.cond (.t 9)
     (.skip)
     (.exit 0))
   (.seq (.block 1 (.seq (.reg [⟨some 10, .idxA 1 (.t 6) (.t 8), none⟩,
         ⟨some 11, .ld 1 false (.t 10), none⟩,
         ⟨some 5, .mv (.t 11), none⟩] [3, 5, 6, 7, 8])
      (.reg [⟨some 12, .mv (.t 3), none⟩,
         ⟨some 13, .mv (.t 5), none⟩,
         ⟨some 14, .call 66 [(.t 12), (.t 13)], none⟩,
         ⟨some 3, .mv (.t 14), none⟩] [3, 6, 7, 8])))
    (.reg [⟨some 15, .bin .add (.t 8) (.k (.sc (.int .i64 1))), none⟩,
       ⟨some 8, .mv (.t 15), none⟩] [3, 6, 7, 8])))
/-- unravel/polymatrix.content -/
def b93 : AC :=
  .seq (.reg [⟨some 2, .mv (.k (.sc (.int .i64 0))), none⟩] [0])
  (.seq (.reg [⟨some 3, .mv (.k (.sc (.int .i64 0))), none⟩] [0, 3])
   (.seq (.seq (.reg [⟨some 6, .mv (.t 0), none⟩,
        ⟨some 7, .len false (.t 6), none⟩,
        ⟨some 8, .mv (.k (.sc (.int .i64 0))), none⟩] [3, 6, 7, 8])
     (.block 0 (.loop [3, 6, 7, 8] b93L0)))
    (.seq (.reg [⟨some 16, .mv (.t 3), none⟩,
        ⟨some 2, .mv (.t 16), none⟩] [2])
     (.ret))))
def a93 : AFun := ⟨1, b93, [.t 2]⟩

def b94L0 : AC :=
  .seq (.reg [⟨some 14, .bin .lss (.t 13) (.t 12), none⟩] [1, 5, 11, 12, 13, 14])
  (.seq (.cond (.t 14)
     (.skip)
     (.exit 0))
   (.seq (.block 1 (.seq (.reg [⟨some 15, .mv (.t 13), none⟩,
         ⟨some 16, .idxA 1 (.t 11) (.t 13), none⟩,
         ⟨some 17, .ld 1 false (.t 16), none⟩,
         ⟨some 6, .mv (.t 15), none⟩,
         ⟨some 7, .mv (.t 17), none⟩] [1, 5, 6, 7, 11, 12, 13])
      (.reg [⟨some 18, .mv (.t 5), none⟩,
         ⟨some 19, .mv (.t 6), none⟩,
         ⟨some 20, .mv (.t 7), none⟩,
         ⟨some 21, .mv (.t 1), none⟩,
         ⟨some 22, .bin .quo (.t 20) (.t 21), none⟩,
         ⟨some 23, .idxA 1 (.t 18) (.t 19), none⟩,
         ⟨none, .st 1 (.t 23) (.t 22), none⟩] [1, 5, 11, 12, 13])))
    (.reg [⟨some 24, .bin .add (.t 13) (.k (.sc (.int .i64 1))), none⟩,
       ⟨some 13, .mv (.t 24), none⟩] [1, 5, 11, 12, 13])))
/-- unravel/polymatrix.scaled -/
def b94 : AC :=
  .seq (.reg [⟨some 4, .mv (.k (.sc .nilS)), none⟩] [0, 1])
  (.seq (.reg [⟨some 8, .mv (.t 0), none⟩,
      ⟨some 9, .len false (.t 8), none⟩,
      ⟨some 10, .mk 1 8 [.int .i64 0] (.t 9) (.t 9), none⟩,
      ⟨some 5, .mv (.t 10), none⟩] [0, 1, 5])
   (.seq (.seq (.reg [⟨some 11, .mv (.t 0), none⟩,
        ⟨some 12, .len false (.t 11), none⟩,
        ⟨some 13, .mv (.k (.sc (.int .i64 0))), none⟩] [1, 5, 11, 12, 13])
     (.block 0 (.loop [1, 5, 11, 12, 13] b94L0)))
    (.seq (.reg [⟨some 25, .mv (.t 5), none⟩,
        ⟨some 4, .mv (.t 25), none⟩] [4])
     (.ret))))
def a94 : AFun := ⟨2, b94, [.t 4]⟩

def b95L1 : AC :=
  .seq (.block 3 (.seq (.reg [⟨some 22, .ld 2 true (.t 5), none⟩,
       ⟨some 23, .mv (.t 6), none⟩,
       ⟨some 24, .mv (.t 4), none⟩,
       ⟨some 25, .bin .sub (.t 24) (.k (.sc (.int .u64 1))), none⟩,
       ⟨some 26, .bin .shr (.t 25) (.k (.sc (.int .u64 17))), none⟩,
       ⟨some 27, .call 119 [(.t 22), (.t 23), (.t 26)], none⟩,
       ⟨some 28, .fldA 1 (.t 5), none⟩,
       ⟨none, .st 1 (.t 28) (.t 27), none⟩] [0, 3, 4, 5, 6])
    (.seq (.reg [⟨some 29, .ld 2 true (.t 5), none⟩,
        ⟨some 30, .fldA 1 (.t 5), none⟩,
        ⟨some 31, .ld 1 false (.t 30), none⟩,
        ⟨some 32, .call 119 [(.t 29), (.t 31), (.k (.sc (.int .u64 65536)))], none⟩,
        ⟨some 33, .mv (.t 4), none⟩,
        ⟨some 34, .bin .sub (.t 33) (.k (.sc (.int .u64 1))), none⟩,
        ⟨some 35, .bin .eql (.t 32) (.t 34), none⟩] [0, 3, 4, 5, 6, 35])
     (.cond (.t 35)
       (.exit 2)
       (.skip)))))
  (.reg [⟨some 20, .mv (.t 6), none⟩,
     ⟨some 21, .bin .add (.t 20) (.k (.sc (.int .u64 1))), none⟩,
     ⟨some 6, .mv (.t 21), none⟩] [0, 3, 4, 5, 6])
def b95L0 : AC :=
  .seq (.seq (.reg [⟨some 9, .mv (.t 3), none⟩,
      ⟨some 10, .len false (.t 9), none⟩,
      ⟨some 11, .mv (.t 0), none⟩,
      ⟨some 12, .bin .lss (.t 10) (.t 11), none⟩] [0, 3, 4, 12])
   (.cond (.t 12)
     (.skip)
     (.exit 0)))
  (.seq (.block 1 (.seq (.seq (.reg [⟨some 15, .mv (.t 4), none⟩,
         ⟨some 16, .call 118 [(.t 15)], none⟩,
         ⟨some 17, .un .not (.t 16), none⟩] [0, 3, 4, 17])
      (.cond (.t 17)
        (.exit 1)
        (.skip)))
     (.seq (.reg [⟨some 18, .mv (.t 4), none⟩,
         ⟨some 19, .bld [.int .u64 0, .int .u64 0] [(0, 1, .t 18)], none⟩,
         ⟨some 5, .new [.int .u64 0, .int .u64 0], none⟩,
         ⟨none, .st 2 (.t 5) (.t 19), none⟩] [0, 3, 4, 5])
      (.seq (.seq (.reg [⟨some 6, .mv (.k (.sc (.int .u64 2))), none⟩] [0, 3, 4, 5, 6])
        (.block 2 (.loop [0, 3, 4, 5, 6] b95L1)))
       (.reg [⟨some 36, .mv (.t 3), none⟩,
          ⟨some 37, .ld 2 true (.t 5), none⟩,
          ⟨some 38, .bsl 2 [.int .u64 0, .int .u64 0] 1 [(0, .t 37)], none⟩,
          ⟨some 39, .app 2 16 [.int .u64 0, .int .u64 0] (.t 36) (.t 38), none⟩,
          ⟨some 3, .mv (.t 39), none⟩] [0, 3, 4])))))
   (.reg [⟨some 13, .mv (.t 4), none⟩,
      ⟨some 14, .bin .sub (.t 13) (.k (.sc (.int .u64 131072))), none⟩,
      ⟨some 4, .mv (.t 14), none⟩] [0, 3, 4]))
/-- unravel/polymatrix.fields -/
def b95 : AC :=
  .seq (.reg [⟨some 2, .mv (.k (.sc .nilS)), none⟩] [0])
  (.seq (.reg [⟨some 7, .mv (.t 0), none⟩,
      ⟨some 8, .mk 2 16 [.int .u64 0, .int .u64 0] (.k (.sc (.int .i64 0))) (.t 7), none⟩,
      ⟨some 3, .mv (.t 8), none⟩] [0, 3])
   (.seq (.seq (.reg [⟨some 4, .mv (.k (.sc (.int .u64 2305843009213562881))), none⟩] [0, 3, 4])
     (.block 0 (.loop [0, 3, 4] b95L0)))
    (.seq (.reg [⟨some 40, .mv (.t 3), none⟩,
        ⟨some 2, .mv (.t 40), none⟩] [2])
     (.ret))))
def a95 : AFun := ⟨1, b95, [.t 2]⟩

def b96L2 : AC :=
  .seq (.reg [⟨some 58, .bin .lss (.t 57) (.t 56), none⟩] [3, 8, 9, 10, 11, 12, 55, 56, 57, 58])
  (.seq (.cond (.t 58)
     (.skip)
     (.exit 4))
   (.seq (.block 5 (.seq (.reg [⟨some 59, .mv (.t 57), none⟩,
         ⟨some 60, .idxA 1 (.t 55) (.t 57), none⟩,
         ⟨some 61, .ld 1 false (.t 60), none⟩,
         ⟨some 13, .mv (.t 59), none⟩,
         ⟨some 14, .mv (.t 61), none⟩] [3, 8, 9, 10, 11, 12, 13, 14, 55, 56, 57])
      (.regd [(⟨some 62, .mv (.t 8), none⟩, 0, false),
         (⟨some 63, .mv (.t 11), none⟩, 1, false),
         (⟨some 64, .mv (.t 13), none⟩, 2, false),
         (⟨some 65, .bin .add (.t 63) (.t 64), none⟩, 3, false),
         (⟨some 66, .ld 2 true (.t 3), none⟩, 4, false),
         (⟨some 67, .mv (.t 8), none⟩, 5, false),
         (⟨some 68, .mv (.t 11), none⟩, 6, false),
         (⟨some 69, .mv (.t 13), none⟩, 7, false),
         (⟨some 70, .bin .add (.t 68) (.t 69), none⟩, 8, false),
         (⟨some 71, .idxA 1 (.t 67) (.t 70), none⟩, 9, false),
         (⟨some 72, .ld 1 false (.t 71), none⟩, 10, false),
         (⟨some 73, .ld 2 true (.t 3), none⟩, 11, false),
         (⟨some 74, .mv (.t 12), none⟩, 12, false),
         (⟨some 75, .mv (.t 14), none⟩, 13, false),
         (⟨some 76, .call 98 [(.t 73), (.t 74), (.t 75)], none⟩, 14, false),
         (⟨some 77, .call 122 [(.t 66), (.t 72), (.t 76)], none⟩, 15, true),
         (⟨some 78, .idxA 1 (.t 62) (.t 65), none⟩, 16, false),
         (⟨none, .st 1 (.t 78) (.t 77), none⟩, 17, true)] [3, 8, 9, 10, 11, 12, 55, 56, 57])))
    (.reg [⟨some 79, .bin .add (.t 57) (.k (.sc (.int .i64 1))), none⟩,
       ⟨some 57, .mv (.t 79), none⟩] [3, 8, 9, 10, 11, 12, 55, 56, 57])))
def b96L3 : AC :=
  .seq (.seq (.reg [⟨some 80, .mv (.t 8), none⟩,
      ⟨some 81, .len false (.t 80), none⟩,
      ⟨some 82, .bin .gtr (.t 81) (.k (.sc (.int .i64 0))), none⟩,
      ⟨some 83, .mv (.t 82), none⟩,
      ⟨some 84, .mv (.t 8), (some (83, true))⟩,
      ⟨some 85, .mv (.t 8), (some (83, true))⟩,
      ⟨some 86, .len false (.t 85), (some (83, true))⟩,
      ⟨some 87, .bin .sub (.t 86) (.k (.sc (.int .i64 1))), (some (83, true))⟩,
      ⟨some 88, .idxA 1 (.t 84) (.t 87), (some (83, true))⟩,
      ⟨some 89, .ld 1 false (.t 88), (some (83, true))⟩,
      ⟨some 90, .bin .eql (.t 89) (.k (.sc (.int .u64 0))), (some (83, true))⟩,
      ⟨some 91, .pick (.t 83) (.t 90) (.k (.sc (.bool false))), none⟩] [3, 8, 9, 10, 91])
   (.cond (.t 91)
     (.skip)
     (.exit 6)))
  (.block 7 (.reg [⟨some 92, .mv (.t 8), none⟩,
      ⟨some 93, .mv (.t 8), none⟩,
      ⟨some 94, .len false (.t 93), none⟩,
      ⟨some 95, .bin .sub (.t 94) (.k (.sc (.int .i64 1))), none⟩,
      ⟨some 96, .sl1 (.t 92) none (some (.t 95)), none⟩,
      ⟨some 8, .mv (.t 96), none⟩] [3, 8, 9, 10]))
def b96L1 : AC :=
  .seq (.seq (.reg [⟨some 36, .mv (.t 8), none⟩,
      ⟨some 37, .len false (.t 36), none⟩,
      ⟨some 38, .mv (.t 9), none⟩,
      ⟨some 39, .len false (.t 38), none⟩,
      ⟨some 40, .bin .geq (.t 37) (.t 39), none⟩] [3, 8, 9, 10, 40])
   (.cond (.t 40)
     (.skip)
     (.exit 2)))
  (.block 3 (.seq (.reg [⟨some 41, .mv (.t 8), none⟩,
       ⟨some 42, .len false (.t 41), none⟩,
       ⟨some 43, .mv (.t 9), none⟩,
       ⟨some 44, .len false (.t 43), none⟩,
       ⟨some 45, .bin .sub (.t 42) (.t 44), none⟩,
       ⟨some 11, .mv (.t 45), none⟩] [3, 8, 9, 10, 11])
    (.seq (.regd [(⟨some 46, .ld 2 true (.t 3), none⟩, 0, false),
        (⟨some 47, .mv (.t 8), none⟩, 1, false),
        (⟨some 48, .mv (.t 8), none⟩, 2, false),
        (⟨some 49, .len false (.t 48), none⟩, 3, false),
        (⟨some 50, .bin .sub (.t 49) (.k (.sc (.int .i64 1))), none⟩, 4, false),
        (⟨some 51, .idxA 1 (.t 47) (.t 50), none⟩, 5, false),
        (⟨some 52, .ld 1 false (.t 51), none⟩, 6, false),
        (⟨some 53, .mv (.t 10), none⟩, 7, false),
        (⟨some 54, .call 98 [(.t 46), (.t 52), (.t 53)], none⟩, 8, true),
        (⟨some 12, .mv (.t 54), none⟩, 9, false)] [3, 8, 9, 10, 11, 12])
     (.seq (.seq (.reg [⟨some 55, .mv (.t 9), none⟩,
          ⟨some 56, .len false (.t 55), none⟩,
          ⟨some 57, .mv (.k (.sc (.int .i64 0))), none⟩] [3, 8, 9, 10, 11, 12, 55, 56, 57])
       (.block 4 (.loop [3, 8, 9, 10, 11, 12, 55, 56, 57] b96L2)))
      (.block 6 (.loop [3, 8, 9, 10] b96L3))))))
def b96L0 : AC :=
  .seq (.seq (.reg [⟨some 25, .mv (.t 9), none⟩,
      ⟨some 26, .len false (.t 25), none⟩,
      ⟨some 27, .bin .gtr (.t 26) (.k (.sc (.int .i64 0))), none⟩] [3, 8, 9, 27])
   (.cond (.t 27)
     (.skip)
     (.exit 0)))
  (.block 1 (.seq (.regd [(⟨some 28, .ld 2 true (.t 3), none⟩, 0, false),
       (⟨some 29, .mv (.t 9), none⟩, 1, false),
       (⟨some 30, .mv (.t 9), none⟩, 2, false),
       (⟨some 31, .len false (.t 30), none⟩, 3, false),
       (⟨some 32, .bin .sub (.t 31) (.k (.sc (.int .i64 1))), none⟩, 4, false),
       (⟨some 33, .idxA 1 (.t 29) (.t 32), none⟩, 5, false),
       (⟨some 34, .ld 1 false (.t 33), none⟩, 6, false),
       (⟨some 35, .call 121 [(.t 28), (.t 34)], none⟩, 7, true),
       (⟨some 10, .mv (.t 35), none⟩, 8, false)] [3, 8, 9, 10])
    (.seq (.block 2 (.loop [3, 8, 9, 10] b96L1))
     (.reg [⟨some 97, .mv (.t 9), none⟩,
        ⟨some 98, .mv (.t 8), none⟩,
        ⟨some 8, .mv (.t 97), none⟩,
        ⟨some 9, .mv (.t 98), none⟩] [3, 8, 9]))))
def b96L4 : AC :=
  .seq (.reg [⟨some 112, .bin .lss (.t 111) (.t 110), none⟩] [3, 15, 16, 110, 111, 112])
  (.seq (.cond (.t 112)
     (.skip)
     (.exit 8))
   (.seq (.block 9 (.seq (.reg [⟨some 113, .mv (.t 111), none⟩,
         ⟨some 17, .mv (.t 113), none⟩] [3, 15, 16, 17, 110, 111])
      (.regd [(⟨some 114, .mv (.t 15), none⟩, 0, false),
         (⟨some 115, .mv (.t 17), none⟩, 1, false),
         (⟨some 116, .ld 2 true (.t 3), none⟩, 2, false),
         (⟨some 117, .mv (.t 15), none⟩, 3, false),
         (⟨some 118, .mv (.t 17), none⟩, 4, false),
         (⟨some 119, .idxA 1 (.t 117) (.t 118), none⟩, 5, false),
         (⟨some 120, .ld 1 false (.t 119), none⟩, 6, false),
         (⟨some 121, .mv (.t 16), none⟩, 7, false),
         (⟨some 122, .call 98 [(.t 116), (.t 120), (.t 121)], none⟩, 8, true),
         (⟨some 123, .idxA 1 (.t 114) (.t 115), none⟩, 9, false),
         (⟨none, .st 1 (.t 123) (.t 122), none⟩, 10, true)] [3, 15, 16, 110, 111])))
    (.reg [⟨some 124, .bin .add (.t 111) (.k (.sc (.int .i64 1))), none⟩,
       ⟨some 111, .mv (.t 124), none⟩] [3, 15, 16, 110, 111])))
/-- (unravel/polymatrix.field).euclid -/
def b96 : AC :=
  .seq (.reg [⟨some 3, .box (.t 0), none⟩,
     ⟨some 6, .mv (.k (.sc .nilS)), none⟩] [1, 2, 3])
  (.seq (.reg [⟨some 18, .mkf 120 [(.t 3)], none⟩,
      ⟨some 7, .mv (.t 18), none⟩] [1, 2, 3, 7])
   (.seq (.reg [⟨some 19, .mv (.t 7), none⟩,
       ⟨some 20, .mv (.t 1), none⟩,
       ⟨some 21, .callv (.t 19) [(.t 20)], none⟩,
       ⟨some 22, .mv (.t 7), none⟩,
       ⟨some 23, .mv (.t 2), none⟩,
       ⟨some 24, .callv (.t 22) [(.t 23)], none⟩,
       ⟨some 8, .mv (.t 21), none⟩,
       ⟨some 9, .mv (.t 24), none⟩] [3, 8, 9])
    (.seq (.block 0 (.loop [3, 8, 9] b96L0))
     (.seq (.reg [⟨some 99, .mv (.t 8), none⟩,
         ⟨some 100, .call 123 [(.t 99)], none⟩,
         ⟨some 15, .mv (.t 100), none⟩] [3, 8, 15])
      (.seq (.regd [(⟨some 101, .ld 2 true (.t 3), none⟩, 0, false),
          (⟨some 102, .mv (.t 8), none⟩, 1, false),
          (⟨some 103, .mv (.t 8), none⟩, 2, false),
          (⟨some 104, .len false (.t 103), none⟩, 3, false),
          (⟨some 105, .bin .sub (.t 104) (.k (.sc (.int .i64 1))), none⟩, 4, false),
          (⟨some 106, .idxA 1 (.t 102) (.t 105), none⟩, 5, false),
          (⟨some 107, .ld 1 false (.t 106), none⟩, 6, false),
          (⟨some 108, .call 121 [(.t 101), (.t 107)], none⟩, 7, true),
          (⟨some 16, .mv (.t 108), none⟩, 8, false)] [3, 15, 16])
       (.seq (.seq (.reg [⟨some 109, .mv (.t 15), none⟩,
            ⟨some 110, .len false (.t 109), none⟩,
            ⟨some 111, .mv (.k (.sc (.int .i64 0))), none⟩] [3, 15, 16, 110, 111])
         (.block 8 (.loop [3, 15, 16, 110, 111] b96L4)))
        (.seq (.reg [⟨some 125, .mv (.t 15), none⟩,
            ⟨some 6, .mv (.t 125), none⟩] [6])
         (.ret))))))))
def a96 : AFun := ⟨3, b96, [.t 6]⟩

/-- (unravel/polymatrix.field).lift -/
def b97 : AC :=
  .seq (.reg [⟨some 2, .box (.t 0), none⟩,
     ⟨some 4, .mv (.k (.sc (.int .i64 0))), none⟩] [1, 2])
  (.seq (.seq (.reg [⟨some 5, .mv (.t 1), none⟩,
       ⟨some 6, .fldA 0 (.t 2), none⟩,
       ⟨some 7, .ld 1 false (.t 6), none⟩,
       ⟨some 8, .bin .quo (.t 7) (.k (.sc (.int .u64 2))), none⟩,
       ⟨some 9, .bin .gtr (.t 5) (.t 8), none⟩] [1, 2, 9])
    (.cond (.t 9)
      (.seq (.reg [⟨some 10, .fldA 0 (.t 2), none⟩,
          ⟨some 11, .ld 1 false (.t 10), none⟩,
          ⟨some 12, .mv (.t 1), none⟩,
          ⟨some 13, .bin .sub (.t 11) (.t 12), none⟩,
          ⟨some 14, .conv .i64 (.t 13), none⟩,
          ⟨some 15, .un .neg (.t 14), none⟩,
          ⟨some 4, .mv (.t 15), none⟩] [4])
       (.ret))
      (.skip)))
   (.seq (.reg [⟨some 16, .mv (.t 1), none⟩,
       ⟨some 17, .conv .i64 (.t 16), none⟩,
       ⟨some 4, .mv (.t 17), none⟩] [4])
    (.ret)))
def a97 : AFun := ⟨2, b97, [.t 4]⟩

/-- (unravel/polymatrix.field).mul -/
def b98 : AC :=
  .seq (.reg [⟨some 3, .box (.t 0), none⟩,
     ⟨some 6, .mv (.k (.sc (.int .u64 0))), none⟩] [1, 2, 3])
  (.seq (.reg [⟨some 10, .mv (.t 1), none⟩,
      ⟨some 11, .mv (.t 2), none⟩,
      ⟨some 12, .call 103 [(.t 10), (.t 11)], none⟩,
      ⟨some 9, .mv (.t 12), none⟩,
      ⟨some 13, .ext (.t 9) 0, none⟩,
      ⟨some 14, .ext (.t 9) 1, none⟩,
      ⟨some 7, .mv (.t 13), none⟩,
      ⟨some 8, .mv (.t 14), none⟩] [3, 7, 8])
   (.seq (.reg [⟨some 15, .mv (.t 7), none⟩,
       ⟨some 16, .mv (.t 8), none⟩,
       ⟨some 17, .fldA 0 (.t 3), none⟩,
       ⟨some 18, .ld 1 false (.t 17), none⟩,
       ⟨some 19, .call 124 [(.t 15), (.t 16), (.t 18)], none⟩,
       ⟨some 6, .mv (.t 19), none⟩] [6])
    (.ret)))
def a98 : AFun := ⟨3, b98, [.t 6]⟩

/-- (unravel/polymatrix.field).of -/
def b99 : AC :=
  .seq (.reg [⟨some 2, .box (.t 0), none⟩,
     ⟨some 4, .mv (.k (.sc (.int .u64 0))), none⟩] [1, 2])
  (.seq (.seq (.reg [⟨some 5, .mv (.t 1), none⟩,
       ⟨some 6, .bin .lss (.t 5) (.k (.sc (.int .i64 0))), none⟩] [1, 2, 6])
    (.cond (.t 6)
      (.seq (.reg [⟨some 7, .fldA 0 (.t 2), none⟩,
          ⟨some 8, .ld 1 false (.t 7), none⟩,
          ⟨some 9, .mv (.t 1), none⟩,
          ⟨some 10, .un .neg (.t 9), none⟩,
          ⟨some 11, .conv .u64 (.t 10), none⟩,
          ⟨some 12, .bin .sub (.t 8) (.t 11), none⟩,
          ⟨some 4, .mv (.t 12), none⟩] [4])
       (.ret))
      (.skip)))
   (.seq (.reg [⟨some 13, .mv (.t 1), none⟩,
       ⟨some 14, .conv .u64 (.t 13), none⟩,
       ⟨some 4, .mv (.t 14), none⟩] [4])
    (.ret)))
def a99 : AFun := ⟨2, b99, [.t 4]⟩

/-- unravel/laurent.Term -/
def b100 : AC :=
  .seq (.reg [⟨some 4, .new [.bool false, .nilS], none⟩] [0, 1, 4])
  (.seq (.block 0 (.seq (.reg [⟨some 6, .mv (.t 0), none⟩,
        ⟨some 7, .bin .eql (.t 6) (.k (.sc (.int .i64 0))), none⟩,
        ⟨some 5, .mv (.t 7), none⟩] [0, 1, 4, 5])
     (.cond (.t 5)
       (.seq (.reg [⟨some 8, .bld [.bool false, .nilS] [], none⟩,
           ⟨none, .st 2 (.t 4) (.t 8), none⟩] [4])
        (.ret))
       (.seq (.reg [⟨some 10, .mv (.t 0), none⟩,
           ⟨some 11, .call 50 [(.t 10), (.k (.sc (.int .i64 1125899906842624)))], none⟩,
           ⟨some 12, .un .not (.t 11), none⟩,
           ⟨some 13, .mv (.t 12), none⟩,
           ⟨some 14, .mv (.t 1), (some (13, false))⟩,
           ⟨some 15, .call 50 [(.t 14), (.k (.sc (.int .i64 1048576)))], (some (13, false))⟩,
           ⟨some 16, .un .not (.t 15), (some (13, false))⟩,
           ⟨some 17, .pick (.t 13) (.k (.sc (.bool true))) (.t 16), none⟩,
           ⟨some 9, .mv (.t 17), none⟩] [0, 1, 4, 9])
        (.cond (.t 9)
          (.seq (.reg [⟨some 18, .bld [.bool false, .nilS] [(0, 1, .k (.sc (.bool true)))], none⟩,
              ⟨none, .st 2 (.t 4) (.t 18), none⟩] [4])
           (.ret))
          (.skip))))))
   (.seq (.reg [⟨some 19, .mv (.t 1), none⟩,
       ⟨some 20, .mv (.t 0), none⟩,
       ⟨some 21, .bld [.int .i64 0, .int .i64 0] [(0, 1, .t 19), (1, 1, .t 20)], none⟩,
       ⟨some 22, .bsl 2 [.int .i64 0, .int .i64 0] 1 [(0, .t 21)], none⟩,
       ⟨some 23, .bld [.bool false, .nilS] [(1, 1, .t 22)], none⟩,
       ⟨none, .st 2 (.t 4) (.t 23), none⟩] [4])
    (.ret)))
def a100 : AFun := ⟨2, b100, [.cell 4 2 true]⟩

/-- unravel/laurent.magnitude -/
def b101 : AC :=
  .seq (.reg [⟨some 2, .mv (.k (.sc (.int .u64 0))), none⟩] [0])
  (.seq (.seq (.reg [⟨some 3, .mv (.t 0), none⟩,
       ⟨some 4, .bin .lss (.t 3) (.k (.sc (.int .i64 0))), none⟩] [0, 4])
    (.cond (.t 4)
      (.seq (.reg [⟨some 5, .mv (.t 0), none⟩,
          ⟨some 6, .conv .u64 (.t 5), none⟩,
          ⟨some 7, .un .neg (.t 6), none⟩,
          ⟨some 2, .mv (.t 7), none⟩] [2])
       (.ret))
      (.skip)))
   (.seq (.reg [⟨some 8, .mv (.t 0), none⟩,
       ⟨some 9, .conv .u64 (.t 8), none⟩,
       ⟨some 2, .mv (.t 9), none⟩] [2])
    (.ret)))
def a101 : AFun := ⟨1, b101, [.t 2]⟩

def b102L0 : AC :=
  .seq (.seq (.reg [⟨some 67, .mv (.t 15), none⟩,
      ⟨some 68, .bin .geq (.t 67) (.k (.sc (.int .u64 4294967296))), none⟩,
      ⟨some 69, .mv (.t 68), none⟩,
      ⟨some 70, .mv (.t 15), (some (69, false))⟩,
      ⟨some 71, .mv (.t 10), (some (69, false))⟩,
      ⟨some 72, .bin .mul (.t 70) (.t 71), (some (69, false))⟩,
      ⟨some 73, .mv (.t 16), (some (69, false))⟩,
      ⟨some 74, .bin .mul (.k (.sc (.int .u64 4294967296))) (.t 73), (some (69, false))⟩,
      ⟨some 75, .mv (.t 13), (some (69, false))⟩,
      ⟨some 76, .bin .add (.t 74) (.t 75), (some (69, false))⟩,
      ⟨some 77, .bin .gtr (.t 72) (.t 76), (some (69, false))⟩,
      ⟨some 78, .pick (.t 69) (.k (.sc (.bool true))) (.t 77), none⟩] [2, 8, 9, 10, 11, 13, 14, 15, 16, 78])
   (.cond (.t 78)
     (.skip)
     (.exit 0)))
  (.block 1 (.seq (.reg [⟨some 79, .mv (.t 15), none⟩,
       ⟨some 80, .bin .sub (.t 79) (.k (.sc (.int .u64 1))), none⟩,
       ⟨some 15, .mv (.t 80), none⟩] [2, 8, 9, 10, 11, 13, 14, 15, 16])
    (.seq (.reg [⟨some 81, .mv (.t 16), none⟩,
        ⟨some 82, .mv (.t 9), none⟩,
        ⟨some 83, .bin .add (.t 81) (.t 82), none⟩,
        ⟨some 16, .mv (.t 83), none⟩] [2, 8, 9, 10, 11, 13, 14, 15, 16])
     (.seq (.reg [⟨some 84, .mv (.t 16), none⟩,
         ⟨some 85, .bin .geq (.t 84) (.k (.sc (.int .u64 4294967296))), none⟩] [2, 8, 9, 10, 11, 13, 14, 15, 16, 85])
      (.cond (.t 85)
        (.exit 0)
        (.skip))))))
def b102L1 : AC :=
  .seq (.seq (.reg [⟨some 102, .mv (.t 18), none⟩,
      ⟨some 103, .bin .geq (.t 102) (.k (.sc (.int .u64 4294967296))), none⟩,
      ⟨some 104, .mv (.t 103), none⟩,
      ⟨some 105, .mv (.t 18), (some (104, false))⟩,
      ⟨some 106, .mv (.t 10), (some (104, false))⟩,
      ⟨some 107, .bin .mul (.t 105) (.t 106), (some (104, false))⟩,
      ⟨some 108, .mv (.t 16), (some (104, false))⟩,
      ⟨some 109, .bin .mul (.k (.sc (.int .u64 4294967296))) (.t 108), (some (104, false))⟩,
      ⟨some 110, .mv (.t 14), (some (104, false))⟩,
      ⟨some 111, .bin .add (.t 109) (.t 110), (some (104, false))⟩,
      ⟨some 112, .bin .gtr (.t 107) (.t 111), (some (104, false))⟩,
      ⟨some 113, .pick (.t 104) (.k (.sc (.bool true))) (.t 112), none⟩] [2, 8, 9, 10, 14, 15, 16, 17, 18, 113])
   (.cond (.t 113)
     (.skip)
     (.exit 2)))
  (.block 3 (.seq (.reg [⟨some 114, .mv (.t 18), none⟩,
       ⟨some 115, .bin .sub (.t 114) (.k (.sc (.int .u64 1))), none⟩,
       ⟨some 18, .mv (.t 115), none⟩] [2, 8, 9, 10, 14, 15, 16, 17, 18])
    (.seq (.reg [⟨some 116, .mv (.t 16), none⟩,
        ⟨some 117, .mv (.t 9), none⟩,
        ⟨some 118, .bin .add (.t 116) (.t 117), none⟩,
        ⟨some 16, .mv (.t 118), none⟩] [2, 8, 9, 10, 14, 15, 16, 17, 18])
     (.seq (.reg [⟨some 119, .mv (.t 16), none⟩,
         ⟨some 120, .bin .geq (.t 119) (.k (.sc (.int .u64 4294967296))), none⟩] [2, 8, 9, 10, 14, 15, 16, 17, 18, 120])
      (.cond (.t 120)
        (.exit 2)
        (.skip))))))
/-- math/bits.Div64 -/
def b102 : AC :=
  .seq (.reg [⟨some 6, .mv (.k (.sc (.int .u64 0))), none⟩,
     ⟨some 7, .mv (.k (.sc (.int .u64 0))), none⟩] [0, 1, 2])
  (.seq (.seq (.reg [⟨some 19, .mv (.t 2), none⟩,
       ⟨some 20, .bin .eql (.t 19) (.k (.sc (.int .u64 0))), none⟩] [0, 1, 2, 20])
    (.cond (.t 20)
      (.reg [⟨some 21, .bad, none⟩,
         ⟨none, .bad, none⟩] [0, 1, 2])
      (.skip)))
   (.seq (.seq (.reg [⟨some 22, .mv (.t 2), none⟩,
        ⟨some 23, .mv (.t 0), none⟩,
        ⟨some 24, .bin .leq (.t 22) (.t 23), none⟩] [0, 1, 2, 24])
     (.cond (.t 24)
       (.reg [⟨some 25, .bad, none⟩,
          ⟨none, .bad, none⟩] [0, 1, 2])
       (.skip)))
    (.seq (.seq (.reg [⟨some 26, .mv (.t 0), none⟩,
         ⟨some 27, .bin .eql (.t 26) (.k (.sc (.int .u64 0))), none⟩] [0, 1, 2, 27])
      (.cond (.t 27)
        (.seq (.regd [(⟨some 28, .mv (.t 1), none⟩, 0, false),
            (⟨some 29, .mv (.t 2), none⟩, 1, false),
            (⟨some 30, .bin .quo (.t 28) (.t 29), none⟩, 2, false),
            (⟨some 31, .mv (.t 1), none⟩, 3, false),
            (⟨some 32, .mv (.t 2), none⟩, 4, false),
            (⟨some 33, .bin .rem (.t 31) (.t 32), none⟩, 5, false),
            (⟨some 6, .mv (.t 30), none⟩, 6, false),
            (⟨some 7, .mv (.t 33), none⟩, 7, false)] [6, 7])
         (.ret))
        (.skip)))
     (.seq (.reg [⟨some 34, .mv (.t 2), none⟩,
         ⟨some 35, .call 125 [(.t 34)], none⟩,
         ⟨some 36, .conv .u64 (.t 35), none⟩,
         ⟨some 8, .mv (.t 36), none⟩] [0, 1, 2, 8])
      (.seq (.reg [⟨some 37, .mv (.t 2), none⟩,
          ⟨some 38, .mv (.t 8), none⟩,
          ⟨some 39, .bin .shl (.t 37) (.t 38), none⟩,
          ⟨some 2, .mv (.t 39), none⟩] [0, 1, 2, 8])
       (.seq (.reg [⟨some 40, .mv (.t 2), none⟩,
           ⟨some 41, .bin .shr (.t 40) (.k (.sc (.int .u64 32))), none⟩,
           ⟨some 9, .mv (.t 41), none⟩] [0, 1, 2, 8, 9])
        (.seq (.reg [⟨some 42, .mv (.t 2), none⟩,
            ⟨some 43, .bin .and (.t 42) (.k (.sc (.int .u64 4294967295))), none⟩,
            ⟨some 10, .mv (.t 43), none⟩] [0, 1, 2, 8, 9, 10])
         (.seq (.reg [⟨some 44, .mv (.t 0), none⟩,
             ⟨some 45, .mv (.t 8), none⟩,
             ⟨some 46, .bin .shl (.t 44) (.t 45), none⟩,
             ⟨some 47, .mv (.t 1), none⟩,
             ⟨some 48, .mv (.t 8), none⟩,
             ⟨some 49, .bin .sub (.k (.sc (.int .u64 64))) (.t 48), none⟩,
             ⟨some 50, .bin .shr (.t 47) (.t 49), none⟩,
             ⟨some 51, .bin .or (.t 46) (.t 50), none⟩,
             ⟨some 11, .mv (.t 51), none⟩] [1, 2, 8, 9, 10, 11])
          (.seq (.reg [⟨some 52, .mv (.t 1), none⟩,
              ⟨some 53, .mv (.t 8), none⟩,
              ⟨some 54, .bin .shl (.t 52) (.t 53), none⟩,
              ⟨some 12, .mv (.t 54), none⟩] [2, 8, 9, 10, 11, 12])
           (.seq (.reg [⟨some 55, .mv (.t 12), none⟩,
               ⟨some 56, .bin .shr (.t 55) (.k (.sc (.int .u64 32))), none⟩,
               ⟨some 13, .mv (.t 56), none⟩] [2, 8, 9, 10, 11, 12, 13])
            (.seq (.reg [⟨some 57, .mv (.t 12), none⟩,
                ⟨some 58, .bin .and (.t 57) (.k (.sc (.int .u64 4294967295))), none⟩,
                ⟨some 14, .mv (.t 58), none⟩] [2, 8, 9, 10, 11, 13, 14])
             (.seq (.reg [⟨some 59, .mv (.t 11), none⟩,
                 ⟨some 60, .mv (.t 9), none⟩,
                 ⟨some 61, .bin .quo (.t 59) (.t 60), none⟩,
                 ⟨some 15, .mv (.t 61), none⟩] [2, 8, 9, 10, 11, 13, 14, 15])
              (.seq (.reg [⟨some 62, .mv (.t 11), none⟩,
                  ⟨some 63, .mv (.t 15), none⟩,
                  ⟨some 64, .mv (.t 9), none⟩,
                  ⟨some 65, .bin .mul (.t 63) (.t 64), none⟩,
                  ⟨some 66, .bin .sub (.t 62) (.t 65), none⟩,
                  ⟨some 16, .mv (.t 66), none⟩] [2, 8, 9, 10, 11, 13, 14, 15, 16])
               (.seq (.block 0 (.loop [2, 8, 9, 10, 11, 13, 14, 15, 16] b102L0))
                (.seq (.reg [⟨some 86, .mv (.t 11), none⟩,
                    ⟨some 87, .bin .mul (.t 86) (.k (.sc (.int .u64 4294967296))), none⟩,
                    ⟨some 88, .mv (.t 13), none⟩,
                    ⟨some 89, .bin .add (.t 87) (.t 88), none⟩,
                    ⟨some 90, .mv (.t 15), none⟩,
                    ⟨some 91, .mv (.t 2), none⟩,
                    ⟨some 92, .bin .mul (.t 90) (.t 91), none⟩,
                    ⟨some 93, .bin .sub (.t 89) (.t 92), none⟩,
                    ⟨some 17, .mv (.t 93), none⟩] [2, 8, 9, 10, 14, 15, 17])
                 (.seq (.reg [⟨some 94, .mv (.t 17), none⟩,
                     ⟨some 95, .mv (.t 9), none⟩,
                     ⟨some 96, .bin .quo (.t 94) (.t 95), none⟩,
                     ⟨some 18, .mv (.t 96), none⟩] [2, 8, 9, 10, 14, 15, 17, 18])
                  (.seq (.reg [⟨some 97, .mv (.t 17), none⟩,
                      ⟨some 98, .mv (.t 18), none⟩,
                      ⟨some 99, .mv (.t 9), none⟩,
                      ⟨some 100, .bin .mul (.t 98) (.t 99), none⟩,
                      ⟨some 101, .bin .sub (.t 97) (.t 100), none⟩,
                      ⟨some 16, .mv (.t 101), none⟩] [2, 8, 9, 10, 14, 15, 16, 17, 18])
                   (.seq (.block 2 (.loop [2, 8, 9, 10, 14, 15, 16, 17, 18] b102L1))
                    (.seq (.reg [⟨some 121, .mv (.t 15), none⟩,
                        ⟨some 122, .bin .mul (.t 121) (.k (.sc (.int .u64 4294967296))), none⟩,
                        ⟨some 123, .mv (.t 18), none⟩,
                        ⟨some 124, .bin .add (.t 122) (.t 123), none⟩,
                        ⟨some 125, .mv (.t 17), none⟩,
                        ⟨some 126, .bin .mul (.t 125) (.k (.sc (.int .u64 4294967296))), none⟩,
                        ⟨some 127, .mv (.t 14), none⟩,
                        ⟨some 128, .bin .add (.t 126) (.t 127), none⟩,
                        ⟨some 129, .mv (.t 18), none⟩,
                        ⟨some 130, .mv (.t 2), none⟩,
                        ⟨some 131, .bin .mul (.t 129) (.t 130), none⟩,
                        ⟨some 132, .bin .sub (.t 128) (.t 131), none⟩,
                        ⟨some 133, .mv (.t 8), none⟩,
                        ⟨some 134, .bin .shr (.t 132) (.t 133), none⟩,
                        ⟨some 6, .mv (.t 124), none⟩,
                        ⟨some 7, .mv (.t 134), none⟩] [6, 7])
                     (.ret))))))))))))))))))))
def a102 : AFun := ⟨3, b102, [.t 6, .t 7]⟩

/-- math/bits.Mul64 -/
def b103 : AC :=
  .seq (.reg [⟨some 4, .mv (.k (.sc (.int .u64 0))), none⟩,
     ⟨some 5, .mv (.k (.sc (.int .u64 0))), none⟩] [0, 1])
  (.seq (.reg [⟨some 14, .mv (.t 0), none⟩,
      ⟨some 15, .bin .and (.t 14) (.k (.sc (.int .u64 4294967295))), none⟩,
      ⟨some 6, .mv (.t 15), none⟩] [0, 1, 6])
   (.seq (.reg [⟨some 16, .mv (.t 0), none⟩,
       ⟨some 17, .bin .shr (.t 16) (.k (.sc (.int .u64 32))), none⟩,
       ⟨some 7, .mv (.t 17), none⟩] [0, 1, 6, 7])
    (.seq (.reg [⟨some 18, .mv (.t 1), none⟩,
        ⟨some 19, .bin .and (.t 18) (.k (.sc (.int .u64 4294967295))), none⟩,
        ⟨some 8, .mv (.t 19), none⟩] [0, 1, 6, 7, 8])
     (.seq (.reg [⟨some 20, .mv (.t 1), none⟩,
         ⟨some 21, .bin .shr (.t 20) (.k (.sc (.int .u64 32))), none⟩,
         ⟨some 9, .mv (.t 21), none⟩] [0, 1, 6, 7, 8, 9])
      (.seq (.reg [⟨some 22, .mv (.t 6), none⟩,
          ⟨some 23, .mv (.t 8), none⟩,
          ⟨some 24, .bin .mul (.t 22) (.t 23), none⟩,
          ⟨some 10, .mv (.t 24), none⟩] [0, 1, 6, 7, 8, 9, 10])
       (.seq (.reg [⟨some 25, .mv (.t 7), none⟩,
           ⟨some 26, .mv (.t 8), none⟩,
           ⟨some 27, .bin .mul (.t 25) (.t 26), none⟩,
           ⟨some 28, .mv (.t 10), none⟩,
           ⟨some 29, .bin .shr (.t 28) (.k (.sc (.int .u64 32))), none⟩,
           ⟨some 30, .bin .add (.t 27) (.t 29), none⟩,
           ⟨some 11, .mv (.t 30), none⟩] [0, 1, 6, 7, 9, 11])
        (.seq (.reg [⟨some 31, .mv (.t 11), none⟩,
            ⟨some 32, .bin .and (.t 31) (.k (.sc (.int .u64 4294967295))), none⟩,
            ⟨some 12, .mv (.t 32), none⟩] [0, 1, 6, 7, 9, 11, 12])
         (.seq (.reg [⟨some 33, .mv (.t 11), none⟩,
             ⟨some 34, .bin .shr (.t 33) (.k (.sc (.int .u64 32))), none⟩,
             ⟨some 13, .mv (.t 34), none⟩] [0, 1, 6, 7, 9, 12, 13])
          (.seq (.reg [⟨some 35, .mv (.t 12), none⟩,
              ⟨some 36, .mv (.t 6), none⟩,
              ⟨some 37, .mv (.t 9), none⟩,
              ⟨some 38, .bin .mul (.t 36) (.t 37), none⟩,
              ⟨some 39, .bin .add (.t 35) (.t 38), none⟩,
              ⟨some 12, .mv (.t 39), none⟩] [0, 1, 7, 9, 12, 13])
           (.seq (.reg [⟨some 40, .mv (.t 7), none⟩,
               ⟨some 41, .mv (.t 9), none⟩,
               ⟨some 42, .bin .mul (.t 40) (.t 41), none⟩,
               ⟨some 43, .mv (.t 13), none⟩,
               ⟨some 44, .bin .add (.t 42) (.t 43), none⟩,
               ⟨some 45, .mv (.t 12), none⟩,
               ⟨some 46, .bin .shr (.t 45) (.k (.sc (.int .u64 32))), none⟩,
               ⟨some 47, .bin .add (.t 44) (.t 46), none⟩,
               ⟨some 4, .mv (.t 47), none⟩] [0, 1, 4])
            (.seq (.reg [⟨some 48, .mv (.t 0), none⟩,
                ⟨some 49, .mv (.t 1), none⟩,
                ⟨some 50, .bin .mul (.t 48) (.t 49), none⟩,
                ⟨some 5, .mv (.t 50), none⟩] [4, 5])
             (.ret))))))))))))
def a103 : AFun := ⟨2, b103, [.t 4, .t 5]⟩

/-- (unravel/laurent.wide).neg -/
def b104 : AC :=
  .seq (.reg [⟨some 1, .box (.t 0), none⟩,
     ⟨some 2, .new [.int .u64 0, .int .u64 0], none⟩] [1, 2])
  (.seq (.reg [⟨some 8, .fldA 1 (.t 1), none⟩,
      ⟨some 9, .ld 1 false (.t 8), none⟩,
      ⟨some 10, .car true (.k (.sc (.int .u64 0))) (.t 9) (.k (.sc (.int .u64 0))), none⟩,
      ⟨some 7, .mv (.t 10), none⟩,
      ⟨some 11, .ext (.t 7) 0, none⟩,
      ⟨some 12, .ext (.t 7) 1, none⟩,
      ⟨some 3, .mv (.t 11), none⟩,
      ⟨some 4, .mv (.t 12), none⟩] [1, 2, 3, 4])
   (.seq (.reg [⟨some 14, .fldA 0 (.t 1), none⟩,
       ⟨some 15, .ld 1 false (.t 14), none⟩,
       ⟨some 16, .mv (.t 4), none⟩,
       ⟨some 17, .car true (.k (.sc (.int .u64 0))) (.t 15) (.t 16), none⟩,
       ⟨some 13, .mv (.t 17), none⟩,
       ⟨some 18, .ext (.t 13) 0, none⟩,
       ⟨some 19, .ext (.t 13) 1, none⟩,
       ⟨some 5, .mv (.t 18), none⟩,
       ⟨some 6, .mv (.t 19), none⟩] [2, 3, 5])
    (.seq (.reg [⟨some 20, .mv (.t 5), none⟩,
        ⟨some 21, .mv (.t 3), none⟩,
        ⟨some 22, .bld [.int .u64 0, .int .u64 0] [(0, 1, .t 20), (1, 1, .t 21)], none⟩,
        ⟨none, .st 2 (.t 2) (.t 22), none⟩] [2])
     (.ret))))
def a104 : AFun := ⟨1, b104, [.cell 2 2 true]⟩

def b107L2 : AC :=
  .seq (.reg [⟨some 26, .bin .lss (.t 25) (.t 24), none⟩] [3, 6, 11, 12, 13, 17, 18, 19, 23, 24, 25, 26])
  (.seq (.cond (.t 26)
     (.skip)
     (.exit 4))
   (.seq (.block 5 (.seq (.reg [⟨some 27, .idxA 2 (.t 23) (.t 25), none⟩,
         ⟨some 28, .ld 2 true (.t 27), none⟩,
         ⟨some 10, .new [.int .i64 0, .int .i64 0], none⟩,
         ⟨none, .st 2 (.t 10) (.t 28), none⟩] [3, 6, 10, 11, 12, 13, 17, 18, 19, 23, 24, 25])
      (.reg [⟨some 29, .mv (.t 6), none⟩,
         ⟨some 30, .fldA 1 (.t 10), none⟩,
         ⟨some 31, .ld 1 false (.t 30), none⟩,
         ⟨some 32, .fldA 1 (.t 10), none⟩,
         ⟨some 33, .ld 1 false (.t 32), none⟩,
         ⟨some 34, .un .neg (.t 33), none⟩,
         ⟨some 35, .mm true (.t 31) [(.t 34)], none⟩,
         ⟨some 36, .bin .add (.t 29) (.t 35), none⟩,
         ⟨some 37, .mm false (.t 36) [(.k (.sc (.int .i64 4611686018427387904)))], none⟩,
         ⟨some 6, .mv (.t 37), none⟩] [3, 6, 11, 12, 13, 17, 18, 19, 23, 24, 25])))
    (.reg [⟨some 38, .bin .add (.t 25) (.k (.sc (.int .i64 1))), none⟩,
       ⟨some 25, .mv (.t 38), none⟩] [3, 6, 11, 12, 13, 17, 18, 19, 23, 24, 25])))
def b107L1 : AC :=
  .seq (.reg [⟨some 20, .bin .lss (.t 19) (.t 18), none⟩] [3, 6, 11, 12, 13, 17, 18, 19, 20])
  (.seq (.cond (.t 20)
     (.skip)
     (.exit 2))
   (.seq (.block 3 (.seq (.reg [⟨some 21, .idxA 1 (.t 17) (.t 19), none⟩,
         ⟨some 22, .ld 1 false (.t 21), none⟩,
         ⟨some 8, .mv (.t 22), none⟩] [3, 6, 8, 11, 12, 13, 17, 18, 19])
      (.seq (.reg [⟨some 23, .mv (.t 8), none⟩,
          ⟨some 24, .len false (.t 23), none⟩,
          ⟨some 25, .mv (.k (.sc (.int .i64 0))), none⟩] [3, 6, 11, 12, 13, 17, 18, 19, 23, 24, 25])
       (.block 4 (.loop [3, 6, 11, 12, 13, 17, 18, 19, 23, 24, 25] b107L2)))))
    (.reg [⟨some 39, .bin .add (.t 19) (.k (.sc (.int .i64 1))), none⟩,
       ⟨some 19, .mv (.t 39), none⟩] [3, 6, 11, 12, 13, 17, 18, 19])))
def b107L0 : AC :=
  .seq (.reg [⟨some 14, .bin .lss (.t 13) (.t 12), none⟩] [3, 11, 12, 13, 14])
  (.seq (.cond (.t 14)
     (.skip)
     (.exit 0))
   (.seq (.block 1 (.seq (.reg [⟨some 15, .idxA 1 (.t 11) (.t 13), none⟩,
         ⟨some 16, .ld 1 false (.t 15), none⟩,
         ⟨some 5, .mv (.t 16), none⟩] [3, 5, 11, 12, 13])
      (.seq (.reg [⟨some 6, .mv (.k (.sc (.int .i64 0))), none⟩] [3, 5, 6, 11, 12, 13])
       (.seq (.seq (.reg [⟨some 17, .mv (.t 5), none⟩,
            ⟨some 18, .len false (.t 17), none⟩,
            ⟨some 19, .mv (.k (.sc (.int .i64 0))), none⟩] [3, 6, 11, 12, 13, 17, 18, 19])
         (.block 2 (.loop [3, 6, 11, 12, 13, 17, 18, 19] b107L1)))
        (.seq (.reg [⟨some 40, .mv (.t 6), none⟩,
            ⟨some 41, .bin .eql (.t 40) (.k (.sc (.int .i64 4611686018427387904))), none⟩] [3, 6, 11, 12, 13, 41])
         (.cond (.t 41)
           (.reg [⟨some 42, .mv (.t 3), none⟩,
              ⟨some 43, .bin .add (.t 42) (.k (.sc (.int .i64 75))), none⟩,
              ⟨some 3, .mv (.t 43), none⟩] [3, 11, 12, 13])
           (.reg [⟨some 44, .mv (.t 3), none⟩,
              ⟨some 45, .mv (.t 6), none⟩,
              ⟨some 46, .conv .u64 (.t 45), none⟩,
              ⟨some 47, .call 128 [(.t 46)], none⟩,
              ⟨some 48, .bin .add (.t 44) (.t 47), none⟩,
              ⟨some 3, .mv (.t 48), none⟩] [3, 11, 12, 13])))))))
    (.reg [⟨some 49, .bin .add (.t 13) (.k (.sc (.int .i64 1))), none⟩,
       ⟨some 13, .mv (.t 49), none⟩] [3, 11, 12, 13])))
/-- unravel/polymatrix.weightBits -/
def b107 : AC :=
  .seq (.reg [⟨some 2, .mv (.k (.sc (.int .i64 0))), none⟩] [0])
  (.seq (.reg [⟨some 3, .mv (.k (.sc (.int .i64 0))), none⟩] [0, 3])
   (.seq (.seq (.reg [⟨some 11, .mv (.t 0), none⟩,
        ⟨some 12, .len false (.t 11), none⟩,
        ⟨some 13, .mv (.k (.sc (.int .i64 0))), none⟩] [3, 11, 12, 13])
     (.block 0 (.loop [3, 11, 12, 13] b107L0)))
    (.seq (.reg [⟨some 50, .mv (.t 3), none⟩,
        ⟨some 2, .mv (.t 50), none⟩] [2])
     (.ret))))
def a107 : AFun := ⟨1, b107, [.t 2]⟩

def b108L0 : AC :=
  .seq (.seq (.reg [⟨some 27, .mv (.t 7), none⟩,
      ⟨some 28, .mv (.t 2), none⟩,
      ⟨some 29, .bin .leq (.t 27) (.t 28), none⟩] [1, 2, 3, 7, 8, 29])
   (.cond (.t 29)
     (.skip)
     (.exit 0)))
  (.block 1 (.reg [⟨some 30, .mv (.t 7), none⟩,
      ⟨some 31, .bin .mul (.t 30) (.k (.sc (.int .i64 2))), none⟩,
      ⟨some 7, .mv (.t 31), none⟩] [1, 2, 3, 7, 8]))
def b108L1 : AC :=
  .seq (.seq (.reg [⟨some 32, .mv (.t 9), none⟩,
      ⟨some 33, .mv (.t 7), none⟩,
      ⟨some 34, .bin .gtr (.t 32) (.t 33), none⟩] [1, 2, 3, 7, 8, 9, 34])
   (.cond (.t 34)
     (.skip)
     (.exit 2)))
  (.seq (.block 3 (.reg [⟨some 37, .ld 2 true (.t 3), none⟩,
       ⟨some 38, .mv (.t 8), none⟩,
       ⟨some 39, .mv (.t 8), none⟩,
       ⟨some 40, .call 98 [(.t 37), (.t 38), (.t 39)], none⟩,
       ⟨some 8, .mv (.t 40), none⟩] [1, 2, 3, 7, 8, 9]))
   (.reg [⟨some 35, .mv (.t 9), none⟩,
      ⟨some 36, .bin .quo (.t 35) (.k (.sc (.int .i64 2))), none⟩,
      ⟨some 9, .mv (.t 36), none⟩] [1, 2, 3, 7, 8, 9]))
def b108L2 : AC :=
  .seq (.seq (.reg [⟨some 45, .mv (.t 11), none⟩,
      ⟨some 46, .mv (.t 7), none⟩,
      ⟨some 47, .bin .lss (.t 45) (.t 46), none⟩] [1, 2, 3, 7, 8, 10, 11, 47])
   (.cond (.t 47)
     (.skip)
     (.exit 4)))
  (.seq (.block 5 (.regd [(⟨some 50, .mv (.t 10), none⟩, 0, false),
       (⟨some 51, .mv (.t 11), none⟩, 1, false),
       (⟨some 52, .ld 2 true (.t 3), none⟩, 2, false),
       (⟨some 53, .mv (.t 10), none⟩, 3, false),
       (⟨some 54, .mv (.t 11), none⟩, 4, false),
       (⟨some 55, .bin .sub (.t 54) (.k (.sc (.int .i64 1))), none⟩, 5, false),
       (⟨some 56, .idxA 1 (.t 53) (.t 55), none⟩, 6, false),
       (⟨some 57, .ld 1 false (.t 56), none⟩, 7, false),
       (⟨some 58, .mv (.t 8), none⟩, 8, false),
       (⟨some 59, .call 98 [(.t 52), (.t 57), (.t 58)], none⟩, 9, true),
       (⟨some 60, .idxA 1 (.t 50) (.t 51), none⟩, 10, false),
       (⟨none, .st 1 (.t 60) (.t 59), none⟩, 11, true)] [1, 2, 3, 7, 8, 10, 11]))
   (.reg [⟨some 48, .mv (.t 11), none⟩,
      ⟨some 49, .bin .add (.t 48) (.k (.sc (.int .i64 1))), none⟩,
      ⟨some 11, .mv (.t 49), none⟩] [1, 2, 3, 7, 8, 10, 11]))
def b108L6 : AC :=
  .seq (.reg [⟨some 94, .bin .lss (.t 93) (.t 92), none⟩] [1, 2, 3, 7, 8, 10, 12, 13, 14, 15, 17, 64, 65, 71, 72, 73, 84, 85, 86, 91, 92, 93, 94])
  (.seq (.cond (.t 94)
     (.skip)
     (.exit 12))
   (.seq (.block 13 (.seq (.reg [⟨some 95, .idxA 2 (.t 91) (.t 93), none⟩,
         ⟨some 96, .ld 2 true (.t 95), none⟩,
         ⟨some 20, .new [.int .i64 0, .int .i64 0], none⟩,
         ⟨none, .st 2 (.t 20) (.t 96), none⟩] [1, 2, 3, 7, 8, 10, 12, 13, 14, 15, 17, 20, 64, 65, 71, 72, 73, 84, 85, 86, 91, 92, 93])
      (.seq (.reg [⟨some 97, .mv (.t 10), none⟩,
          ⟨some 98, .fldA 0 (.t 20), none⟩,
          ⟨some 99, .ld 1 false (.t 98), none⟩,
          ⟨some 100, .mv (.t 13), none⟩,
          ⟨some 101, .bin .mul (.t 99) (.t 100), none⟩,
          ⟨some 102, .mv (.t 7), none⟩,
          ⟨some 103, .bin .rem (.t 101) (.t 102), none⟩,
          ⟨some 104, .idxA 1 (.t 97) (.t 103), none⟩,
          ⟨some 105, .ld 1 false (.t 104), none⟩,
          ⟨some 21, .mv (.t 105), none⟩] [1, 2, 3, 7, 8, 10, 12, 13, 14, 15, 17, 20, 21, 64, 65, 71, 72, 73, 84, 85, 86, 91, 92, 93])
       (.regd [(⟨some 106, .mv (.t 14), none⟩, 0, false),
          (⟨some 107, .mv (.t 15), none⟩, 1, false),
          (⟨some 108, .idxA 1 (.t 106) (.t 107), none⟩, 2, false),
          (⟨some 109, .ld 1 false (.t 108), none⟩, 3, false),
          (⟨some 110, .mv (.t 17), none⟩, 4, false),
          (⟨some 111, .ld 2 true (.t 3), none⟩, 5, false),
          (⟨some 112, .mv (.t 14), none⟩, 6, false),
          (⟨some 113, .mv (.t 15), none⟩, 7, false),
          (⟨some 114, .idxA 1 (.t 112) (.t 113), none⟩, 8, false),
          (⟨some 115, .ld 1 false (.t 114), none⟩, 9, false),
          (⟨some 116, .mv (.t 17), none⟩, 10, false),
          (⟨some 117, .idxA 1 (.t 115) (.t 116), none⟩, 11, false),
          (⟨some 118, .ld 1 false (.t 117), none⟩, 12, false),
          (⟨some 119, .ld 2 true (.t 3), none⟩, 13, false),
          (⟨some 120, .ld 2 true (.t 3), none⟩, 14, false),
          (⟨some 121, .fldA 1 (.t 20), none⟩, 15, false),
          (⟨some 122, .ld 1 false (.t 121), none⟩, 16, false),
          (⟨some 123, .call 99 [(.t 120), (.t 122)], none⟩, 17, false),
          (⟨some 124, .mv (.t 21), none⟩, 18, false),
          (⟨some 125, .call 98 [(.t 119), (.t 123), (.t 124)], none⟩, 19, false),
          (⟨some 126, .call 129 [(.t 111), (.t 118), (.t 125)], none⟩, 20, false),
          (⟨some 127, .idxA 1 (.t 109) (.t 110), none⟩, 21, false),
          (⟨none, .st 1 (.t 127) (.t 126), none⟩, 22, true)] [1, 2, 3, 7, 8, 10, 12, 13, 14, 15, 17, 64, 65, 71, 72, 73, 84, 85, 86, 91, 92, 93]))))
    (.reg [⟨some 128, .bin .add (.t 93) (.k (.sc (.int .i64 1))), none⟩,
       ⟨some 93, .mv (.t 128), none⟩] [1, 2, 3, 7, 8, 10, 12, 13, 14, 15, 17, 64, 65, 71, 72, 73, 84, 85, 86, 91, 92, 93])))
def b108L5 : AC :=
  .seq (.reg [⟨some 87, .bin .lss (.t 86) (.t 85), none⟩] [1, 2, 3, 7, 8, 10, 12, 13, 14, 15, 64, 65, 71, 72, 73, 84, 85, 86, 87])
  (.seq (.cond (.t 87)
     (.skip)
     (.exit 10))
   (.seq (.block 11 (.seq (.reg [⟨some 88, .mv (.t 86), none⟩,
         ⟨some 89, .idxA 1 (.t 84) (.t 86), none⟩,
         ⟨some 90, .ld 1 false (.t 89), none⟩,
         ⟨some 17, .mv (.t 88), none⟩,
         ⟨some 18, .mv (.t 90), none⟩] [1, 2, 3, 7, 8, 10, 12, 13, 14, 15, 17, 18, 64, 65, 71, 72, 73, 84, 85, 86])
      (.seq (.reg [⟨some 91, .mv (.t 18), none⟩,
          ⟨some 92, .len false (.t 91), none⟩,
          ⟨some 93, .mv (.k (.sc (.int .i64 0))), none⟩] [1, 2, 3, 7, 8, 10, 12, 13, 14, 15, 17, 64, 65, 71, 72, 73, 84, 85, 86, 91, 92, 93])
       (.block 12 (.loop [1, 2, 3, 7, 8, 10, 12, 13, 14, 15, 17, 64, 65, 71, 72, 73, 84, 85, 86, 91, 92, 93] b108L6)))))
    (.reg [⟨some 129, .bin .add (.t 86) (.k (.sc (.int .i64 1))), none⟩,
       ⟨some 86, .mv (.t 129), none⟩] [1, 2, 3, 7, 8, 10, 12, 13, 14, 15, 64, 65, 71, 72, 73, 84, 85, 86])))
def b108L4 : AC :=
  .seq (.reg [⟨some 74, .bin .lss (.t 73) (.t 72), none⟩] [1, 2, 3, 7, 8, 10, 12, 13, 14, 64, 65, 71, 72, 73, 74])
  (.seq (.cond (.t 74)
     (.skip)
     (.exit 8))
   (.seq (.block 9 (.seq (.reg [⟨some 75, .mv (.t 73), none⟩,
         ⟨some 76, .idxA 1 (.t 71) (.t 73), none⟩,
         ⟨some 77, .ld 1 false (.t 76), none⟩,
         ⟨some 15, .mv (.t 75), none⟩,
         ⟨some 16, .mv (.t 77), none⟩] [1, 2, 3, 7, 8, 10, 12, 13, 14, 15, 16, 64, 65, 71, 72, 73])
      (.seq (.reg [⟨some 78, .mv (.t 14), none⟩,
          ⟨some 79, .mv (.t 15), none⟩,
          ⟨some 80, .mv (.t 16), none⟩,
          ⟨some 81, .len false (.t 80), none⟩,
          ⟨some 82, .mk 1 8 [.int .u64 0] (.t 81) (.t 81), none⟩,
          ⟨some 83, .idxA 1 (.t 78) (.t 79), none⟩,
          ⟨none, .st 1 (.t 83) (.t 82), none⟩] [1, 2, 3, 7, 8, 10, 12, 13, 14, 15, 16, 64, 65, 71, 72, 73])
       (.seq (.reg [⟨some 84, .mv (.t 16), none⟩,
           ⟨some 85, .len false (.t 84), none⟩,
           ⟨some 86, .mv (.k (.sc (.int .i64 0))), none⟩] [1, 2, 3, 7, 8, 10, 12, 13, 14, 15, 64, 65, 71, 72, 73, 84, 85, 86])
        (.block 10 (.loop [1, 2, 3, 7, 8, 10, 12, 13, 14, 15, 64, 65, 71, 72, 73, 84, 85, 86] b108L5))))))
    (.reg [⟨some 130, .bin .add (.t 73) (.k (.sc (.int .i64 1))), none⟩,
       ⟨some 73, .mv (.t 130), none⟩] [1, 2, 3, 7, 8, 10, 12, 13, 14, 64, 65, 71, 72, 73])))
def b108L3 : AC :=
  .seq (.reg [⟨some 66, .bin .lss (.t 65) (.t 64), none⟩] [1, 2, 3, 7, 8, 10, 12, 64, 65, 66])
  (.seq (.cond (.t 66)
     (.skip)
     (.exit 6))
   (.seq (.block 7 (.seq (.reg [⟨some 67, .mv (.t 65), none⟩,
         ⟨some 13, .mv (.t 67), none⟩] [1, 2, 3, 7, 8, 10, 12, 13, 64, 65])
      (.seq (.reg [⟨some 68, .mv (.t 1), none⟩,
          ⟨some 69, .len false (.t 68), none⟩,
          ⟨some 70, .mk 1 24 [.nilS] (.t 69) (.t 69), none⟩,
          ⟨some 14, .mv (.t 70), none⟩] [1, 2, 3, 7, 8, 10, 12, 13, 14, 64, 65])
       (.seq (.seq (.reg [⟨some 71, .mv (.t 1), none⟩,
            ⟨some 72, .len false (.t 71), none⟩,
            ⟨some 73, .mv (.k (.sc (.int .i64 0))), none⟩] [1, 2, 3, 7, 8, 10, 12, 13, 14, 64, 65, 71, 72, 73])
         (.block 8 (.loop [1, 2, 3, 7, 8, 10, 12, 13, 14, 64, 65, 71, 72, 73] b108L4)))
        (.reg [⟨some 131, .mv (.t 12), none⟩,
           ⟨some 132, .mv (.t 13), none⟩,
           ⟨some 133, .ld 2 true (.t 3), none⟩,
           ⟨some 134, .mv (.t 14), none⟩,
           ⟨some 135, .call 130 [(.t 133), (.t 134)], none⟩,
           ⟨some 136, .idxA 1 (.t 131) (.t 132), none⟩,
           ⟨none, .st 1 (.t 136) (.t 135), none⟩] [1, 2, 3, 7, 8, 10, 12, 64, 65])))))
    (.reg [⟨some 137, .bin .add (.t 65) (.k (.sc (.int .i64 1))), none⟩,
       ⟨some 65, .mv (.t 137), none⟩] [1, 2, 3, 7, 8, 10, 12, 64, 65])))
def b108L7 : AC :=
  .seq (.reg [⟨some 151, .bin .lss (.t 150) (.t 149), none⟩] [2, 3, 22, 23, 149, 150, 151])
  (.seq (.cond (.t 151)
     (.skip)
     (.exit 14))
   (.seq (.block 15 (.seq (.reg [⟨some 152, .mv (.t 150), none⟩,
         ⟨some 24, .mv (.t 152), none⟩] [2, 3, 22, 23, 24, 149, 150])
      (.regd [(⟨some 153, .mv (.t 22), none⟩, 0, false),
         (⟨some 154, .mv (.t 24), none⟩, 1, false),
         (⟨some 155, .ld 2 true (.t 3), none⟩, 2, false),
         (⟨some 156, .mv (.t 22), none⟩, 3, false),
         (⟨some 157, .mv (.t 24), none⟩, 4, false),
         (⟨some 158, .idxA 1 (.t 156) (.t 157), none⟩, 5, false),
         (⟨some 159, .ld 1 false (.t 158), none⟩, 6, false),
         (⟨some 160, .mv (.t 23), none⟩, 7, false),
         (⟨some 161, .call 98 [(.t 155), (.t 159), (.t 160)], none⟩, 8, true),
         (⟨some 162, .idxA 1 (.t 153) (.t 154), none⟩, 9, false),
         (⟨none, .st 1 (.t 162) (.t 161), none⟩, 10, true)] [2, 3, 22, 23, 149, 150])))
    (.reg [⟨some 163, .bin .add (.t 150) (.k (.sc (.int .i64 1))), none⟩,
       ⟨some 150, .mv (.t 163), none⟩] [2, 3, 22, 23, 149, 150])))
/-- (unravel/polymatrix.field).residues -/
def b108 : AC :=
  .seq (.reg [⟨some 3, .box (.t 0), none⟩,
     ⟨some 6, .mv (.k (.sc .nilS)), none⟩] [1, 2, 3])
  (.seq (.regd [(⟨some 25, .fldA 1 (.t 3), none⟩, 0, false),
      (⟨some 26, .ld 1 false (.t 25), none⟩, 1, true),
      (⟨some 7, .mv (.k (.sc (.int .i64 1))), none⟩, 2, false),
      (⟨some 8, .mv (.t 26), none⟩, 3, false)] [1, 2, 3, 7, 8])
   (.seq (.block 0 (.loop [1, 2, 3, 7, 8] b108L0))
    (.seq (.seq (.reg [⟨some 9, .mv (.k (.sc (.int .i64 131072))), none⟩] [1, 2, 3, 7, 8, 9])
      (.block 2 (.loop [1, 2, 3, 7, 8, 9] b108L1)))
     (.seq (.reg [⟨some 41, .mv (.t 7), none⟩,
         ⟨some 42, .mk 1 8 [.int .u64 0] (.t 41) (.t 41), none⟩,
         ⟨some 10, .mv (.t 42), none⟩] [1, 2, 3, 7, 8, 10])
      (.seq (.reg [⟨some 43, .mv (.t 10), none⟩,
          ⟨some 44, .idxA 1 (.t 43) (.k (.sc (.int .i64 0))), none⟩,
          ⟨none, .st 1 (.t 44) (.k (.sc (.int .u64 1))), none⟩] [1, 2, 3, 7, 8, 10])
       (.seq (.seq (.reg [⟨some 11, .mv (.k (.sc (.int .i64 1))), none⟩] [1, 2, 3, 7, 8, 10, 11])
         (.block 4 (.loop [1, 2, 3, 7, 8, 10, 11] b108L2)))
        (.seq (.reg [⟨some 61, .mv (.t 7), none⟩,
            ⟨some 62, .mk 1 8 [.int .u64 0] (.t 61) (.t 61), none⟩,
            ⟨some 12, .mv (.t 62), none⟩] [1, 2, 3, 7, 8, 10, 12])
         (.seq (.seq (.reg [⟨some 63, .mv (.t 12), none⟩,
              ⟨some 64, .len false (.t 63), none⟩,
              ⟨some 65, .mv (.k (.sc (.int .i64 0))), none⟩] [1, 2, 3, 7, 8, 10, 12, 64, 65])
           (.block 6 (.loop [1, 2, 3, 7, 8, 10, 12, 64, 65] b108L3)))
          (.seq (.regd [(⟨some 138, .ld 2 true (.t 3), none⟩, 0, false),
              (⟨some 139, .mv (.t 12), none⟩, 1, false),
              (⟨some 140, .ld 2 true (.t 3), none⟩, 2, false),
              (⟨some 141, .mv (.t 8), none⟩, 3, false),
              (⟨some 142, .call 121 [(.t 140), (.t 141)], none⟩, 4, false),
              (⟨some 143, .call 131 [(.t 138), (.t 139), (.t 142)], none⟩, 5, true),
              (⟨some 22, .mv (.t 143), none⟩, 6, false)] [2, 3, 7, 22])
           (.seq (.reg [⟨some 144, .ld 2 true (.t 3), none⟩,
               ⟨some 145, .mv (.t 7), none⟩,
               ⟨some 146, .conv .u64 (.t 145), none⟩,
               ⟨some 147, .call 121 [(.t 144), (.t 146)], none⟩,
               ⟨some 23, .mv (.t 147), none⟩] [2, 3, 22, 23])
            (.seq (.seq (.reg [⟨some 148, .mv (.t 22), none⟩,
                 ⟨some 149, .len false (.t 148), none⟩,
                 ⟨some 150, .mv (.k (.sc (.int .i64 0))), none⟩] [2, 3, 22, 23, 149, 150])
              (.block 14 (.loop [2, 3, 22, 23, 149, 150] b108L7)))
             (.seq (.reg [⟨some 164, .mv (.t 22), none⟩,
                 ⟨some 165, .mv (.t 2), none⟩,
                 ⟨some 166, .bin .add (.t 165) (.k (.sc (.int .i64 1))), none⟩,
                 ⟨some 167, .sl1 (.t 164) none (some (.t 166)), none⟩,
                 ⟨some 6, .mv (.t 167), none⟩] [6])
              (.ret)))))))))))))
def a108 : AFun := ⟨3, b108, [.t 6]⟩

/-- unravel/unravelref12.plus -/
def b111 : AC :=
  .seq (.reg [⟨some 2, .box (.t 0), none⟩,
     ⟨some 3, .box (.t 1), none⟩,
     ⟨some 4, .new [.int .i64 0, .int .i64 0], none⟩] [2, 3, 4])
  (.seq (.reg [⟨some 5, .fldA 0 (.t 2), none⟩,
      ⟨some 6, .ld 1 false (.t 5), none⟩,
      ⟨some 7, .fldA 0 (.t 3), none⟩,
      ⟨some 8, .ld 1 false (.t 7), none⟩,
      ⟨some 9, .bin .add (.t 6) (.t 8), none⟩,
      ⟨some 10, .fldA 1 (.t 2), none⟩,
      ⟨some 11, .ld 1 false (.t 10), none⟩,
      ⟨some 12, .fldA 1 (.t 3), none⟩,
      ⟨some 13, .ld 1 false (.t 12), none⟩,
      ⟨some 14, .bin .add (.t 11) (.t 13), none⟩,
      ⟨some 15, .bld [.int .i64 0, .int .i64 0] [(0, 1, .t 9), (1, 1, .t 14)], none⟩,
      ⟨some 16, .call 112 [(.t 15)], none⟩,
      ⟨none, .st 2 (.t 4) (.t 16), none⟩] [4])
   (.ret))
def a111 : AFun := ⟨2, b111, [.cell 4 2 true]⟩

def b112L0 : AC :=
  .seq (.seq (.reg [⟨some 3, .fldA 1 (.t 1), none⟩,
      ⟨some 4, .ld 1 false (.t 3), none⟩,
      ⟨some 5, .bin .lss (.t 4) (.k (.sc (.int .i64 0))), none⟩] [1, 2, 5])
   (.cond (.t 5)
     (.skip)
     (.exit 0)))
  (.block 1 (.reg [⟨some 6, .fldA 1 (.t 1), none⟩,
      ⟨some 7, .ld 1 false (.t 6), none⟩,
      ⟨some 8, .bin .add (.t 7) (.k (.sc (.int .i64 1125899906842624))), none⟩,
      ⟨some 9, .fldA 0 (.t 1), none⟩,
      ⟨some 10, .ld 1 false (.t 9), none⟩,
      ⟨some 11, .bin .sub (.t 10) (.k (.sc (.int .i64 1))), none⟩,
      ⟨some 12, .fldA 1 (.t 1), none⟩,
      ⟨none, .st 1 (.t 12) (.t 8), none⟩,
      ⟨some 13, .fldA 0 (.t 1), none⟩,
      ⟨none, .st 1 (.t 13) (.t 11), none⟩] [1, 2]))
/-- unravel/unravelref12.norm -/
def b112 : AC :=
  .seq (.reg [⟨some 1, .box (.t 0), none⟩,
     ⟨some 2, .new [.int .i64 0, .int .i64 0], none⟩] [1, 2])
  (.seq (.block 0 (.loop [1, 2] b112L0))
   (.seq (.reg [⟨some 14, .fldA 0 (.t 1), none⟩,
       ⟨some 15, .ld 1 false (.t 14), none⟩,
       ⟨some 16, .fldA 1 (.t 1), none⟩,
       ⟨some 17, .ld 1 false (.t 16), none⟩,
       ⟨some 18, .bin .quo (.t 17) (.k (.sc (.int .i64 1125899906842624))), none⟩,
       ⟨some 19, .bin .add (.t 15) (.t 18), none⟩,
       ⟨some 20, .fldA 1 (.t 1), none⟩,
       ⟨some 21, .ld 1 false (.t 20), none⟩,
       ⟨some 22, .bin .rem (.t 21) (.k (.sc (.int .i64 1125899906842624))), none⟩,
       ⟨some 23, .fldA 0 (.t 1), none⟩,
       ⟨none, .st 1 (.t 23) (.t 19), none⟩,
       ⟨some 24, .fldA 1 (.t 1), none⟩,
       ⟨none, .st 1 (.t 24) (.t 22), none⟩] [1, 2])
    (.seq (.reg [⟨some 25, .ld 2 true (.t 1), none⟩,
        ⟨none, .st 2 (.t 2) (.t 25), none⟩] [2])
     (.ret))))
def a112 : AFun := ⟨1, b112, [.cell 2 2 true]⟩

/-- unravel/unravelref12.small -/
def b113 : AC :=
  .seq (.reg [⟨some 1, .box (.t 0), none⟩,
     ⟨some 2, .mv (.k (.sc (.int .i64 0))), none⟩,
     ⟨some 3, .mv (.k (.sc (.bool false))), none⟩] [1])
  (.seq (.seq (.reg [⟨some 5, .fldA 0 (.t 1), none⟩,
       ⟨some 6, .ld 1 false (.t 5), none⟩,
       ⟨some 7, .bin .lss (.t 6) (.k (.sc (.int .i64 (-2)))), none⟩,
       ⟨some 8, .mv (.t 7), none⟩,
       ⟨some 9, .fldA 0 (.t 1), (some (8, false))⟩,
       ⟨some 10, .ld 1 false (.t 9), (some (8, false))⟩,
       ⟨some 11, .bin .gtr (.t 10) (.k (.sc (.int .i64 2))), (some (8, false))⟩,
       ⟨some 12, .pick (.t 8) (.k (.sc (.bool true))) (.t 11), none⟩] [1, 12])
    (.cond (.t 12)
      (.seq (.reg [⟨some 2, .mv (.k (.sc (.int .i64 0))), none⟩,
          ⟨some 3, .mv (.k (.sc (.bool false))), none⟩] [2, 3])
       (.ret))
      (.skip)))
   (.seq (.reg [⟨some 13, .fldA 0 (.t 1), none⟩,
       ⟨some 14, .ld 1 false (.t 13), none⟩,
       ⟨some 15, .bin .mul (.t 14) (.k (.sc (.int .i64 1125899906842624))), none⟩,
       ⟨some 16, .fldA 1 (.t 1), none⟩,
       ⟨some 17, .ld 1 false (.t 16), none⟩,
       ⟨some 18, .bin .add (.t 15) (.t 17), none⟩,
       ⟨some 4, .mv (.t 18), none⟩] [4])
    (.seq (.reg [⟨some 19, .mv (.t 4), none⟩,
        ⟨some 20, .mv (.t 4), none⟩,
        ⟨some 21, .bin .geq (.t 20) (.k (.sc (.int .i64 (-1125899906842624)))), none⟩,
        ⟨some 22, .mv (.t 21), none⟩,
        ⟨some 23, .mv (.t 4), (some (22, true))⟩,
        ⟨some 24, .bin .leq (.t 23) (.k (.sc (.int .i64 1125899906842624))), (some (22, true))⟩,
        ⟨some 25, .pick (.t 22) (.t 24) (.k (.sc (.bool false))), none⟩,
        ⟨some 2, .mv (.t 19), none⟩,
        ⟨some 3, .mv (.t 25), none⟩] [2, 3])
     (.ret))))
def a113 : AFun := ⟨1, b113, [.t 2, .t 3]⟩

/-- cmp.isNaN[int] -/
def b117 : AC :=
  .seq (.reg [⟨some 2, .mv (.k (.sc (.bool false))), none⟩] [0])
  (.seq (.reg [⟨some 3, .mv (.t 0), none⟩,
      ⟨some 4, .mv (.t 0), none⟩,
      ⟨some 5, .bin .neq (.t 3) (.t 4), none⟩,
      ⟨some 2, .mv (.t 5), none⟩] [2])
   (.ret))
def a117 : AFun := ⟨1, b117, [.t 2]⟩

def b118L1 : AC :=
  .seq (.seq (.reg [⟨some 27, .mv (.t 8), none⟩,
      ⟨some 28, .mv (.t 4), none⟩,
      ⟨some 29, .bin .lss (.t 27) (.t 28), none⟩,
      ⟨some 30, .mv (.t 29), none⟩,
      ⟨some 31, .mv (.t 7), (some (30, true))⟩,
      ⟨some 32, .mv (.t 0), (some (30, true))⟩,
      ⟨some 33, .bin .sub (.t 32) (.k (.sc (.int .u64 1))), (some (30, true))⟩,
      ⟨some 34, .bin .neq (.t 31) (.t 33), (some (30, true))⟩,
      ⟨some 35, .pick (.t 30) (.t 34) (.k (.sc (.bool false))), none⟩] [0, 3, 4, 7, 8, 14, 15, 35])
   (.cond (.t 35)
     (.skip)
     (.exit 2)))
  (.seq (.block 3 (.reg [⟨some 38, .ld 2 true (.t 3), none⟩,
       ⟨some 39, .mv (.t 7), none⟩,
       ⟨some 40, .mv (.t 7), none⟩,
       ⟨some 41, .call 98 [(.t 38), (.t 39), (.t 40)], none⟩,
       ⟨some 7, .mv (.t 41), none⟩] [0, 3, 4, 7, 8, 14, 15]))
   (.reg [⟨some 36, .mv (.t 8), none⟩,
      ⟨some 37, .bin .add (.t 36) (.k (.sc (.int .i64 1))), none⟩,
      ⟨some 8, .mv (.t 37), none⟩] [0, 3, 4, 7, 8, 14, 15]))
def b118L0 : AC :=
  .seq (.reg [⟨some 16, .bin .lss (.t 15) (.k (.sc (.int .i64 12))), none⟩] [0, 3, 4, 14, 15, 16])
  (.seq (.cond (.t 16)
     (.skip)
     (.exit 0))
   (.seq (.block 1 (.seq (.reg [⟨some 17, .idxG 12 1 false (.t 14) (.t 15), none⟩,
         ⟨some 6, .mv (.t 17), none⟩] [0, 3, 4, 6, 14, 15])
      (.seq (.regd [(⟨some 18, .ld 2 true (.t 3), none⟩, 0, true),
          (⟨some 19, .mv (.t 6), none⟩, 1, false),
          (⟨some 20, .mv (.t 0), none⟩, 2, false),
          (⟨some 21, .bin .sub (.t 20) (.k (.sc (.int .u64 1))), none⟩, 3, false),
          (⟨some 22, .mv (.t 4), none⟩, 4, false),
          (⟨some 23, .bin .shr (.t 21) (.t 22), none⟩, 5, false),
          (⟨some 24, .call 119 [(.t 18), (.t 19), (.t 23)], none⟩, 6, true),
          (⟨some 7, .mv (.t 24), none⟩, 7, false)] [0, 3, 4, 7, 14, 15])
       (.seq (.seq (.reg [⟨some 25, .mv (.t 7), none⟩,
            ⟨some 26, .bin .eql (.t 25) (.k (.sc (.int .u64 1))), none⟩] [0, 3, 4, 7, 14, 15, 26])
         (.cond (.t 26)
           (.exit 1)
           (.skip)))
        (.seq (.seq (.reg [⟨some 8, .mv (.k (.sc (.int .i64 1))), none⟩] [0, 3, 4, 7, 8, 14, 15])
          (.block 2 (.loop [0, 3, 4, 7, 8, 14, 15] b118L1)))
         (.seq (.reg [⟨some 42, .mv (.t 7), none⟩,
             ⟨some 43, .mv (.t 0), none⟩,
             ⟨some 44, .bin .sub (.t 43) (.k (.sc (.int .u64 1))), none⟩,
             ⟨some 45, .bin .neq (.t 42) (.t 44), none⟩] [0, 3, 4, 14, 15, 45])
          (.cond (.t 45)
            (.seq (.reg [⟨some 2, .mv (.k (.sc (.bool false))), none⟩] [2])
             (.ret))
            (.skip))))))))
    (.reg [⟨some 46, .bin .add (.t 15) (.k (.sc (.int .i64 1))), none⟩,
       ⟨some 15, .mv (.t 46), none⟩] [0, 3, 4, 14, 15])))
/-- unravel/polymatrix.prime -/
def b118 : AC :=
  .seq (.reg [⟨some 2, .mv (.k (.sc (.bool false))), none⟩] [0])
  (.seq (.reg [⟨some 9, .mv (.t 0), none⟩,
      ⟨some 10, .bld [.int .u64 0, .int .u64 0] [(0, 1, .t 9)], none⟩,
      ⟨some 3, .new [.int .u64 0, .int .u64 0], none⟩,
      ⟨none, .st 2 (.t 3) (.t 10), none⟩] [0, 3])
   (.seq (.reg [⟨some 11, .mv (.t 0), none⟩,
       ⟨some 12, .bin .sub (.t 11) (.k (.sc (.int .u64 1))), none⟩,
       ⟨some 13, .call 138 [(.t 12)], none⟩,
       ⟨some 4, .mv (.t 13), none⟩] [0, 3, 4])
    (.seq (.seq (.reg [⟨some 14, .bld [.int .u64 0, .int .u64 0, .int .u64 0, .int .u64 0, .int .u64 0, .int .u64 0, .int .u64 0, .int .u64 0, .int .u64 0, .int .u64 0, .int .u64 0, .int .u64 0] [(0, 1, .k (.sc (.int .u64 2))), (1, 1, .k (.sc (.int .u64 3))), (2, 1, .k (.sc (.int .u64 5))), (3, 1, .k (.sc (.int .u64 7))), (4, 1, .k (.sc (.int .u64 11))), (5, 1, .k (.sc (.int .u64 13))), (6, 1, .k (.sc (.int .u64 17))), (7, 1, .k (.sc (.int .u64 19))), (8, 1, .k (.sc (.int .u64 23))), (9, 1, .k (.sc (.int .u64 29))), (10, 1, .k (.sc (.int .u64 31))), (11, 1, .k (.sc (.int .u64 37)))], none⟩,
         ⟨some 15, .mv (.k (.sc (.int .i64 0))), none⟩] [0, 3, 4, 14, 15])
      (.block 0 (.loop [0, 3, 4, 14, 15] b118L0)))
     (.seq (.reg [⟨some 2, .mv (.k (.sc (.bool true))), none⟩] [2])
      (.ret)))))
def a118 : AFun := ⟨1, b118, [.t 2]⟩

def b119L0 : AC :=
  .seq (.seq (.reg [⟨some 8, .mv (.t 2), none⟩,
      ⟨some 9, .bin .gtr (.t 8) (.k (.sc (.int .u64 0))), none⟩] [1, 2, 3, 7, 9])
   (.cond (.t 9)
     (.skip)
     (.exit 0)))
  (.seq (.block 1 (.seq (.seq (.reg [⟨some 12, .mv (.t 2), none⟩,
         ⟨some 13, .bin .and (.t 12) (.k (.sc (.int .u64 1))), none⟩,
         ⟨some 14, .bin .eql (.t 13) (.k (.sc (.int .u64 1))), none⟩] [1, 2, 3, 7, 14])
      (.cond (.t 14)
        (.reg [⟨some 15, .ld 2 true (.t 3), none⟩,
           ⟨some 16, .mv (.t 7), none⟩,
           ⟨some 17, .mv (.t 1), none⟩,
           ⟨some 18, .call 98 [(.t 15), (.t 16), (.t 17)], none⟩,
           ⟨some 7, .mv (.t 18), none⟩] [1, 2, 3, 7])
        (.skip)))
     (.reg [⟨some 19, .ld 2 true (.t 3), none⟩,
        ⟨some 20, .mv (.t 1), none⟩,
        ⟨some 21, .mv (.t 1), none⟩,
        ⟨some 22, .call 98 [(.t 19), (.t 20), (.t 21)], none⟩,
        ⟨some 1, .mv (.t 22), none⟩] [1, 2, 3, 7])))
   (.reg [⟨some 10, .mv (.t 2), none⟩,
      ⟨some 11, .bin .shr (.t 10) (.k (.sc (.int .u64 1))), none⟩,
      ⟨some 2, .mv (.t 11), none⟩] [1, 2, 3, 7]))
/-- (unravel/polymatrix.field).power -/
def b119 : AC :=
  .seq (.reg [⟨some 3, .box (.t 0), none⟩,
     ⟨some 6, .mv (.k (.sc (.int .u64 0))), none⟩] [1, 2, 3])
  (.seq (.reg [⟨some 7, .mv (.k (.sc (.int .u64 1))), none⟩] [1, 2, 3, 7])
   (.seq (.block 0 (.loop [1, 2, 3, 7] b119L0))
    (.seq (.reg [⟨some 23, .mv (.t 7), none⟩,
        ⟨some 6, .mv (.t 23), none⟩] [6])
     (.ret))))
def a119 : AFun := ⟨3, b119, [.t 6]⟩

def b120L0 : AC :=
  .seq (.reg [⟨some 13, .bin .lss (.t 12) (.t 11), none⟩] [1, 4, 10, 11, 12, 13])
  (.seq (.cond (.t 13)
     (.skip)
     (.exit 0))
   (.seq (.block 1 (.seq (.reg [⟨some 14, .mv (.t 12), none⟩,
         ⟨some 15, .idxA 1 (.t 10) (.t 12), none⟩,
         ⟨some 16, .ld 1 false (.t 15), none⟩,
         ⟨some 5, .mv (.t 14), none⟩,
         ⟨some 6, .mv (.t 16), none⟩] [1, 4, 5, 6, 10, 11, 12])
      (.reg [⟨some 17, .mv (.t 4), none⟩,
         ⟨some 18, .mv (.t 5), none⟩,
         ⟨some 19, .ld 2 true (.t 1), none⟩,
         ⟨some 20, .mv (.t 6), none⟩,
         ⟨some 21, .call 99 [(.t 19), (.t 20)], none⟩,
         ⟨some 22, .idxA 1 (.t 17) (.t 18), none⟩,
         ⟨none, .st 1 (.t 22) (.t 21), none⟩] [1, 4, 10, 11, 12])))
    (.reg [⟨some 23, .bin .add (.t 12) (.k (.sc (.int .i64 1))), none⟩,
       ⟨some 12, .mv (.t 23), none⟩] [1, 4, 10, 11, 12])))
/-- (unravel/polymatrix.field).euclid$1 -/
def b120 : AC :=
  .seq (.reg [⟨some 3, .mv (.k (.sc .nilS)), none⟩] [0, 1])
  (.seq (.reg [⟨some 7, .mv (.t 0), none⟩,
      ⟨some 8, .len false (.t 7), none⟩,
      ⟨some 9, .mk 1 8 [.int .u64 0] (.t 8) (.t 8), none⟩,
      ⟨some 4, .mv (.t 9), none⟩] [0, 1, 4])
   (.seq (.seq (.reg [⟨some 10, .mv (.t 0), none⟩,
        ⟨some 11, .len false (.t 10), none⟩,
        ⟨some 12, .mv (.k (.sc (.int .i64 0))), none⟩] [1, 4, 10, 11, 12])
     (.block 0 (.loop [1, 4, 10, 11, 12] b120L0)))
    (.seq (.reg [⟨some 24, .mv (.t 4), none⟩,
        ⟨some 3, .mv (.t 24), none⟩] [3])
     (.ret))))
def a120 : AFun := ⟨2, b120, [.t 3]⟩

/-- (unravel/polymatrix.field).inverse -/
def b121 : AC :=
  .seq (.reg [⟨some 2, .box (.t 0), none⟩,
     ⟨some 4, .mv (.k (.sc (.int .u64 0))), none⟩] [1, 2])
  (.seq (.reg [⟨some 5, .ld 2 true (.t 2), none⟩,
      ⟨some 6, .mv (.t 1), none⟩,
      ⟨some 7, .fldA 0 (.t 2), none⟩,
      ⟨some 8, .ld 1 false (.t 7), none⟩,
      ⟨some 9, .bin .sub (.t 8) (.k (.sc (.int .u64 2))), none⟩,
      ⟨some 10, .call 119 [(.t 5), (.t 6), (.t 9)], none⟩,
      ⟨some 4, .mv (.t 10), none⟩] [4])
   (.ret))
def a121 : AFun := ⟨2, b121, [.t 4]⟩

/-- (unravel/polymatrix.field).sub -/
def b122 : AC :=
  .seq (.reg [⟨some 3, .box (.t 0), none⟩,
     ⟨some 6, .mv (.k (.sc (.int .u64 0))), none⟩] [1, 2, 3])
  (.seq (.seq (.reg [⟨some 7, .mv (.t 1), none⟩,
       ⟨some 8, .mv (.t 2), none⟩,
       ⟨some 9, .bin .lss (.t 7) (.t 8), none⟩] [1, 2, 3, 9])
    (.cond (.t 9)
      (.reg [⟨some 10, .mv (.t 1), none⟩,
         ⟨some 11, .fldA 0 (.t 3), none⟩,
         ⟨some 12, .ld 1 false (.t 11), none⟩,
         ⟨some 13, .bin .add (.t 10) (.t 12), none⟩,
         ⟨some 1, .mv (.t 13), none⟩] [1, 2])
      (.skip)))
   (.seq (.reg [⟨some 14, .mv (.t 1), none⟩,
       ⟨some 15, .mv (.t 2), none⟩,
       ⟨some 16, .bin .sub (.t 14) (.t 15), none⟩,
       ⟨some 6, .mv (.t 16), none⟩] [6])
    (.ret)))
def a122 : AFun := ⟨3, b122, [.t 6]⟩

/-- slices.Clone[[]uint64,uint64] -/
def b123 : AC :=
  .seq (.reg [⟨some 2, .mv (.k (.sc .nilS)), none⟩] [0])
  (.seq (.seq (.reg [⟨some 3, .mv (.t 0), none⟩,
       ⟨some 4, .isnil 1 false (.t 3), none⟩] [0, 4])
    (.cond (.t 4)
      (.seq (.reg [⟨some 2, .mv (.k (.sc .nilS)), none⟩] [2])
       (.ret))
      (.skip)))
   (.seq (.reg [⟨some 5, .bsl 1 [.int .u64 0] 0 [], none⟩,
       ⟨some 6, .mv (.t 0), none⟩,
       ⟨some 7, .app 1 8 [.int .u64 0] (.t 5) (.t 6), none⟩,
       ⟨some 2, .mv (.t 7), none⟩] [2])
    (.ret)))
def a123 : AFun := ⟨1, b123, [.t 2]⟩

/-- math/bits.Rem64 -/
def b124 : AC :=
  .seq (.reg [⟨some 6, .mv (.k (.sc (.int .u64 0))), none⟩] [0, 1, 2])
  (.seq (.reg [⟨some 10, .mv (.t 0), none⟩,
      ⟨some 11, .mv (.t 2), none⟩,
      ⟨some 12, .bin .rem (.t 10) (.t 11), none⟩,
      ⟨some 13, .mv (.t 1), none⟩,
      ⟨some 14, .mv (.t 2), none⟩,
      ⟨some 15, .call 102 [(.t 12), (.t 13), (.t 14)], none⟩,
      ⟨some 9, .mv (.t 15), none⟩,
      ⟨some 16, .ext (.t 9) 0, none⟩,
      ⟨some 17, .ext (.t 9) 1, none⟩,
      ⟨some 7, .mv (.t 16), none⟩,
      ⟨some 8, .mv (.t 17), none⟩] [8])
   (.seq (.reg [⟨some 18, .mv (.t 8), none⟩,
       ⟨some 6, .mv (.t 18), none⟩] [6])
    (.ret)))
def a124 : AFun := ⟨3, b124, [.t 6]⟩

/-- math/bits.LeadingZeros64 -/
def b125 : AC :=
  .seq (.reg [⟨some 2, .mv (.k (.sc (.int .i64 0))), none⟩] [0])
  (.seq (.reg [⟨some 3, .mv (.t 0), none⟩,
      ⟨some 4, .call 139 [(.t 3)], none⟩,
      ⟨some 5, .bin .sub (.k (.sc (.int .i64 64))) (.t 4), none⟩,
      ⟨some 2, .mv (.t 5), none⟩] [2])
   (.ret))
def a125 : AFun := ⟨1, b125, [.t 2]⟩

/-- math/bits.Len -/
def b128 : AC :=
  .seq (.reg [⟨some 2, .mv (.k (.sc (.int .i64 0))), none⟩] [0])
  (.seq (.cond (.k (.sc (.bool false)))
     (.seq (.reg [⟨some 3, .mv (.t 0), none⟩,
         ⟨some 4, .conv .u32 (.t 3), none⟩,
         ⟨some 5, .call 140 [(.t 4)], none⟩,
         ⟨some 2, .mv (.t 5), none⟩] [2])
      (.ret))
     (.skip))
   (.seq (.reg [⟨some 6, .mv (.t 0), none⟩,
       ⟨some 7, .call 139 [(.t 6)], none⟩,
       ⟨some 2, .mv (.t 7), none⟩] [2])
    (.ret)))
def a128 : AFun := ⟨1, b128, [.t 2]⟩

/-- (unravel/polymatrix.field).add -/
def b129 : AC :=
  .seq (.reg [⟨some 3, .box (.t 0), none⟩,
     ⟨some 6, .mv (.k (.sc (.int .u64 0))), none⟩] [1, 2, 3])
  (.seq (.seq (.reg [⟨some 7, .mv (.t 1), none⟩,
       ⟨some 8, .mv (.t 2), none⟩,
       ⟨some 9, .bin .add (.t 7) (.t 8), none⟩,
       ⟨some 1, .mv (.t 9), none⟩] [1, 3])
    (.seq (.reg [⟨some 10, .mv (.t 1), none⟩,
        ⟨some 11, .fldA 0 (.t 3), none⟩,
        ⟨some 12, .ld 1 false (.t 11), none⟩,
        ⟨some 13, .bin .geq (.t 10) (.t 12), none⟩] [1, 3, 13])
     (.cond (.t 13)
       (.reg [⟨some 14, .mv (.t 1), none⟩,
          ⟨some 15, .fldA 0 (.t 3), none⟩,
          ⟨some 16, .ld 1 false (.t 15), none⟩,
          ⟨some 17, .bin .sub (.t 14) (.t 16), none⟩,
          ⟨some 1, .mv (.t 17), none⟩] [1])
       (.skip))))
   (.seq (.reg [⟨some 18, .mv (.t 1), none⟩,
       ⟨some 6, .mv (.t 18), none⟩] [6])
    (.ret)))
def a129 : AFun := ⟨3, b129, [.t 6]⟩

def b130L1 : AC :=
  .seq (.seq (.regd [(⟨some 19, .mv (.t 7), none⟩, 0, false),
      (⟨some 20, .mv (.t 1), none⟩, 1, false),
      (⟨some 21, .len false (.t 20), none⟩, 2, false),
      (⟨some 22, .bin .lss (.t 19) (.t 21), none⟩, 3, false),
      (⟨some 23, .mv (.t 22), none⟩, 4, false),
      (⟨some 24, .mv (.t 1), (some (23, true))⟩, 5, false),
      (⟨some 25, .mv (.t 7), (some (23, true))⟩, 6, false),
      (⟨some 26, .idxA 1 (.t 24) (.t 25), (some (23, true))⟩, 7, false),
      (⟨some 27, .ld 1 false (.t 26), (some (23, true))⟩, 8, false),
      (⟨some 28, .ld 1 false (.t 6), (some (23, true))⟩, 9, false),
      (⟨some 29, .idxA 1 (.t 27) (.t 28), (some (23, true))⟩, 10, false),
      (⟨some 30, .ld 1 false (.t 29), (some (23, true))⟩, 11, true),
      (⟨some 31, .bin .eql (.t 30) (.k (.sc (.int .u64 0))), (some (23, true))⟩, 12, false),
      (⟨some 32, .pick (.t 23) (.t 31) (.k (.sc (.bool false))), none⟩, 13, false)] [1, 2, 5, 6, 7, 14, 15, 32])
   (.cond (.t 32)
     (.skip)
     (.exit 2)))
  (.block 3 (.reg [⟨some 33, .mv (.t 7), none⟩,
      ⟨some 34, .bin .add (.t 33) (.k (.sc (.int .i64 1))), none⟩,
      ⟨some 7, .mv (.t 34), none⟩] [1, 2, 5, 6, 7, 14, 15]))
def b130L2 : AC :=
  .seq (.reg [⟨some 83, .bin .lss (.t 82) (.t 81), none⟩] [1, 2, 5, 6, 9, 10, 14, 15, 80, 81, 82, 83])
  (.seq (.cond (.t 83)
     (.skip)
     (.exit 4))
   (.seq (.block 5 (.seq (.reg [⟨some 84, .idxA 1 (.t 80) (.t 82), none⟩,
         ⟨some 85, .ld 1 false (.t 84), none⟩,
         ⟨some 12, .mv (.t 85), none⟩] [1, 2, 5, 6, 9, 10, 12, 14, 15, 80, 81, 82])
      (.seq (.reg [⟨some 86, .mv (.t 12), none⟩,
          ⟨some 87, .ld 1 false (.t 6), none⟩,
          ⟨some 88, .idxA 1 (.t 86) (.t 87), none⟩,
          ⟨some 89, .ld 1 false (.t 88), none⟩,
          ⟨some 90, .bin .neq (.t 89) (.k (.sc (.int .u64 0))), none⟩] [1, 2, 5, 6, 9, 10, 12, 14, 15, 80, 81, 82, 90])
       (.cond (.t 90)
         (.regd [(⟨some 91, .mv (.t 10), none⟩, 0, false),
            (⟨some 92, .mv (.t 12), none⟩, 1, false),
            (⟨some 93, .ld 2 true (.t 2), none⟩, 2, false),
            (⟨some 94, .mv (.t 12), none⟩, 3, false),
            (⟨some 95, .ld 1 false (.t 6), none⟩, 4, false),
            (⟨some 96, .idxA 1 (.t 94) (.t 95), none⟩, 5, false),
            (⟨some 97, .ld 1 false (.t 96), none⟩, 6, false),
            (⟨some 98, .mv (.t 9), none⟩, 7, false),
            (⟨some 99, .call 98 [(.t 93), (.t 97), (.t 98)], none⟩, 8, true),
            (⟨some 100, .callv (.t 91) [(.t 92), (.t 99)], none⟩, 9, true)] [1, 2, 5, 6, 9, 10, 14, 15, 80, 81, 82])
         (.skip)))))
    (.reg [⟨some 101, .bin .add (.t 82) (.k (.sc (.int .i64 1))), none⟩,
       ⟨some 82, .mv (.t 101), none⟩] [1, 2, 5, 6, 9, 10, 14, 15, 80, 81, 82])))
def b130L0 : AC :=
  .seq (.reg [⟨some 16, .bin .lss (.t 15) (.t 14), none⟩] [1, 2, 5, 14, 15, 16])
  (.seq (.cond (.t 16)
     (.skip)
     (.exit 0))
   (.seq (.block 1 (.seq (.reg [⟨some 17, .mv (.t 15), none⟩,
         ⟨some 6, .new [.int .i64 0], none⟩,
         ⟨none, .st 1 (.t 6) (.t 17), none⟩] [1, 2, 5, 6, 14, 15])
      (.seq (.reg [⟨some 18, .ld 1 false (.t 6), none⟩,
          ⟨some 7, .mv (.t 18), none⟩] [1, 2, 5, 6, 7, 14, 15])
       (.seq (.block 2 (.loop [1, 2, 5, 6, 7, 14, 15] b130L1))
        (.seq (.seq (.reg [⟨some 35, .mv (.t 7), none⟩,
             ⟨some 36, .mv (.t 1), none⟩,
             ⟨some 37, .len false (.t 36), none⟩,
             ⟨some 38, .bin .eql (.t 35) (.t 37), none⟩] [1, 2, 5, 6, 7, 14, 15, 38])
          (.cond (.t 38)
            (.seq (.reg [⟨some 4, .mv (.k (.sc (.int .u64 0))), none⟩] [4])
             (.ret))
            (.skip)))
         (.seq (.seq (.reg [⟨some 39, .mv (.t 7), none⟩,
              ⟨some 40, .ld 1 false (.t 6), none⟩,
              ⟨some 41, .bin .neq (.t 39) (.t 40), none⟩] [1, 2, 5, 6, 7, 14, 15, 41])
           (.cond (.t 41)
             (.seq (.regs [(⟨some 42, .mv (.t 1), none⟩, 0, false),
                 (⟨some 43, .mv (.t 7), none⟩, 1, false),
                 (⟨some 44, .mv (.t 1), none⟩, 2, false),
                 (⟨some 45, .ld 1 false (.t 6), none⟩, 3, false),
                 (⟨some 46, .mv (.t 1), none⟩, 4, false),
                 (⟨some 47, .ld 1 false (.t 6), none⟩, 5, true),
                 (⟨some 48, .idxA 1 (.t 46) (.t 47), none⟩, 6, false),
                 (⟨some 49, .ld 1 false (.t 48), none⟩, 7, true),
                 (⟨some 50, .mv (.t 1), none⟩, 8, false),
                 (⟨some 51, .mv (.t 7), none⟩, 9, false),
                 (⟨some 52, .idxA 1 (.t 50) (.t 51), none⟩, 10, false),
                 (⟨some 53, .ld 1 false (.t 52), none⟩, 11, true),
                 (⟨some 54, .idxA 1 (.t 42) (.t 43), none⟩, 12, false),
                 (⟨none, .st 1 (.t 54) (.t 49), none⟩, 13, true),
                 (⟨some 55, .idxA 1 (.t 44) (.t 45), none⟩, 14, false),
                 (⟨none, .st 1 (.t 55) (.t 53), none⟩, 15, true)] [15] [1, 2, 5, 6, 14, 15])
              (.reg [⟨some 56, .ld 2 true (.t 2), none⟩,
                 ⟨some 57, .mv (.t 5), none⟩,
                 ⟨some 58, .call 122 [(.t 56), (.k (.sc (.int .u64 0))), (.t 57)], none⟩,
                 ⟨some 5, .mv (.t 58), none⟩] [1, 2, 5, 6, 14, 15]))
             (.skip)))
          (.seq (.reg [⟨some 59, .mv (.t 1), none⟩,
              ⟨some 60, .ld 1 false (.t 6), none⟩,
              ⟨some 61, .idxA 1 (.t 59) (.t 60), none⟩,
              ⟨some 62, .ld 1 false (.t 61), none⟩,
              ⟨some 8, .new [.nilS], none⟩,
              ⟨none, .st 1 (.t 8) (.t 62), none⟩] [1, 2, 5, 6, 8, 14, 15])
           (.seq (.regd [(⟨some 63, .ld 2 true (.t 2), none⟩, 0, false),
               (⟨some 64, .mv (.t 5), none⟩, 1, false),
               (⟨some 65, .ld 1 false (.t 8), none⟩, 2, false),
               (⟨some 66, .ld 1 false (.t 6), none⟩, 3, false),
               (⟨some 67, .idxA 1 (.t 65) (.t 66), none⟩, 4, false),
               (⟨some 68, .ld 1 false (.t 67), none⟩, 5, false),
               (⟨some 69, .call 98 [(.t 63), (.t 64), (.t 68)], none⟩, 6, true),
               (⟨some 5, .mv (.t 69), none⟩, 7, false)] [1, 2, 5, 6, 8, 14, 15])
            (.seq (.regd [(⟨some 70, .ld 2 true (.t 2), none⟩, 0, false),
                (⟨some 71, .ld 1 false (.t 8), none⟩, 1, false),
                (⟨some 72, .ld 1 false (.t 6), none⟩, 2, false),
                (⟨some 73, .idxA 1 (.t 71) (.t 72), none⟩, 3, false),
                (⟨some 74, .ld 1 false (.t 73), none⟩, 4, false),
                (⟨some 75, .call 121 [(.t 70), (.t 74)], none⟩, 5, true),
                (⟨some 9, .mv (.t 75), none⟩, 6, false)] [1, 2, 5, 6, 8, 9, 14, 15])
             (.seq (.reg [⟨some 76, .mkf 141 [(.t 6), (.t 8), (.t 2)], none⟩,
                 ⟨some 10, .mv (.t 76), none⟩] [1, 2, 5, 6, 9, 10, 14, 15])
              (.seq (.reg [⟨some 77, .mv (.t 1), none⟩,
                  ⟨some 78, .ld 1 false (.t 6), none⟩,
                  ⟨some 79, .bin .add (.t 78) (.k (.sc (.int .i64 1))), none⟩,
                  ⟨some 80, .sl1 (.t 77) (some (.t 79)) none, none⟩,
                  ⟨some 81, .len false (.t 80), none⟩,
                  ⟨some 82, .mv (.k (.sc (.int .i64 0))), none⟩] [1, 2, 5, 6, 9, 10, 14, 15, 80, 81, 82])
               (.block 4 (.loop [1, 2, 5, 6, 9, 10, 14, 15, 80, 81, 82] b130L2)))))))))))))
    (.reg [⟨some 102, .bin .add (.t 15) (.k (.sc (.int .i64 1))), none⟩,
       ⟨some 15, .mv (.t 102), none⟩] [1, 2, 5, 14, 15])))
/-- (unravel/polymatrix.field).det -/
def b130 : AC :=
  .seq (.reg [⟨some 2, .box (.t 0), none⟩,
     ⟨some 4, .mv (.k (.sc (.int .u64 0))), none⟩] [1, 2])
  (.seq (.reg [⟨some 5, .mv (.k (.sc (.int .u64 1))), none⟩] [1, 2, 5])
   (.seq (.seq (.reg [⟨some 13, .mv (.t 1), none⟩,
        ⟨some 14, .len false (.t 13), none⟩,
        ⟨some 15, .mv (.k (.sc (.int .i64 0))), none⟩] [1, 2, 5, 14, 15])
     (.block 0 (.loop [1, 2, 5, 14, 15] b130L0)))
    (.seq (.reg [⟨some 103, .mv (.t 5), none⟩,
        ⟨some 4, .mv (.t 103), none⟩] [4])
     (.ret))))
def a130 : AFun := ⟨2, b130, [.t 4]⟩

def b131L0 : AC :=
  .seq (.reg [⟨some 32, .bin .lss (.t 31) (.t 30), none⟩] [1, 2, 3, 7, 8, 9, 30, 31, 32])
  (.seq (.cond (.t 32)
     (.skip)
     (.exit 0))
   (.seq (.block 1 (.seq (.reg [⟨some 33, .mv (.t 31), none⟩,
         ⟨some 10, .mv (.t 33), none⟩] [1, 2, 3, 7, 8, 9, 10, 30, 31])
      (.regd [(⟨some 34, .mv (.t 8), none⟩, 0, false),
         (⟨some 35, .mv (.t 10), none⟩, 1, false),
         (⟨some 36, .mv (.t 9), none⟩, 2, false),
         (⟨some 37, .mv (.t 10), none⟩, 3, false),
         (⟨some 38, .mv (.t 1), none⟩, 4, false),
         (⟨some 39, .mv (.t 10), none⟩, 5, false),
         (⟨some 40, .bin .mul (.k (.sc (.int .i64 2))) (.t 39), none⟩, 6, false),
         (⟨some 41, .idxA 1 (.t 38) (.t 40), none⟩, 7, false),
         (⟨some 42, .ld 1 false (.t 41), none⟩, 8, false),
         (⟨some 43, .mv (.t 1), none⟩, 9, false),
         (⟨some 44, .mv (.t 10), none⟩, 10, false),
         (⟨some 45, .bin .mul (.k (.sc (.int .i64 2))) (.t 44), none⟩, 11, false),
         (⟨some 46, .bin .add (.t 45) (.k (.sc (.int .i64 1))), none⟩, 12, false),
         (⟨some 47, .idxA 1 (.t 43) (.t 46), none⟩, 13, false),
         (⟨some 48, .ld 1 false (.t 47), none⟩, 14, false),
         (⟨some 49, .idxA 1 (.t 34) (.t 35), none⟩, 15, false),
         (⟨none, .st 1 (.t 49) (.t 42), none⟩, 16, true),
         (⟨some 50, .idxA 1 (.t 36) (.t 37), none⟩, 17, false),
         (⟨none, .st 1 (.t 50) (.t 48), none⟩, 18, true)] [1, 2, 3, 7, 8, 9, 30, 31])))
    (.reg [⟨some 51, .bin .add (.t 31) (.k (.sc (.int .i64 1))), none⟩,
       ⟨some 31, .mv (.t 51), none⟩] [1, 2, 3, 7, 8, 9, 30, 31])))
def b131L1 : AC :=
  .seq (.reg [⟨some 69, .bin .lss (.t 68) (.t 67), none⟩] [2, 3, 7, 8, 9, 12, 13, 67, 68, 69])
  (.seq (.cond (.t 69)
     (.skip)
     (.exit 2))
   (.seq (.block 3 (.seq (.reg [⟨some 70, .mv (.t 68), none⟩,
         ⟨some 14, .mv (.t 70), none⟩] [2, 3, 7, 8, 9, 12, 13, 14, 67, 68])
      (.seq (.regd [(⟨some 71, .ld 2 true (.t 3), none⟩, 0, false),
          (⟨some 72, .mv (.t 13), none⟩, 1, false),
          (⟨some 73, .mv (.t 9), none⟩, 2, false),
          (⟨some 74, .mv (.t 14), none⟩, 3, false),
          (⟨some 75, .idxA 1 (.t 73) (.t 74), none⟩, 4, false),
          (⟨some 76, .ld 1 false (.t 75), none⟩, 5, false),
          (⟨some 77, .call 98 [(.t 71), (.t 72), (.t 76)], none⟩, 6, true),
          (⟨some 15, .mv (.t 77), none⟩, 7, false)] [2, 3, 7, 8, 9, 12, 13, 14, 15, 67, 68])
       (.seq (.regd [(⟨some 78, .mv (.t 12), none⟩, 0, false),
           (⟨some 79, .mv (.t 14), none⟩, 1, false),
           (⟨some 80, .mv (.t 12), none⟩, 2, false),
           (⟨some 81, .mv (.t 14), none⟩, 3, false),
           (⟨some 82, .mv (.t 7), none⟩, 4, false),
           (⟨some 83, .bin .add (.t 81) (.t 82), none⟩, 5, false),
           (⟨some 84, .ld 2 true (.t 3), none⟩, 6, false),
           (⟨some 85, .mv (.t 8), none⟩, 7, false),
           (⟨some 86, .mv (.t 14), none⟩, 8, false),
           (⟨some 87, .idxA 1 (.t 85) (.t 86), none⟩, 9, false),
           (⟨some 88, .ld 1 false (.t 87), none⟩, 10, false),
           (⟨some 89, .mv (.t 15), none⟩, 11, false),
           (⟨some 90, .call 129 [(.t 84), (.t 88), (.t 89)], none⟩, 12, false),
           (⟨some 91, .ld 2 true (.t 3), none⟩, 13, false),
           (⟨some 92, .mv (.t 8), none⟩, 14, false),
           (⟨some 93, .mv (.t 14), none⟩, 15, false),
           (⟨some 94, .idxA 1 (.t 92) (.t 93), none⟩, 16, false),
           (⟨some 95, .ld 1 false (.t 94), none⟩, 17, false),
           (⟨some 96, .mv (.t 15), none⟩, 18, false),
           (⟨some 97, .call 122 [(.t 91), (.t 95), (.t 96)], none⟩, 19, true),
           (⟨some 98, .idxA 1 (.t 78) (.t 79), none⟩, 20, false),
           (⟨none, .st 1 (.t 98) (.t 90), none⟩, 21, true),
           (⟨some 99, .idxA 1 (.t 80) (.t 83), none⟩, 22, false),
           (⟨none, .st 1 (.t 99) (.t 97), none⟩, 23, true)] [2, 3, 7, 8, 9, 12, 13, 67, 68])
        (.reg [⟨some 100, .ld 2 true (.t 3), none⟩,
           ⟨some 101, .mv (.t 13), none⟩,
           ⟨some 102, .mv (.t 2), none⟩,
           ⟨some 103, .call 98 [(.t 100), (.t 101), (.t 102)], none⟩,
           ⟨some 13, .mv (.t 103), none⟩] [2, 3, 7, 8, 9, 12, 13, 67, 68])))))
    (.reg [⟨some 104, .bin .add (.t 68) (.k (.sc (.int .i64 1))), none⟩,
       ⟨some 68, .mv (.t 104), none⟩] [2, 3, 7, 8, 9, 12, 13, 67, 68])))
/-- (unravel/polymatrix.field).transform -/
def b131 : AC :=
  .seq (.reg [⟨some 3, .box (.t 0), none⟩,
     ⟨some 6, .mv (.k (.sc .nilS)), none⟩] [1, 2, 3])
  (.seq (.seq (.reg [⟨some 16, .mv (.t 1), none⟩,
       ⟨some 17, .len false (.t 16), none⟩,
       ⟨some 18, .bin .eql (.t 17) (.k (.sc (.int .i64 1))), none⟩] [1, 2, 3, 18])
    (.cond (.t 18)
      (.seq (.reg [⟨some 19, .mv (.t 1), none⟩,
          ⟨some 20, .idxA 1 (.t 19) (.k (.sc (.int .i64 0))), none⟩,
          ⟨some 21, .ld 1 false (.t 20), none⟩,
          ⟨some 22, .bsl 1 [.int .u64 0] 1 [(0, .t 21)], none⟩,
          ⟨some 6, .mv (.t 22), none⟩] [6])
       (.ret))
      (.skip)))
   (.seq (.reg [⟨some 23, .mv (.t 1), none⟩,
       ⟨some 24, .len false (.t 23), none⟩,
       ⟨some 25, .bin .quo (.t 24) (.k (.sc (.int .i64 2))), none⟩,
       ⟨some 7, .mv (.t 25), none⟩] [1, 2, 3, 7])
    (.seq (.regd [(⟨some 26, .mv (.t 7), none⟩, 0, false),
        (⟨some 27, .mk 1 8 [.int .u64 0] (.t 26) (.t 26), none⟩, 1, false),
        (⟨some 28, .mv (.t 7), none⟩, 2, false),
        (⟨some 29, .mk 1 8 [.int .u64 0] (.t 28) (.t 28), none⟩, 3, false),
        (⟨some 8, .mv (.t 27), none⟩, 4, false),
        (⟨some 9, .mv (.t 29), none⟩, 5, false)] [1, 2, 3, 7, 8, 9])
     (.seq (.seq (.reg [⟨some 30, .mv (.t 7), none⟩,
          ⟨some 31, .mv (.k (.sc (.int .i64 0))), none⟩] [1, 2, 3, 7, 8, 9, 30, 31])
       (.block 0 (.loop [1, 2, 3, 7, 8, 9, 30, 31] b131L0)))
      (.seq (.reg [⟨some 52, .ld 2 true (.t 3), none⟩,
          ⟨some 53, .mv (.t 2), none⟩,
          ⟨some 54, .mv (.t 2), none⟩,
          ⟨some 55, .call 98 [(.t 52), (.t 53), (.t 54)], none⟩,
          ⟨some 11, .mv (.t 55), none⟩] [1, 2, 3, 7, 8, 9, 11])
       (.seq (.regd [(⟨some 56, .ld 2 true (.t 3), none⟩, 0, false),
           (⟨some 57, .mv (.t 8), none⟩, 1, false),
           (⟨some 58, .mv (.t 11), none⟩, 2, false),
           (⟨some 59, .call 131 [(.t 56), (.t 57), (.t 58)], none⟩, 3, false),
           (⟨some 60, .ld 2 true (.t 3), none⟩, 4, false),
           (⟨some 61, .mv (.t 9), none⟩, 5, false),
           (⟨some 62, .mv (.t 11), none⟩, 6, false),
           (⟨some 63, .call 131 [(.t 60), (.t 61), (.t 62)], none⟩, 7, true),
           (⟨some 8, .mv (.t 59), none⟩, 8, false),
           (⟨some 9, .mv (.t 63), none⟩, 9, false)] [1, 2, 3, 7, 8, 9])
        (.seq (.reg [⟨some 64, .mv (.t 1), none⟩,
            ⟨some 65, .len false (.t 64), none⟩,
            ⟨some 66, .mk 1 8 [.int .u64 0] (.t 65) (.t 65), none⟩,
            ⟨some 12, .mv (.t 66), none⟩] [2, 3, 7, 8, 9, 12])
         (.seq (.reg [⟨some 13, .mv (.k (.sc (.int .u64 1))), none⟩] [2, 3, 7, 8, 9, 12, 13])
          (.seq (.seq (.reg [⟨some 67, .mv (.t 7), none⟩,
               ⟨some 68, .mv (.k (.sc (.int .i64 0))), none⟩] [2, 3, 7, 8, 9, 12, 13, 67, 68])
            (.block 2 (.loop [2, 3, 7, 8, 9, 12, 13, 67, 68] b131L1)))
           (.seq (.reg [⟨some 105, .mv (.t 12), none⟩,
               ⟨some 6, .mv (.t 105), none⟩] [6])
            (.ret)))))))))))
def a131 : AFun := ⟨3, b131, [.t 6]⟩

/-- math/bits.TrailingZeros64 -/
def b138 : AC :=
  .seq (.reg [⟨some 2, .mv (.k (.sc (.int .i64 0))), none⟩] [0])
  (.seq (.seq (.reg [⟨some 3, .mv (.t 0), none⟩,
       ⟨some 4, .bin .eql (.t 3) (.k (.sc (.int .u64 0))), none⟩] [0, 4])
    (.cond (.t 4)
      (.seq (.reg [⟨some 2, .mv (.k (.sc (.int .i64 64))), none⟩] [2])
       (.ret))
      (.skip)))
   (.seq (.reg [⟨some 5, .mv (.t 0), none⟩,
       ⟨some 6, .mv (.t 0), none⟩,
       ⟨some 7, .un .neg (.t 6), none⟩,
       ⟨some 8, .bin .and (.t 5) (.t 7), none⟩,
       ⟨some 9, .bin .mul (.t 8) (.k (.sc (.int .u64 285870213051353865))), none⟩,
       ⟨some 10, .bin .shr (.t 9) (.k (.sc (.int .u64 58))), none⟩,
       ⟨some 11, .bad, none⟩,
       ⟨some 12, .ld 1 false (.t 11), none⟩,
       ⟨some 13, .conv .i64 (.t 12), none⟩,
       ⟨some 2, .mv (.t 13), none⟩] [2])
    (.ret)))
def a138 : AFun := ⟨1, b138, [.t 2]⟩

/-- math/bits.Len64 -/
def b139 : AC :=
  .seq (.reg [⟨some 2, .mv (.k (.sc (.int .i64 0))), none⟩] [0, 2])
  (.seq (.seq (.reg [⟨some 3, .mv (.t 0), none⟩,
       ⟨some 4, .bin .geq (.t 3) (.k (.sc (.int .u64 4294967296))), none⟩] [0, 2, 4])
    (.cond (.t 4)
      (.seq (.reg [⟨some 5, .mv (.t 0), none⟩,
          ⟨some 6, .bin .shr (.t 5) (.k (.sc (.int .u64 32))), none⟩,
          ⟨some 0, .mv (.t 6), none⟩] [0])
       (.reg [⟨some 2, .mv (.k (.sc (.int .i64 32))), none⟩] [0, 2]))
      (.skip)))
   (.seq (.seq (.reg [⟨some 7, .mv (.t 0), none⟩,
        ⟨some 8, .bin .geq (.t 7) (.k (.sc (.int .u64 65536))), none⟩] [0, 2, 8])
     (.cond (.t 8)
       (.seq (.reg [⟨some 9, .mv (.t 0), none⟩,
           ⟨some 10, .bin .shr (.t 9) (.k (.sc (.int .u64 16))), none⟩,
           ⟨some 0, .mv (.t 10), none⟩] [0, 2])
        (.reg [⟨some 11, .mv (.t 2), none⟩,
           ⟨some 12, .bin .add (.t 11) (.k (.sc (.int .i64 16))), none⟩,
           ⟨some 2, .mv (.t 12), none⟩] [0, 2]))
       (.skip)))
    (.seq (.seq (.reg [⟨some 13, .mv (.t 0), none⟩,
         ⟨some 14, .bin .geq (.t 13) (.k (.sc (.int .u64 256))), none⟩] [0, 2, 14])
      (.cond (.t 14)
        (.seq (.reg [⟨some 15, .mv (.t 0), none⟩,
            ⟨some 16, .bin .shr (.t 15) (.k (.sc (.int .u64 8))), none⟩,
            ⟨some 0, .mv (.t 16), none⟩] [0, 2])
         (.reg [⟨some 17, .mv (.t 2), none⟩,
            ⟨some 18, .bin .add (.t 17) (.k (.sc (.int .i64 8))), none⟩,
            ⟨some 2, .mv (.t 18), none⟩] [0, 2]))
        (.skip)))
     (.seq (.reg [⟨some 19, .mv (.t 2), none⟩,
         ⟨some 20, .mv (.t 0), none⟩,
         ⟨some 21, .conv .u8 (.t 20), none⟩,
         ⟨some 22, .idxS (.k (.sc (.str ⟨#[0, 1, 2, 2, 3, 3, 3, 3, 4, 4, 4, 4, 4, 4, 4, 4, 5, 5, 5, 5, 5, 5, 5, 5, 5, 5, 5, 5, 5, 5, 5, 5, 6, 6, 6, 6, 6, 6, 6, 6, 6, 6, 6, 6, 6, 6, 6, 6, 6, 6, 6, 6, 6, 6, 6, 6, 6, 6, 6, 6, 6, 6, 6, 6, 7, 7, 7, 7, 7, 7, 7, 7, 7, 7, 7, 7, 7, 7, 7, 7, 7, 7, 7, 7, 7, 7, 7, 7, 7, 7, 7, 7, 7, 7, 7, 7, 7, 7, 7, 7, 7, 7, 7, 7, 7, 7, 7, 7, 7, 7, 7, 7, 7, 7, 7, 7, 7, 7, 7, 7, 7, 7, 7, 7, 7, 7, 7, 7, 8, 8, 8, 8, 8, 8, 8, 8, 8, 8, 8, 8, 8, 8, 8, 8, 8, 8, 8, 8, 8, 8, 8, 8, 8, 8, 8, 8, 8, 8, 8, 8, 8, 8, 8, 8, 8, 8, 8, 8, 8, 8, 8, 8, 8, 8, 8, 8, 8, 8, 8, 8, 8, 8, 8, 8, 8, 8, 8, 8, 8, 8, 8, 8, 8, 8, 8, 8, 8, 8, 8, 8, 8, 8, 8, 8, 8, 8, 8, 8, 8, 8, 8, 8, 8, 8, 8, 8, 8, 8, 8, 8, 8, 8, 8, 8, 8, 8, 8, 8, 8, 8, 8, 8, 8, 8, 8, 8, 8, 8, 8, 8, 8, 8, 8, 8, 8, 8, 8, 8, 8, 8, 8, 8, 8, 8, 8, 8]⟩))) (.t 21), none⟩,
         ⟨some 23, .conv .i64 (.t 22), none⟩,
         ⟨some 24, .bin .add (.t 19) (.t 23), none⟩,
         ⟨some 2, .mv (.t 24), none⟩] [2])
      (.ret)))))
def a139 : AFun := ⟨1, b139, [.t 2]⟩

def b141L0 : AC :=
  .seq (.seq (.reg [⟨some 10, .mv (.t 7), none⟩,
      ⟨some 11, .mv (.t 0), none⟩,
      ⟨some 12, .len false (.t 11), none⟩,
      ⟨some 13, .bin .lss (.t 10) (.t 12), none⟩] [0, 1, 3, 4, 7, 13])
   (.cond (.t 13)
     (.skip)
     (.exit 0)))
  (.seq (.block 1 (.seq (.reg [⟨some 16, .ld 1 false (.t 3), none⟩,
        ⟨some 17, .mv (.t 7), none⟩,
        ⟨some 18, .idxA 1 (.t 16) (.t 17), none⟩,
        ⟨some 19, .ld 1 false (.t 18), none⟩,
        ⟨some 20, .bin .neq (.t 19) (.k (.sc (.int .u64 0))), none⟩] [0, 1, 3, 4, 7, 20])
     (.cond (.t 20)
       (.regd [(⟨some 21, .mv (.t 0), none⟩, 0, false),
          (⟨some 22, .mv (.t 7), none⟩, 1, false),
          (⟨some 23, .ld 2 true (.t 4), none⟩, 2, false),
          (⟨some 24, .mv (.t 0), none⟩, 3, false),
          (⟨some 25, .mv (.t 7), none⟩, 4, false),
          (⟨some 26, .idxA 1 (.t 24) (.t 25), none⟩, 5, false),
          (⟨some 27, .ld 1 false (.t 26), none⟩, 6, false),
          (⟨some 28, .ld 2 true (.t 4), none⟩, 7, false),
          (⟨some 29, .mv (.t 1), none⟩, 8, false),
          (⟨some 30, .ld 1 false (.t 3), none⟩, 9, false),
          (⟨some 31, .mv (.t 7), none⟩, 10, false),
          (⟨some 32, .idxA 1 (.t 30) (.t 31), none⟩, 11, false),
          (⟨some 33, .ld 1 false (.t 32), none⟩, 12, false),
          (⟨some 34, .call 98 [(.t 28), (.t 29), (.t 33)], none⟩, 13, false),
          (⟨some 35, .call 122 [(.t 23), (.t 27), (.t 34)], none⟩, 14, true),
          (⟨some 36, .idxA 1 (.t 21) (.t 22), none⟩, 15, false),
          (⟨none, .st 1 (.t 36) (.t 35), none⟩, 16, true)] [0, 1, 3, 4, 7])
       (.skip))))
   (.reg [⟨some 14, .mv (.t 7), none⟩,
      ⟨some 15, .bin .add (.t 14) (.k (.sc (.int .i64 1))), none⟩,
      ⟨some 7, .mv (.t 15), none⟩] [0, 1, 3, 4, 7]))
/-- (unravel/polymatrix.field).det$1 -/
def b141 : AC :=
  .seq (.reg [⟨some 8, .ld 1 false (.t 2), none⟩,
     ⟨some 9, .bin .add (.t 8) (.k (.sc (.int .i64 1))), none⟩,
     ⟨some 7, .mv (.t 9), none⟩] [0, 1, 3, 4, 7])
  (.block 0 (.loop [0, 1, 3, 4, 7] b141L0))
def a141 : AFun := ⟨5, b141, []⟩

def FT : FuncId → Option AFun
  | 6 => some a6
  | 9 => some a9
  | 11 => some a11
  | 12 => some a12
  | 14 => some a14
  | 15 => some a15
  | 16 => some a16
  | 20 => some a20
  | 21 => some a21
  | 23 => some a23
  | 24 => some a24
  | 25 => some a25
  | 26 => some a26
  | 27 => some a27
  | 28 => some a28
  | 29 => some a29
  | 30 => some a30
  | 35 => some a35
  | 36 => some a36
  | 37 => some a37
  | 38 => some a38
  | 39 => some a39
  | 40 => some a40
  | 41 => some a41
  | 42 => some a42
  | 44 => some a44
  | 45 => some a45
  | 46 => some a46
  | 48 => some a48
  | 50 => some a50
  | 51 => some a51
  | 52 => some a52
  | 53 => some a53
  | 54 => some a54
  | 58 => some a58
  | 60 => some a60
  | 61 => some a61
  | 62 => some a62
  | 63 => some a63
  | 64 => some a64
  | 65 => some a65
  | 66 => some a66
  | 67 => some a67
  | 68 => some a68
  | 69 => some a69
  | 71 => some a71
  | 72 => some a72
  | 73 => some a73
  | 74 => some a74
  | 75 => some a75
  | 77 => some a77
  | 80 => some a80
  | 81 => some a81
  | 82 => some a82
  | 83 => some a83
  | 88 => some a88
  | 89 => some a89
  | 90 => some a90
  | 91 => some a91
  | 92 => some a92
  | 93 => some a93
  | 94 => some a94
  | 95 => some a95
  | 96 => some a96
  | 97 => some a97
  | 98 => some a98
  | 99 => some a99
  | 100 => some a100
  | 101 => some a101
  | 102 => some a102
  | 103 => some a103
  | 104 => some a104
  | 107 => some a107
  | 108 => some a108
  | 111 => some a111
  | 112 => some a112
  | 113 => some a113
  | 117 => some a117
  | 118 => some a118
  | 119 => some a119
  | 120 => some a120
  | 121 => some a121
  | 122 => some a122
  | 123 => some a123
  | 124 => some a124
  | 125 => some a125
  | 128 => some a128
  | 129 => some a129
  | 130 => some a130
  | 131 => some a131
  | 138 => some a138
  | 139 => some a139
  | 141 => some a141
  | _ => none

theorem ok6 : okFun Tryz.prog a6 Tryz.f6 = true := by kernel_rfl
theorem ok9 : okFun Tryz.prog a9 Tryz.f9 = true := by kernel_rfl
theorem ok11 : okFun Tryz.prog a11 Tryz.f11 = true := by kernel_rfl
theorem ok12 : okFun Tryz.prog a12 Tryz.f12 = true := by kernel_rfl
theorem ok14 : okFun Tryz.prog a14 Tryz.f14 = true := by kernel_rfl
theorem ok15 : okFun Tryz.prog a15 Tryz.f15 = true := by kernel_rfl
theorem ok16 : okFun Tryz.prog a16 Tryz.f16 = true := by kernel_rfl
theorem ok20 : okFun Tryz.prog a20 Tryz.f20 = true := by kernel_rfl
theorem ok21 : okFun Tryz.prog a21 Tryz.f21 = true := by kernel_rfl
theorem ok23 : okFun Tryz.prog a23 Tryz.f23 = true := by kernel_rfl
theorem ok24 : okFun Tryz.prog a24 Tryz.f24 = true := by kernel_rfl
theorem ok25 : okFun Tryz.prog a25 Tryz.f25 = true := by kernel_rfl
theorem ok26 : okFun Tryz.prog a26 Tryz.f26 = true := by kernel_rfl
theorem ok27 : okFun Tryz.prog a27 Tryz.f27 = true := by kernel_rfl
theorem ok28 : okFun Tryz.prog a28 Tryz.f28 = true := by kernel_rfl
theorem ok29 : okFun Tryz.prog a29 Tryz.f29 = true := by kernel_rfl
theorem ok30 : okFun Tryz.prog a30 Tryz.f30 = true := by kernel_rfl
theorem ok35 : okFun Tryz.prog a35 Tryz.f35 = true := by kernel_rfl
theorem ok36 : okFun Tryz.prog a36 Tryz.f36 = true := by kernel_rfl
theorem ok37 : okFun Tryz.prog a37 Tryz.f37 = true := by kernel_rfl
theorem ok38 : okFun Tryz.prog a38 Tryz.f38 = true := by kernel_rfl
theorem ok39 : okFun Tryz.prog a39 Tryz.f39 = true := by kernel_rfl
theorem ok40 : okFun Tryz.prog a40 Tryz.f40 = true := by kernel_rfl
theorem ok41 : okFun Tryz.prog a41 Tryz.f41 = true := by kernel_rfl
theorem ok42 : okFun Tryz.prog a42 Tryz.f42 = true := by kernel_rfl
theorem ok44 : okFun Tryz.prog a44 Tryz.f44 = true := by kernel_rfl
theorem ok45 : okFun Tryz.prog a45 Tryz.f45 = true := by kernel_rfl
theorem ok46 : okFun Tryz.prog a46 Tryz.f46 = true := by kernel_rfl
theorem ok48 : okFun Tryz.prog a48 Tryz.f48 = true := by kernel_rfl
theorem ok50 : okFun Tryz.prog a50 Tryz.f50 = true := by kernel_rfl
theorem ok51 : okFun Tryz.prog a51 Tryz.f51 = true := by kernel_rfl
theorem ok52 : okFun Tryz.prog a52 Tryz.f52 = true := by kernel_rfl
theorem ok53 : okFun Tryz.prog a53 Tryz.f53 = true := by kernel_rfl
theorem ok54 : okFun Tryz.prog a54 Tryz.f54 = true := by kernel_rfl
theorem ok58 : okFun Tryz.prog a58 Tryz.f58 = true := by kernel_rfl
theorem ok60 : okFun Tryz.prog a60 Tryz.f60 = true := by kernel_rfl
theorem ok61 : okFun Tryz.prog a61 Tryz.f61 = true := by kernel_rfl
theorem ok62 : okFun Tryz.prog a62 Tryz.f62 = true := by kernel_rfl
theorem ok63 : okFun Tryz.prog a63 Tryz.f63 = true := by kernel_rfl
theorem ok64 : okFun Tryz.prog a64 Tryz.f64 = true := by kernel_rfl
theorem ok65 : okFun Tryz.prog a65 Tryz.f65 = true := by kernel_rfl
theorem ok66 : okFun Tryz.prog a66 Tryz.f66 = true := by kernel_rfl
theorem ok67 : okFun Tryz.prog a67 Tryz.f67 = true := by kernel_rfl
theorem ok68 : okFun Tryz.prog a68 Tryz.f68 = true := by kernel_rfl
theorem ok69 : okFun Tryz.prog a69 Tryz.f69 = true := by kernel_rfl
theorem ok71 : okFun Tryz.prog a71 Tryz.f71 = true := by kernel_rfl
theorem ok72 : okFun Tryz.prog a72 Tryz.f72 = true := by kernel_rfl
theorem ok73 : okFun Tryz.prog a73 Tryz.f73 = true := by kernel_rfl
theorem ok74 : okFun Tryz.prog a74 Tryz.f74 = true := by kernel_rfl
theorem ok75 : okFun Tryz.prog a75 Tryz.f75 = true := by kernel_rfl
theorem ok77 : okFun Tryz.prog a77 Tryz.f77 = true := by kernel_rfl
theorem ok80 : okFun Tryz.prog a80 Tryz.f80 = true := by kernel_rfl
theorem ok81 : okFun Tryz.prog a81 Tryz.f81 = true := by kernel_rfl
theorem ok82 : okFun Tryz.prog a82 Tryz.f82 = true := by kernel_rfl
theorem ok83 : okFun Tryz.prog a83 Tryz.f83 = true := by kernel_rfl
theorem ok88 : okFun Tryz.prog a88 Tryz.f88 = true := by kernel_rfl
theorem ok89 : okFun Tryz.prog a89 Tryz.f89 = true := by kernel_rfl
theorem ok90 : okFun Tryz.prog a90 Tryz.f90 = true := by kernel_rfl
theorem ok91 : okFun Tryz.prog a91 Tryz.f91 = true := by kernel_rfl
theorem ok92 : okFun Tryz.prog a92 Tryz.f92 = true := by kernel_rfl
theorem ok93 : okFun Tryz.prog a93 Tryz.f93 = true := by kernel_rfl
theorem ok94 : okFun Tryz.prog a94 Tryz.f94 = true := by kernel_rfl
theorem ok95 : okFun Tryz.prog a95 Tryz.f95 = true := by kernel_rfl
theorem ok96 : okFun Tryz.prog a96 Tryz.f96 = true := by kernel_rfl
theorem ok97 : okFun Tryz.prog a97 Tryz.f97 = true := by kernel_rfl
theorem ok98 : okFun Tryz.prog a98 Tryz.f98 = true := by kernel_rfl
theorem ok99 : okFun Tryz.prog a99 Tryz.f99 = true := by kernel_rfl
theorem ok100 : okFun Tryz.prog a100 Tryz.f100 = true := by kernel_rfl
theorem ok101 : okFun Tryz.prog a101 Tryz.f101 = true := by kernel_rfl
theorem ok102 : okFun Tryz.prog a102 Tryz.f102 = true := by kernel_rfl
theorem ok103 : okFun Tryz.prog a103 Tryz.f103 = true := by kernel_rfl
theorem ok104 : okFun Tryz.prog a104 Tryz.f104 = true := by kernel_rfl
theorem ok107 : okFun Tryz.prog a107 Tryz.f107 = true := by kernel_rfl
theorem ok108 : okFun Tryz.prog a108 Tryz.f108 = true := by kernel_rfl
theorem ok111 : okFun Tryz.prog a111 Tryz.f111 = true := by kernel_rfl
theorem ok112 : okFun Tryz.prog a112 Tryz.f112 = true := by kernel_rfl
theorem ok113 : okFun Tryz.prog a113 Tryz.f113 = true := by kernel_rfl
theorem ok117 : okFun Tryz.prog a117 Tryz.f117 = true := by kernel_rfl
theorem ok118 : okFun Tryz.prog a118 Tryz.f118 = true := by kernel_rfl
theorem ok119 : okFun Tryz.prog a119 Tryz.f119 = true := by kernel_rfl
theorem ok120 : okFun Tryz.prog a120 Tryz.f120 = true := by kernel_rfl
theorem ok121 : okFun Tryz.prog a121 Tryz.f121 = true := by kernel_rfl
theorem ok122 : okFun Tryz.prog a122 Tryz.f122 = true := by kernel_rfl
theorem ok123 : okFun Tryz.prog a123 Tryz.f123 = true := by kernel_rfl
theorem ok124 : okFun Tryz.prog a124 Tryz.f124 = true := by kernel_rfl
theorem ok125 : okFun Tryz.prog a125 Tryz.f125 = true := by kernel_rfl
theorem ok128 : okFun Tryz.prog a128 Tryz.f128 = true := by kernel_rfl
theorem ok129 : okFun Tryz.prog a129 Tryz.f129 = true := by kernel_rfl
theorem ok130 : okFun Tryz.prog a130 Tryz.f130 = true := by kernel_rfl
theorem ok131 : okFun Tryz.prog a131 Tryz.f131 = true := by kernel_rfl
theorem ok138 : okFun Tryz.prog a138 Tryz.f138 = true := by kernel_rfl
theorem ok139 : okFun Tryz.prog a139 Tryz.f139 = true := by kernel_rfl
theorem ok141 : okFun Tryz.prog a141 Tryz.f141 = true := by kernel_rfl
theorem mixed : Tryz.prog.follows .mixedOrders = true := by kernel_rfl
theorem ft_ok : FTok Tryz.prog FT := by
  refine ⟨mixed, fun f F h => ?_⟩
  unfold FT at h
  split at h
  · simp at h; subst h; exact ⟨_, Tryz.func6, ok6⟩
  · simp at h; subst h; exact ⟨_, Tryz.func9, ok9⟩
  · simp at h; subst h; exact ⟨_, Tryz.func11, ok11⟩
  · simp at h; subst h; exact ⟨_, Tryz.func12, ok12⟩
  · simp at h; subst h; exact ⟨_, Tryz.func14, ok14⟩
  · simp at h; subst h; exact ⟨_, Tryz.func15, ok15⟩
  · simp at h; subst h; exact ⟨_, Tryz.func16, ok16⟩
  · simp at h; subst h; exact ⟨_, Tryz.func20, ok20⟩
  · simp at h; subst h; exact ⟨_, Tryz.func21, ok21⟩
  · simp at h; subst h; exact ⟨_, Tryz.func23, ok23⟩
  · simp at h; subst h; exact ⟨_, Tryz.func24, ok24⟩
  · simp at h; subst h; exact ⟨_, Tryz.func25, ok25⟩
  · simp at h; subst h; exact ⟨_, Tryz.func26, ok26⟩
  · simp at h; subst h; exact ⟨_, Tryz.func27, ok27⟩
  · simp at h; subst h; exact ⟨_, Tryz.func28, ok28⟩
  · simp at h; subst h; exact ⟨_, Tryz.func29, ok29⟩
  · simp at h; subst h; exact ⟨_, Tryz.func30, ok30⟩
  · simp at h; subst h; exact ⟨_, Tryz.func35, ok35⟩
  · simp at h; subst h; exact ⟨_, Tryz.func36, ok36⟩
  · simp at h; subst h; exact ⟨_, Tryz.func37, ok37⟩
  · simp at h; subst h; exact ⟨_, Tryz.func38, ok38⟩
  · simp at h; subst h; exact ⟨_, Tryz.func39, ok39⟩
  · simp at h; subst h; exact ⟨_, Tryz.func40, ok40⟩
  · simp at h; subst h; exact ⟨_, Tryz.func41, ok41⟩
  · simp at h; subst h; exact ⟨_, Tryz.func42, ok42⟩
  · simp at h; subst h; exact ⟨_, Tryz.func44, ok44⟩
  · simp at h; subst h; exact ⟨_, Tryz.func45, ok45⟩
  · simp at h; subst h; exact ⟨_, Tryz.func46, ok46⟩
  · simp at h; subst h; exact ⟨_, Tryz.func48, ok48⟩
  · simp at h; subst h; exact ⟨_, Tryz.func50, ok50⟩
  · simp at h; subst h; exact ⟨_, Tryz.func51, ok51⟩
  · simp at h; subst h; exact ⟨_, Tryz.func52, ok52⟩
  · simp at h; subst h; exact ⟨_, Tryz.func53, ok53⟩
  · simp at h; subst h; exact ⟨_, Tryz.func54, ok54⟩
  · simp at h; subst h; exact ⟨_, Tryz.func58, ok58⟩
  · simp at h; subst h; exact ⟨_, Tryz.func60, ok60⟩
  · simp at h; subst h; exact ⟨_, Tryz.func61, ok61⟩
  · simp at h; subst h; exact ⟨_, Tryz.func62, ok62⟩
  · simp at h; subst h; exact ⟨_, Tryz.func63, ok63⟩
  · simp at h; subst h; exact ⟨_, Tryz.func64, ok64⟩
  · simp at h; subst h; exact ⟨_, Tryz.func65, ok65⟩
  · simp at h; subst h; exact ⟨_, Tryz.func66, ok66⟩
  · simp at h; subst h; exact ⟨_, Tryz.func67, ok67⟩
  · simp at h; subst h; exact ⟨_, Tryz.func68, ok68⟩
  · simp at h; subst h; exact ⟨_, Tryz.func69, ok69⟩
  · simp at h; subst h; exact ⟨_, Tryz.func71, ok71⟩
  · simp at h; subst h; exact ⟨_, Tryz.func72, ok72⟩
  · simp at h; subst h; exact ⟨_, Tryz.func73, ok73⟩
  · simp at h; subst h; exact ⟨_, Tryz.func74, ok74⟩
  · simp at h; subst h; exact ⟨_, Tryz.func75, ok75⟩
  · simp at h; subst h; exact ⟨_, Tryz.func77, ok77⟩
  · simp at h; subst h; exact ⟨_, Tryz.func80, ok80⟩
  · simp at h; subst h; exact ⟨_, Tryz.func81, ok81⟩
  · simp at h; subst h; exact ⟨_, Tryz.func82, ok82⟩
  · simp at h; subst h; exact ⟨_, Tryz.func83, ok83⟩
  · simp at h; subst h; exact ⟨_, Tryz.func88, ok88⟩
  · simp at h; subst h; exact ⟨_, Tryz.func89, ok89⟩
  · simp at h; subst h; exact ⟨_, Tryz.func90, ok90⟩
  · simp at h; subst h; exact ⟨_, Tryz.func91, ok91⟩
  · simp at h; subst h; exact ⟨_, Tryz.func92, ok92⟩
  · simp at h; subst h; exact ⟨_, Tryz.func93, ok93⟩
  · simp at h; subst h; exact ⟨_, Tryz.func94, ok94⟩
  · simp at h; subst h; exact ⟨_, Tryz.func95, ok95⟩
  · simp at h; subst h; exact ⟨_, Tryz.func96, ok96⟩
  · simp at h; subst h; exact ⟨_, Tryz.func97, ok97⟩
  · simp at h; subst h; exact ⟨_, Tryz.func98, ok98⟩
  · simp at h; subst h; exact ⟨_, Tryz.func99, ok99⟩
  · simp at h; subst h; exact ⟨_, Tryz.func100, ok100⟩
  · simp at h; subst h; exact ⟨_, Tryz.func101, ok101⟩
  · simp at h; subst h; exact ⟨_, Tryz.func102, ok102⟩
  · simp at h; subst h; exact ⟨_, Tryz.func103, ok103⟩
  · simp at h; subst h; exact ⟨_, Tryz.func104, ok104⟩
  · simp at h; subst h; exact ⟨_, Tryz.func107, ok107⟩
  · simp at h; subst h; exact ⟨_, Tryz.func108, ok108⟩
  · simp at h; subst h; exact ⟨_, Tryz.func111, ok111⟩
  · simp at h; subst h; exact ⟨_, Tryz.func112, ok112⟩
  · simp at h; subst h; exact ⟨_, Tryz.func113, ok113⟩
  · simp at h; subst h; exact ⟨_, Tryz.func117, ok117⟩
  · simp at h; subst h; exact ⟨_, Tryz.func118, ok118⟩
  · simp at h; subst h; exact ⟨_, Tryz.func119, ok119⟩
  · simp at h; subst h; exact ⟨_, Tryz.func120, ok120⟩
  · simp at h; subst h; exact ⟨_, Tryz.func121, ok121⟩
  · simp at h; subst h; exact ⟨_, Tryz.func122, ok122⟩
  · simp at h; subst h; exact ⟨_, Tryz.func123, ok123⟩
  · simp at h; subst h; exact ⟨_, Tryz.func124, ok124⟩
  · simp at h; subst h; exact ⟨_, Tryz.func125, ok125⟩
  · simp at h; subst h; exact ⟨_, Tryz.func128, ok128⟩
  · simp at h; subst h; exact ⟨_, Tryz.func129, ok129⟩
  · simp at h; subst h; exact ⟨_, Tryz.func130, ok130⟩
  · simp at h; subst h; exact ⟨_, Tryz.func131, ok131⟩
  · simp at h; subst h; exact ⟨_, Tryz.func138, ok138⟩
  · simp at h; subst h; exact ⟨_, Tryz.func139, ok139⟩
  · simp at h; subst h; exact ⟨_, Tryz.func141, ok141⟩
  · simp at h
end Go.Proofs.YtofknpknogfijaaGreatDoor
