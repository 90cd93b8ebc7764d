/- The annotated code of this seat, printed by program (mkseat.py). -/
import Derived.Test.YtlnjddjobbhcaaaDoorProg
import Derived.KernelRfl
import Derived.Test.YtlnjddjobbhcaaaDoorAb17
namespace Go.Proofs.YtlnjddjobbhcaaaDoor
open Go.Ab

def b4L0 : AC :=
  .seq (.seq (.reg [⟨some 60, .mv (.t 12), none⟩,
      ⟨some 61, .mv (.t 11), none⟩,
      ⟨some 62, .len false (.t 61), none⟩,
      ⟨some 63, .bin .lss (.t 60) (.t 62), none⟩] [0, 1, 2, 3, 9, 10, 11, 12, 63])
   (.cond (.t 63)
     (.skip)
     (.exit 0)))
  (.seq (.block 1 (.seq (.reg [⟨some 66, .mv (.t 11), none⟩,
        ⟨some 67, .mv (.t 12), none⟩,
        ⟨some 68, .idxA 1 (.t 66) (.t 67), none⟩,
        ⟨some 69, .ld 1 false (.t 68), none⟩,
        ⟨some 70, .bin .gtr (.t 69) (.k (.sc (.int .i64 1000))), none⟩,
        ⟨some 71, .mv (.t 70), none⟩,
        ⟨some 72, .mv (.t 11), (some (71, false))⟩,
        ⟨some 73, .mv (.t 12), (some (71, false))⟩,
        ⟨some 74, .idxA 1 (.t 72) (.t 73), (some (71, false))⟩,
        ⟨some 75, .ld 1 false (.t 74), (some (71, false))⟩,
        ⟨some 76, .bin .lss (.t 75) (.k (.sc (.int .i64 (-1000)))), (some (71, false))⟩,
        ⟨some 77, .pick (.t 71) (.k (.sc (.bool true))) (.t 76), none⟩] [0, 1, 2, 3, 9, 10, 11, 12, 77])
     (.cond (.t 77)
       (.seq (.reg [⟨some 8, .mv (.k (.sc (.bool true))), none⟩] [8])
        (.ret))
       (.skip))))
   (.reg [⟨some 64, .mv (.t 12), none⟩,
      ⟨some 65, .bin .add (.t 64) (.k (.sc (.int .i64 1))), none⟩,
      ⟨some 12, .mv (.t 65), none⟩] [0, 1, 2, 3, 9, 10, 11, 12]))
/-- unravel/unravellaw12.LaurentExact -/
def b4 : AC :=
  .seq (.reg [⟨some 8, .mv (.k (.sc (.bool false))), none⟩] [0, 1, 2, 3])
  (.seq (.seq (.reg [⟨some 17, .call 10 [], none⟩,
       ⟨some 18, .un .not (.t 17), none⟩] [0, 1, 2, 3, 18])
    (.cond (.t 18)
      (.seq (.reg [⟨some 8, .mv (.k (.sc (.bool false))), none⟩] [8])
       (.ret))
      (.skip)))
   (.seq (.seq (.reg [⟨some 19, .mv (.t 0), none⟩,
        ⟨some 20, .mv (.t 1), none⟩,
        ⟨some 21, .call 11 [(.t 19), (.t 20)], none⟩,
        ⟨some 22, .bin .eql (.t 21) (.k (.sc (.int .i64 0))), none⟩,
        ⟨some 23, .mv (.t 22), none⟩,
        ⟨some 24, .mv (.t 2), (some (23, false))⟩,
        ⟨some 25, .mv (.t 3), (some (23, false))⟩,
        ⟨some 26, .call 11 [(.t 24), (.t 25)], (some (23, false))⟩,
        ⟨some 27, .bin .eql (.t 26) (.k (.sc (.int .i64 0))), (some (23, false))⟩,
        ⟨some 28, .pick (.t 23) (.k (.sc (.bool true))) (.t 27), none⟩] [0, 1, 2, 3, 28])
     (.cond (.t 28)
       (.seq (.reg [⟨some 8, .mv (.k (.sc (.bool true))), none⟩] [8])
        (.ret))
       (.skip)))
    (.seq (.reg [⟨some 29, .mv (.t 0), none⟩,
        ⟨some 30, .mv (.t 1), none⟩,
        ⟨some 31, .call 18 [(.t 29), (.t 30)], none⟩,
        ⟨some 32, .mv (.t 2), none⟩,
        ⟨some 33, .mv (.t 3), none⟩,
        ⟨some 34, .call 18 [(.t 32), (.t 33)], none⟩,
        ⟨some 9, .new [.nilS, .bool false], none⟩,
        ⟨some 10, .new [.nilS, .bool false], none⟩,
        ⟨none, .st 2 (.t 9) (.t 31), none⟩,
        ⟨none, .st 2 (.t 10) (.t 34), none⟩] [0, 1, 2, 3, 9, 10])
     (.seq (.seq (.reg [⟨some 35, .fldA 1 (.t 9), none⟩,
          ⟨some 36, .ld 1 false (.t 35), none⟩,
          ⟨some 37, .mv (.t 36), none⟩,
          ⟨some 38, .fldA 1 (.t 10), (some (37, false))⟩,
          ⟨some 39, .ld 1 false (.t 38), (some (37, false))⟩,
          ⟨some 40, .pick (.t 37) (.k (.sc (.bool true))) (.t 39), none⟩,
          ⟨some 41, .mv (.t 40), none⟩,
          ⟨some 42, .fldA 0 (.t 10), (some (41, false))⟩,
          ⟨some 43, .ld 1 false (.t 42), (some (41, false))⟩,
          ⟨some 44, .len false (.t 43), (some (41, false))⟩,
          ⟨some 45, .bin .eql (.t 44) (.k (.sc (.int .i64 0))), (some (41, false))⟩,
          ⟨some 46, .pick (.t 41) (.k (.sc (.bool true))) (.t 45), none⟩] [0, 1, 2, 3, 9, 10, 46])
       (.cond (.t 46)
         (.seq (.reg [⟨some 8, .mv (.k (.sc (.bool true))), none⟩] [8])
          (.ret))
         (.skip)))
      (.seq (.seq (.reg [⟨some 47, .mv (.t 1), none⟩,
           ⟨some 48, .len false (.t 47), none⟩,
           ⟨some 49, .bin .gtr (.t 48) (.k (.sc (.int .i64 10))), none⟩,
           ⟨some 50, .mv (.t 49), none⟩,
           ⟨some 51, .mv (.t 3), (some (50, false))⟩,
           ⟨some 52, .len false (.t 51), (some (50, false))⟩,
           ⟨some 53, .bin .gtr (.t 52) (.k (.sc (.int .i64 10))), (some (50, false))⟩,
           ⟨some 54, .pick (.t 50) (.k (.sc (.bool true))) (.t 53), none⟩] [0, 1, 2, 3, 9, 10, 54])
        (.cond (.t 54)
          (.seq (.reg [⟨some 8, .mv (.k (.sc (.bool true))), none⟩] [8])
           (.ret))
          (.skip)))
       (.seq (.reg [⟨some 55, .bsl 1 [.int .i64 0] 0 [], none⟩,
           ⟨some 56, .mv (.t 1), none⟩,
           ⟨some 57, .app 1 8 [.int .i64 0] (.t 55) (.t 56), none⟩,
           ⟨some 58, .mv (.t 3), none⟩,
           ⟨some 59, .app 1 8 [.int .i64 0] (.t 57) (.t 58), none⟩,
           ⟨some 11, .mv (.t 59), none⟩] [0, 1, 2, 3, 9, 10, 11])
        (.seq (.seq (.reg [⟨some 12, .mv (.k (.sc (.int .i64 0))), none⟩] [0, 1, 2, 3, 9, 10, 11, 12])
          (.block 0 (.loop [0, 1, 2, 3, 9, 10, 11, 12] b4L0)))
         (.seq (.reg [⟨some 79, .mv (.t 0), none⟩,
             ⟨some 80, .mv (.t 1), none⟩,
             ⟨some 81, .call 12 [(.t 79), (.t 80)], none⟩,
             ⟨some 82, .mv (.t 2), none⟩,
             ⟨some 83, .mv (.t 3), none⟩,
             ⟨some 84, .call 12 [(.t 82), (.t 83)], none⟩,
             ⟨some 85, .call 13 [(.t 81), (.t 84)], none⟩,
             ⟨some 78, .mv (.t 85), none⟩,
             ⟨some 86, .ext (.t 78) 0, none⟩,
             ⟨some 87, .ext (.t 78) 1, none⟩,
             ⟨some 13, .new [.bool false, .nilS], none⟩,
             ⟨none, .st 2 (.t 13) (.t 86), none⟩,
             ⟨some 14, .mv (.t 87), none⟩] [9, 10, 13, 14])
          (.seq (.reg [⟨some 89, .ld 2 true (.t 9), none⟩,
              ⟨some 90, .ld 2 true (.t 10), none⟩,
              ⟨some 91, .call 19 [(.t 89), (.t 90)], none⟩,
              ⟨some 88, .mv (.t 91), none⟩,
              ⟨some 92, .ext (.t 88) 0, none⟩,
              ⟨some 93, .ext (.t 88) 1, none⟩,
              ⟨some 15, .new [.nilS, .bool false], none⟩,
              ⟨none, .st 2 (.t 15) (.t 92), none⟩,
              ⟨some 16, .mv (.t 93), none⟩] [13, 14, 15, 16])
           (.seq (.seq (.reg [⟨some 94, .mv (.t 16), none⟩,
                ⟨some 95, .un .not (.t 94), none⟩] [13, 14, 15, 95])
             (.cond (.t 95)
               (.seq (.reg [⟨some 96, .mv (.t 14), none⟩,
                   ⟨some 97, .bin .eql (.t 96) (.k (.sc (.int .i64 10))), none⟩,
                   ⟨some 98, .mv (.t 97), none⟩,
                   ⟨some 99, .ld 2 true (.t 13), (some (98, true))⟩,
                   ⟨some 100, .call 15 [(.t 99)], (some (98, true))⟩,
                   ⟨some 101, .pick (.t 98) (.t 100) (.k (.sc (.bool false))), none⟩,
                   ⟨some 8, .mv (.t 101), none⟩] [8])
                (.ret))
               (.skip)))
            (.seq (.reg [⟨some 102, .mv (.t 14), none⟩,
                ⟨some 103, .bin .eql (.t 102) (.k (.sc (.int .i64 0))), none⟩,
                ⟨some 104, .mv (.t 103), none⟩,
                ⟨some 105, .ld 2 true (.t 13), (some (104, true))⟩,
                ⟨some 106, .ld 2 true (.t 15), (some (104, true))⟩,
                ⟨some 107, .call 20 [(.t 105), (.t 106)], (some (104, true))⟩,
                ⟨some 108, .pick (.t 104) (.t 107) (.k (.sc (.bool false))), none⟩,
                ⟨some 8, .mv (.t 108), none⟩] [8])
             (.ret))))))))))))
def a4 : AFun := ⟨4, b4, [.t 8]⟩

/-- unravel/unravellaw12.awake -/
def b10 : AC :=
  .seq (.reg [⟨some 0, .mv (.k (.sc (.bool false))), none⟩] [])
  (.seq (.reg [⟨some 4, .bsl 1 [.int .i64 0] 2 [(0, .k (.sc (.int .i64 1))), (1, .k (.sc (.int .i64 1)))], none⟩,
      ⟨some 5, .call 12 [(.k (.sc (.int .i64 0))), (.t 4)], none⟩,
      ⟨some 6, .bsl 1 [.int .i64 0] 2 [(0, .k (.sc (.int .i64 (-1)))), (1, .k (.sc (.int .i64 1)))], none⟩,
      ⟨some 7, .call 12 [(.k (.sc (.int .i64 0))), (.t 6)], none⟩,
      ⟨some 8, .call 16 [(.t 5), (.t 7)], none⟩,
      ⟨some 1, .new [.bool false, .nilS], none⟩,
      ⟨none, .st 2 (.t 1) (.t 8), none⟩] [1])
   (.seq (.regd [(⟨some 10, .ld 2 true (.t 1), none⟩, 0, false),
       (⟨some 11, .bsl 1 [.int .i64 0] 2 [(0, .k (.sc (.int .i64 1))), (1, .k (.sc (.int .i64 1)))], none⟩, 1, false),
       (⟨some 12, .call 12 [(.k (.sc (.int .i64 0))), (.t 11)], none⟩, 2, false),
       (⟨some 13, .call 13 [(.t 10), (.t 12)], none⟩, 3, false),
       (⟨some 9, .mv (.t 13), none⟩, 4, false),
       (⟨some 14, .ext (.t 9) 0, none⟩, 5, false),
       (⟨some 15, .ext (.t 9) 1, none⟩, 6, false),
       (⟨some 2, .new [.bool false, .nilS], none⟩, 7, false),
       (⟨none, .st 2 (.t 2) (.t 14), none⟩, 8, true),
       (⟨some 3, .mv (.t 15), none⟩, 9, false)] [1, 2, 3])
    (.seq (.reg [⟨some 16, .bsl 1 [.int .i64 0] 4 [(0, .k (.sc (.int .i64 (-1)))), (1, .k (.sc (.int .i64 0))), (2, .k (.sc (.int .i64 3))), (3, .k (.sc (.int .i64 1)))], none⟩,
        ⟨some 17, .call 12 [(.k (.sc (.int .i64 (-2)))), (.t 16)], none⟩,
        ⟨some 18, .call 34 [(.t 17), (.k (.sc (.str ⟨#[116]⟩)))], none⟩,
        ⟨some 19, .bin .eql (.t 18) (.k (.sc (.str ⟨#[45, 116, 94, 45, 50, 43, 51, 43, 116]⟩))), none⟩,
        ⟨some 20, .mv (.t 19), none⟩,
        ⟨some 21, .ld 2 true (.t 1), (some (20, true))⟩,
        ⟨some 22, .call 34 [(.t 21), (.k (.sc (.str ⟨#[116]⟩)))], (some (20, true))⟩,
        ⟨some 23, .bin .eql (.t 22) (.k (.sc (.str ⟨#[45, 49, 43, 116, 94, 50]⟩))), (some (20, true))⟩,
        ⟨some 24, .pick (.t 20) (.t 23) (.k (.sc (.bool false))), none⟩,
        ⟨some 25, .mv (.t 24), none⟩,
        ⟨some 26, .mv (.t 3), (some (25, true))⟩,
        ⟨some 27, .bin .eql (.t 26) (.k (.sc (.int .i64 0))), (some (25, true))⟩,
        ⟨some 28, .pick (.t 25) (.t 27) (.k (.sc (.bool false))), none⟩,
        ⟨some 29, .mv (.t 28), none⟩,
        ⟨some 30, .ld 2 true (.t 2), (some (29, true))⟩,
        ⟨some 31, .call 34 [(.t 30), (.k (.sc (.str ⟨#[116]⟩)))], (some (29, true))⟩,
        ⟨some 32, .bin .eql (.t 31) (.k (.sc (.str ⟨#[45, 49, 43, 116]⟩))), (some (29, true))⟩,
        ⟨some 33, .pick (.t 29) (.t 32) (.k (.sc (.bool false))), none⟩,
        ⟨some 0, .mv (.t 33), none⟩] [0])
     (.ret))))
def a10 : AFun := ⟨0, b10, [.t 0]⟩

def b11L0 : AC :=
  .seq (.seq (.reg [⟨some 17, .mv (.t 5), none⟩,
      ⟨some 18, .mv (.t 1), none⟩,
      ⟨some 19, .len false (.t 18), none⟩,
      ⟨some 20, .bin .lss (.t 17) (.t 19), none⟩] [1, 5, 20])
   (.cond (.t 20)
     (.skip)
     (.exit 0)))
  (.seq (.block 1 (.seq (.reg [⟨some 23, .mv (.t 1), none⟩,
        ⟨some 24, .mv (.t 5), none⟩,
        ⟨some 25, .idxA 1 (.t 23) (.t 24), none⟩,
        ⟨some 26, .ld 1 false (.t 25), none⟩,
        ⟨some 27, .bin .lss (.t 26) (.k (.sc (.int .i64 (-4611686018427387904)))), none⟩,
        ⟨some 28, .mv (.t 27), none⟩,
        ⟨some 29, .mv (.t 1), (some (28, false))⟩,
        ⟨some 30, .mv (.t 5), (some (28, false))⟩,
        ⟨some 31, .idxA 1 (.t 29) (.t 30), (some (28, false))⟩,
        ⟨some 32, .ld 1 false (.t 31), (some (28, false))⟩,
        ⟨some 33, .bin .gtr (.t 32) (.k (.sc (.int .i64 4611686018427387904))), (some (28, false))⟩,
        ⟨some 34, .pick (.t 28) (.k (.sc (.bool true))) (.t 33), none⟩] [1, 5, 34])
     (.cond (.t 34)
       (.seq (.reg [⟨some 4, .mv (.k (.sc (.int .i64 0))), none⟩] [4])
        (.ret))
       (.skip))))
   (.reg [⟨some 21, .mv (.t 5), none⟩,
      ⟨some 22, .bin .add (.t 21) (.k (.sc (.int .i64 1))), none⟩,
      ⟨some 5, .mv (.t 22), none⟩] [1, 5]))
/-- unravel/unravellaw12.small -/
def b11 : AC :=
  .seq (.reg [⟨some 4, .mv (.k (.sc (.int .i64 0))), none⟩] [0, 1])
  (.seq (.seq (.reg [⟨some 6, .mv (.t 1), none⟩,
       ⟨some 7, .len false (.t 6), none⟩,
       ⟨some 8, .bin .gtr (.t 7) (.k (.sc (.int .i64 20))), none⟩,
       ⟨some 9, .mv (.t 8), none⟩,
       ⟨some 10, .mv (.t 0), (some (9, false))⟩,
       ⟨some 11, .bin .lss (.t 10) (.k (.sc (.int .i64 (-100)))), (some (9, false))⟩,
       ⟨some 12, .pick (.t 9) (.k (.sc (.bool true))) (.t 11), none⟩,
       ⟨some 13, .mv (.t 12), none⟩,
       ⟨some 14, .mv (.t 0), (some (13, false))⟩,
       ⟨some 15, .bin .gtr (.t 14) (.k (.sc (.int .i64 100))), (some (13, false))⟩,
       ⟨some 16, .pick (.t 13) (.k (.sc (.bool true))) (.t 15), none⟩] [1, 16])
    (.cond (.t 16)
      (.seq (.reg [⟨some 4, .mv (.k (.sc (.int .i64 0))), none⟩] [4])
       (.ret))
      (.skip)))
   (.seq (.seq (.reg [⟨some 5, .mv (.k (.sc (.int .i64 0))), none⟩] [1, 5])
     (.block 0 (.loop [1, 5] b11L0)))
    (.seq (.reg [⟨some 4, .mv (.k (.sc (.int .i64 1))), none⟩] [4])
     (.ret))))
def a11 : AFun := ⟨2, b11, [.t 4]⟩

def b12L0 : AC :=
  .seq (.reg [⟨some 11, .bin .lss (.t 10) (.t 9), none⟩] [0, 4, 5, 8, 9, 10, 11])
  (.seq (.cond (.t 11)
     (.skip)
     (.exit 0))
   (.seq (.block 1 (.seq (.reg [⟨some 12, .mv (.t 10), none⟩,
         ⟨some 13, .idxA 1 (.t 8) (.t 10), none⟩,
         ⟨some 14, .ld 1 false (.t 13), none⟩,
         ⟨some 6, .mv (.t 12), none⟩,
         ⟨some 7, .mv (.t 14), none⟩] [0, 4, 5, 6, 7, 8, 9, 10])
      (.seq (.seq (.reg [⟨some 15, .mv (.t 7), none⟩,
           ⟨some 16, .bin .eql (.t 15) (.k (.sc (.int .i64 0))), none⟩] [0, 4, 5, 6, 7, 8, 9, 10, 16])
        (.cond (.t 16)
          (.exit 1)
          (.skip)))
       (.seq (.seq (.reg [⟨some 17, .mv (.t 7), none⟩,
            ⟨some 18, .call 35 [(.t 17), (.k (.sc (.int .i64 1125899906842624)))], none⟩,
            ⟨some 19, .un .not (.t 18), none⟩,
            ⟨some 20, .mv (.t 19), none⟩,
            ⟨some 21, .mv (.t 0), (some (20, false))⟩,
            ⟨some 22, .bin .gtr (.t 21) (.k (.sc (.int .i64 1048576))), (some (20, false))⟩,
            ⟨some 23, .pick (.t 20) (.k (.sc (.bool true))) (.t 22), none⟩,
            ⟨some 24, .mv (.t 23), none⟩,
            ⟨some 25, .mv (.t 0), (some (24, false))⟩,
            ⟨some 26, .mv (.t 6), (some (24, false))⟩,
            ⟨some 27, .bin .add (.t 25) (.t 26), (some (24, false))⟩,
            ⟨some 28, .call 35 [(.t 27), (.k (.sc (.int .i64 1048576)))], (some (24, false))⟩,
            ⟨some 29, .un .not (.t 28), (some (24, false))⟩,
            ⟨some 30, .pick (.t 24) (.k (.sc (.bool true))) (.t 29), none⟩] [0, 4, 5, 6, 7, 8, 9, 10, 30])
         (.cond (.t 30)
           (.seq (.reg [⟨some 31, .bld [.bool false, .nilS] [(0, 1, .k (.sc (.bool true)))], none⟩,
               ⟨none, .st 2 (.t 4) (.t 31), none⟩] [4])
            (.ret))
           (.skip)))
        (.reg [⟨some 32, .fldA 1 (.t 5), none⟩,
           ⟨some 33, .ld 1 false (.t 32), none⟩,
           ⟨some 34, .mv (.t 0), none⟩,
           ⟨some 35, .mv (.t 6), none⟩,
           ⟨some 36, .bin .add (.t 34) (.t 35), none⟩,
           ⟨some 37, .mv (.t 7), none⟩,
           ⟨some 38, .bld [.int .i64 0, .int .i64 0] [(0, 1, .t 36), (1, 1, .t 37)], none⟩,
           ⟨some 39, .bsl 2 [.int .i64 0, .int .i64 0] 1 [(0, .t 38)], none⟩,
           ⟨some 40, .app 2 16 [.int .i64 0, .int .i64 0] (.t 33) (.t 39), none⟩,
           ⟨some 41, .fldA 1 (.t 5), none⟩,
           ⟨none, .st 1 (.t 41) (.t 40), none⟩] [0, 4, 5, 8, 9, 10])))))
    (.reg [⟨some 42, .bin .add (.t 10) (.k (.sc (.int .i64 1))), none⟩,
       ⟨some 10, .mv (.t 42), none⟩] [0, 4, 5, 8, 9, 10])))
/-- unravel/laurent.Of -/
def b12 : AC :=
  .seq (.reg [⟨some 4, .new [.bool false, .nilS], none⟩] [0, 1, 4])
  (.seq (.reg [⟨some 5, .new [.bool false, .nilS], none⟩] [0, 1, 4, 5])
   (.seq (.seq (.reg [⟨some 8, .mv (.t 1), none⟩,
        ⟨some 9, .len false (.t 8), none⟩,
        ⟨some 10, .mv (.k (.sc (.int .i64 0))), none⟩] [0, 4, 5, 8, 9, 10])
     (.block 0 (.loop [0, 4, 5, 8, 9, 10] b12L0)))
    (.seq (.reg [⟨some 43, .ld 2 true (.t 5), none⟩,
        ⟨none, .st 2 (.t 4) (.t 43), none⟩] [4])
     (.ret))))
def a12 : AFun := ⟨2, b12, [.cell 4 2 true]⟩

def b13L0 : AC :=
  .seq (.reg [⟨some 78, .bin .lss (.t 77) (.t 76), none⟩] [2, 3, 4, 6, 7, 75, 76, 77, 78])
  (.seq (.cond (.t 78)
     (.skip)
     (.exit 1))
   (.seq (.block 2 (.seq (.reg [⟨some 79, .idxA 2 (.t 75) (.t 77), none⟩,
         ⟨some 80, .ld 2 true (.t 79), none⟩,
         ⟨some 9, .new [.int .i64 0, .int .i64 0], none⟩,
         ⟨none, .st 2 (.t 9) (.t 80), none⟩] [2, 3, 4, 6, 7, 9, 75, 76, 77])
      (.regd [(⟨some 81, .mv (.t 7), none⟩, 0, false),
         (⟨some 82, .fldA 0 (.t 9), none⟩, 1, false),
         (⟨some 83, .ld 1 false (.t 82), none⟩, 2, false),
         (⟨some 84, .ld 2 true (.t 2), none⟩, 3, false),
         (⟨some 85, .call 27 [(.t 84)], none⟩, 4, false),
         (⟨some 86, .bin .sub (.t 83) (.t 85), none⟩, 5, false),
         (⟨some 87, .fldA 1 (.t 9), none⟩, 6, false),
         (⟨some 88, .ld 1 false (.t 87), none⟩, 7, false),
         (⟨some 89, .call 37 [(.t 88)], none⟩, 8, false),
         (⟨some 90, .idxA 2 (.t 81) (.t 86), none⟩, 9, false),
         (⟨none, .st 2 (.t 90) (.t 89), none⟩, 10, true)] [2, 3, 4, 6, 7, 75, 76, 77])))
    (.reg [⟨some 91, .bin .add (.t 77) (.k (.sc (.int .i64 1))), none⟩,
       ⟨some 77, .mv (.t 91), none⟩] [2, 3, 4, 6, 7, 75, 76, 77])))
def b13L2 : AC :=
  .seq (.reg [⟨some 142, .bin .lss (.t 141) (.t 140), none⟩] [2, 3, 4, 6, 7, 10, 11, 12, 93, 94, 139, 140, 141, 142])
  (.seq (.cond (.t 142)
     (.skip)
     (.exit 5))
   (.seq (.block 6 (.seq (.reg [⟨some 143, .idxA 2 (.t 139) (.t 141), none⟩,
         ⟨some 144, .ld 2 true (.t 143), none⟩,
         ⟨some 16, .new [.int .i64 0, .int .i64 0], none⟩,
         ⟨none, .st 2 (.t 16) (.t 144), none⟩] [2, 3, 4, 6, 7, 10, 11, 12, 16, 93, 94, 139, 140, 141])
      (.seq (.regd [(⟨some 145, .mv (.t 11), none⟩, 0, false),
          (⟨some 146, .fldA 0 (.t 16), none⟩, 1, false),
          (⟨some 147, .ld 1 false (.t 146), none⟩, 2, false),
          (⟨some 148, .bin .add (.t 145) (.t 147), none⟩, 3, false),
          (⟨some 149, .ld 2 true (.t 3), none⟩, 4, false),
          (⟨some 150, .call 27 [(.t 149)], none⟩, 5, false),
          (⟨some 151, .bin .sub (.t 148) (.t 150), none⟩, 6, false),
          (⟨some 17, .mv (.t 151), none⟩, 7, false)] [2, 3, 4, 6, 7, 10, 11, 12, 16, 17, 93, 94, 139, 140, 141])
       (.regd [(⟨some 152, .mv (.t 7), none⟩, 0, false),
          (⟨some 153, .mv (.t 17), none⟩, 1, false),
          (⟨some 154, .mv (.t 7), none⟩, 2, false),
          (⟨some 155, .mv (.t 17), none⟩, 3, false),
          (⟨some 156, .idxA 2 (.t 154) (.t 155), none⟩, 4, false),
          (⟨some 157, .ld 2 true (.t 156), none⟩, 5, false),
          (⟨some 158, .mv (.t 12), none⟩, 6, false),
          (⟨some 159, .un .neg (.t 158), none⟩, 7, false),
          (⟨some 160, .fldA 1 (.t 16), none⟩, 8, false),
          (⟨some 161, .ld 1 false (.t 160), none⟩, 9, false),
          (⟨some 162, .call 41 [(.t 159), (.t 161)], none⟩, 10, false),
          (⟨some 163, .call 40 [(.t 157), (.t 162)], none⟩, 11, true),
          (⟨some 164, .idxA 2 (.t 152) (.t 153), none⟩, 12, false),
          (⟨none, .st 2 (.t 164) (.t 163), none⟩, 13, true)] [2, 3, 4, 6, 7, 10, 11, 12, 93, 94, 139, 140, 141]))))
    (.reg [⟨some 165, .bin .add (.t 141) (.k (.sc (.int .i64 1))), none⟩,
       ⟨some 141, .mv (.t 165), none⟩] [2, 3, 4, 6, 7, 10, 11, 12, 93, 94, 139, 140, 141])))
def b13L1 : AC :=
  .seq (.reg [⟨some 95, .bin .lss (.t 94) (.t 93), none⟩] [2, 3, 4, 6, 7, 10, 93, 94, 95])
  (.seq (.cond (.t 95)
     (.skip)
     (.exit 3))
   (.seq (.block 4 (.seq (.reg [⟨some 96, .mv (.t 94), none⟩,
         ⟨some 11, .mv (.t 96), none⟩] [2, 3, 4, 6, 7, 10, 11, 93, 94])
      (.seq (.seq (.reg [⟨some 97, .mv (.t 7), none⟩,
           ⟨some 98, .mv (.t 11), none⟩,
           ⟨some 99, .idxA 2 (.t 97) (.t 98), none⟩,
           ⟨some 100, .ld 2 true (.t 99), none⟩,
           ⟨some 101, .call 38 [(.t 100)], none⟩] [2, 3, 4, 6, 7, 10, 11, 93, 94, 101])
        (.cond (.t 101)
          (.exit 4)
          (.skip)))
       (.seq (.regd [(⟨some 103, .mv (.t 7), none⟩, 0, false),
           (⟨some 104, .mv (.t 11), none⟩, 1, false),
           (⟨some 105, .idxA 2 (.t 103) (.t 104), none⟩, 2, false),
           (⟨some 106, .ld 2 true (.t 105), none⟩, 3, false),
           (⟨some 107, .fldA 1 (.t 3), none⟩, 4, false),
           (⟨some 108, .ld 1 false (.t 107), none⟩, 5, false),
           (⟨some 109, .idxA 2 (.t 108) (.k (.sc (.int .i64 0))), none⟩, 6, false),
           (⟨some 110, .fldA 1 (.t 109), none⟩, 7, false),
           (⟨some 111, .ld 1 false (.t 110), none⟩, 8, false),
           (⟨some 112, .call 39 [(.t 106), (.t 111)], none⟩, 9, true),
           (⟨some 102, .mv (.t 112), none⟩, 10, false),
           (⟨some 113, .ext (.t 102) 0, none⟩, 11, false),
           (⟨some 114, .ext (.t 102) 1, none⟩, 12, false),
           (⟨some 12, .mv (.t 113), none⟩, 13, false),
           (⟨some 13, .mv (.t 114), none⟩, 14, false)] [2, 3, 4, 6, 7, 10, 11, 12, 13, 93, 94])
        (.seq (.regd [(⟨some 115, .ld 2 true (.t 2), none⟩, 0, false),
            (⟨some 116, .call 27 [(.t 115)], none⟩, 1, false),
            (⟨some 117, .ld 2 true (.t 3), none⟩, 2, false),
            (⟨some 118, .call 27 [(.t 117)], none⟩, 3, true),
            (⟨some 119, .bin .sub (.t 116) (.t 118), none⟩, 4, false),
            (⟨some 120, .mv (.t 11), none⟩, 5, false),
            (⟨some 121, .bin .add (.t 119) (.t 120), none⟩, 6, false),
            (⟨some 14, .mv (.t 121), none⟩, 7, false)] [2, 3, 4, 6, 7, 10, 11, 12, 13, 14, 93, 94])
         (.seq (.seq (.reg [⟨some 122, .mv (.t 13), none⟩,
              ⟨some 123, .un .not (.t 122), none⟩,
              ⟨some 124, .mv (.t 123), none⟩,
              ⟨some 125, .mv (.t 14), (some (124, false))⟩,
              ⟨some 126, .call 35 [(.t 125), (.k (.sc (.int .i64 1048576)))], (some (124, false))⟩,
              ⟨some 127, .un .not (.t 126), (some (124, false))⟩,
              ⟨some 128, .pick (.t 124) (.k (.sc (.bool true))) (.t 127), none⟩] [2, 3, 4, 6, 7, 10, 11, 12, 14, 93, 94, 128])
           (.cond (.t 128)
             (.seq (.reg [⟨some 129, .bld [.bool false, .nilS] [], none⟩,
                 ⟨none, .st 2 (.t 4) (.t 129), none⟩,
                 ⟨some 5, .mv (.k (.sc (.int .i64 10))), none⟩] [4, 5])
              (.ret))
             (.skip)))
          (.seq (.reg [⟨some 130, .fldA 1 (.t 10), none⟩,
              ⟨some 131, .ld 1 false (.t 130), none⟩,
              ⟨some 132, .mv (.t 14), none⟩,
              ⟨some 133, .mv (.t 12), none⟩,
              ⟨some 134, .bld [.int .i64 0, .int .i64 0] [(0, 1, .t 132), (1, 1, .t 133)], none⟩,
              ⟨some 135, .bsl 2 [.int .i64 0, .int .i64 0] 1 [(0, .t 134)], none⟩,
              ⟨some 136, .app 2 16 [.int .i64 0, .int .i64 0] (.t 131) (.t 135), none⟩,
              ⟨some 137, .fldA 1 (.t 10), none⟩,
              ⟨none, .st 1 (.t 137) (.t 136), none⟩] [2, 3, 4, 6, 7, 10, 11, 12, 93, 94])
           (.seq (.reg [⟨some 138, .fldA 1 (.t 3), none⟩,
               ⟨some 139, .ld 1 false (.t 138), none⟩,
               ⟨some 140, .len false (.t 139), none⟩,
               ⟨some 141, .mv (.k (.sc (.int .i64 0))), none⟩] [2, 3, 4, 6, 7, 10, 11, 12, 93, 94, 139, 140, 141])
            (.block 5 (.loop [2, 3, 4, 6, 7, 10, 11, 12, 93, 94, 139, 140, 141] b13L2))))))))))
    (.reg [⟨some 166, .bin .add (.t 94) (.k (.sc (.int .i64 1))), none⟩,
       ⟨some 94, .mv (.t 166), none⟩] [2, 3, 4, 6, 7, 10, 93, 94])))
def b13L3 : AC :=
  .seq (.reg [⟨some 173, .bin .lss (.t 172) (.t 171), none⟩] [4, 10, 170, 171, 172, 173])
  (.seq (.cond (.t 173)
     (.skip)
     (.exit 7))
   (.seq (.block 8 (.seq (.reg [⟨some 174, .idxA 2 (.t 170) (.t 172), none⟩,
         ⟨some 175, .ld 2 true (.t 174), none⟩,
         ⟨some 19, .new [.int .u64 0, .int .u64 0], none⟩,
         ⟨none, .st 2 (.t 19) (.t 175), none⟩] [4, 10, 19, 170, 171, 172])
      (.seq (.reg [⟨some 176, .ld 2 true (.t 19), none⟩,
          ⟨some 177, .call 38 [(.t 176)], none⟩,
          ⟨some 178, .un .not (.t 177), none⟩] [4, 10, 170, 171, 172, 178])
       (.cond (.t 178)
         (.seq (.reg [⟨some 179, .bld [.bool false, .nilS] [], none⟩,
             ⟨none, .st 2 (.t 4) (.t 179), none⟩,
             ⟨some 5, .mv (.k (.sc (.int .i64 10))), none⟩] [4, 5])
          (.ret))
         (.skip)))))
    (.reg [⟨some 180, .bin .add (.t 172) (.k (.sc (.int .i64 1))), none⟩,
       ⟨some 172, .mv (.t 180), none⟩] [4, 10, 170, 171, 172])))
/-- (unravel/laurent.Poly).Div -/
def b13 : AC :=
  .seq (.reg [⟨some 2, .box (.t 0), none⟩,
     ⟨some 3, .box (.t 1), none⟩,
     ⟨some 4, .new [.bool false, .nilS], none⟩,
     ⟨some 5, .mv (.k (.sc (.int .i64 0))), none⟩] [2, 3, 4])
  (.seq (.block 0 (.seq (.reg [⟨some 21, .fldA 0 (.t 2), none⟩,
        ⟨some 22, .ld 1 false (.t 21), none⟩,
        ⟨some 23, .mv (.t 22), none⟩,
        ⟨some 24, .fldA 0 (.t 3), (some (23, false))⟩,
        ⟨some 25, .ld 1 false (.t 24), (some (23, false))⟩,
        ⟨some 26, .pick (.t 23) (.k (.sc (.bool true))) (.t 25), none⟩,
        ⟨some 20, .mv (.t 26), none⟩] [2, 3, 4, 20])
     (.cond (.t 20)
       (.seq (.reg [⟨some 27, .bld [.bool false, .nilS] [], none⟩,
           ⟨none, .st 2 (.t 4) (.t 27), none⟩,
           ⟨some 5, .mv (.k (.sc (.int .i64 9))), none⟩] [4, 5])
        (.ret))
       (.seq (.reg [⟨some 29, .fldA 1 (.t 3), none⟩,
           ⟨some 30, .ld 1 false (.t 29), none⟩,
           ⟨some 31, .len false (.t 30), none⟩,
           ⟨some 32, .bin .eql (.t 31) (.k (.sc (.int .i64 0))), none⟩,
           ⟨some 28, .mv (.t 32), none⟩] [2, 3, 4, 28])
        (.cond (.t 28)
          (.seq (.reg [⟨some 33, .bld [.bool false, .nilS] [], none⟩,
              ⟨none, .st 2 (.t 4) (.t 33), none⟩,
              ⟨some 5, .mv (.k (.sc (.int .i64 2))), none⟩] [4, 5])
           (.ret))
          (.seq (.reg [⟨some 35, .fldA 1 (.t 2), none⟩,
              ⟨some 36, .ld 1 false (.t 35), none⟩,
              ⟨some 37, .len false (.t 36), none⟩,
              ⟨some 38, .bin .eql (.t 37) (.k (.sc (.int .i64 0))), none⟩,
              ⟨some 34, .mv (.t 38), none⟩] [2, 3, 4, 34])
           (.cond (.t 34)
             (.seq (.reg [⟨some 39, .bld [.bool false, .nilS] [], none⟩,
                 ⟨none, .st 2 (.t 4) (.t 39), none⟩,
                 ⟨some 5, .mv (.k (.sc (.int .i64 0))), none⟩] [4, 5])
              (.ret))
             (.seq (.reg [⟨some 41, .fldA 1 (.t 3), none⟩,
                 ⟨some 42, .ld 1 false (.t 41), none⟩,
                 ⟨some 43, .len false (.t 42), none⟩,
                 ⟨some 44, .bin .eql (.t 43) (.k (.sc (.int .i64 1))), none⟩,
                 ⟨some 40, .mv (.t 44), none⟩] [2, 3, 4, 40])
              (.cond (.t 40)
                (.seq (.regd [(⟨some 45, .ld 2 true (.t 2), none⟩, 0, false),
                    (⟨some 46, .fldA 1 (.t 3), none⟩, 1, false),
                    (⟨some 47, .ld 1 false (.t 46), none⟩, 2, false),
                    (⟨some 48, .idxA 2 (.t 47) (.k (.sc (.int .i64 0))), none⟩, 3, false),
                    (⟨some 49, .ld 2 true (.t 48), none⟩, 4, false),
                    (⟨some 50, .call 36 [(.t 45), (.t 49)], none⟩, 5, true),
                    (⟨some 51, .ext (.t 50) 0, none⟩, 6, false),
                    (⟨some 52, .ext (.t 50) 1, none⟩, 7, false),
                    (⟨none, .st 2 (.t 4) (.t 51), none⟩, 8, true),
                    (⟨some 5, .mv (.t 52), none⟩, 9, false)] [4, 5])
                 (.ret))
                (.skip))))))))))
   (.seq (.regd [(⟨some 53, .ld 2 true (.t 2), none⟩, 0, false),
       (⟨some 54, .call 28 [(.t 53)], none⟩, 1, false),
       (⟨some 55, .ld 2 true (.t 2), none⟩, 2, false),
       (⟨some 56, .call 27 [(.t 55)], none⟩, 3, false),
       (⟨some 57, .bin .sub (.t 54) (.t 56), none⟩, 4, false),
       (⟨some 58, .ld 2 true (.t 3), none⟩, 5, false),
       (⟨some 59, .call 28 [(.t 58)], none⟩, 6, false),
       (⟨some 60, .ld 2 true (.t 3), none⟩, 7, false),
       (⟨some 61, .call 27 [(.t 60)], none⟩, 8, true),
       (⟨some 62, .bin .sub (.t 59) (.t 61), none⟩, 9, false),
       (⟨some 63, .bin .sub (.t 57) (.t 62), none⟩, 10, false),
       (⟨some 6, .mv (.t 63), none⟩, 11, false)] [2, 3, 4, 6])
    (.seq (.seq (.reg [⟨some 64, .mv (.t 6), none⟩,
         ⟨some 65, .bin .lss (.t 64) (.k (.sc (.int .i64 0))), none⟩] [2, 3, 4, 6, 65])
      (.cond (.t 65)
        (.seq (.reg [⟨some 66, .bld [.bool false, .nilS] [], none⟩,
            ⟨none, .st 2 (.t 4) (.t 66), none⟩,
            ⟨some 5, .mv (.k (.sc (.int .i64 10))), none⟩] [4, 5])
         (.ret))
        (.skip)))
     (.seq (.regd [(⟨some 67, .ld 2 true (.t 2), none⟩, 0, false),
         (⟨some 68, .call 28 [(.t 67)], none⟩, 1, false),
         (⟨some 69, .ld 2 true (.t 2), none⟩, 2, false),
         (⟨some 70, .call 27 [(.t 69)], none⟩, 3, true),
         (⟨some 71, .bin .sub (.t 68) (.t 70), none⟩, 4, false),
         (⟨some 72, .bin .add (.t 71) (.k (.sc (.int .i64 1))), none⟩, 5, false),
         (⟨some 73, .mk 2 16 [.int .u64 0, .int .u64 0] (.t 72) (.t 72), none⟩, 6, true),
         (⟨some 7, .mv (.t 73), none⟩, 7, false)] [2, 3, 4, 6, 7])
      (.seq (.seq (.reg [⟨some 74, .fldA 1 (.t 2), none⟩,
           ⟨some 75, .ld 1 false (.t 74), none⟩,
           ⟨some 76, .len false (.t 75), none⟩,
           ⟨some 77, .mv (.k (.sc (.int .i64 0))), none⟩] [2, 3, 4, 6, 7, 75, 76, 77])
        (.block 1 (.loop [2, 3, 4, 6, 7, 75, 76, 77] b13L0)))
       (.seq (.reg [⟨some 10, .new [.bool false, .nilS], none⟩] [2, 3, 4, 6, 7, 10])
        (.seq (.seq (.reg [⟨some 92, .mv (.t 6), none⟩,
             ⟨some 93, .bin .add (.t 92) (.k (.sc (.int .i64 1))), none⟩,
             ⟨some 94, .mv (.k (.sc (.int .i64 0))), none⟩] [2, 3, 4, 6, 7, 10, 93, 94])
          (.block 3 (.loop [2, 3, 4, 6, 7, 10, 93, 94] b13L1)))
         (.seq (.seq (.reg [⟨some 167, .mv (.t 7), none⟩,
              ⟨some 168, .mv (.t 6), none⟩,
              ⟨some 169, .bin .add (.t 168) (.k (.sc (.int .i64 1))), none⟩,
              ⟨some 170, .sl 2 (.t 167) (some (.t 169)) none, none⟩,
              ⟨some 171, .len false (.t 170), none⟩,
              ⟨some 172, .mv (.k (.sc (.int .i64 0))), none⟩] [4, 10, 170, 171, 172])
           (.block 7 (.loop [4, 10, 170, 171, 172] b13L3)))
          (.seq (.reg [⟨some 181, .ld 2 true (.t 10), none⟩,
              ⟨none, .st 2 (.t 4) (.t 181), none⟩,
              ⟨some 5, .mv (.k (.sc (.int .i64 0))), none⟩] [4, 5])
           (.ret))))))))))
def a13 : AFun := ⟨2, b13, [.cell 4 2 true, .t 5]⟩

/-- (unravel/laurent.Poly).Big -/
def b14 : AC :=
  .seq (.reg [⟨some 1, .box (.t 0), none⟩,
     ⟨some 2, .mv (.k (.sc (.bool false))), none⟩] [1])
  (.seq (.reg [⟨some 3, .fldA 0 (.t 1), none⟩,
      ⟨some 4, .ld 1 false (.t 3), none⟩,
      ⟨some 2, .mv (.t 4), none⟩] [2])
   (.ret))
def a14 : AFun := ⟨1, b14, [.t 2]⟩

/-- (unravel/laurent.Poly).Zero -/
def b15 : AC :=
  .seq (.reg [⟨some 1, .box (.t 0), none⟩,
     ⟨some 2, .mv (.k (.sc (.bool false))), none⟩] [1])
  (.seq (.reg [⟨some 3, .fldA 0 (.t 1), none⟩,
      ⟨some 4, .ld 1 false (.t 3), none⟩,
      ⟨some 5, .un .not (.t 4), none⟩,
      ⟨some 6, .mv (.t 5), none⟩,
      ⟨some 7, .fldA 1 (.t 1), (some (6, true))⟩,
      ⟨some 8, .ld 1 false (.t 7), (some (6, true))⟩,
      ⟨some 9, .len false (.t 8), (some (6, true))⟩,
      ⟨some 10, .bin .eql (.t 9) (.k (.sc (.int .i64 0))), (some (6, true))⟩,
      ⟨some 11, .pick (.t 6) (.t 10) (.k (.sc (.bool false))), none⟩,
      ⟨some 2, .mv (.t 11), none⟩] [2])
   (.ret))
def a15 : AFun := ⟨1, b15, [.t 2]⟩

def b16L0 : AC :=
  .seq (.reg [⟨some 76, .bin .lss (.t 75) (.t 74), none⟩] [4, 5, 8, 73, 74, 75, 76])
  (.seq (.cond (.t 76)
     (.skip)
     (.exit 0))
   (.seq (.block 1 (.seq (.reg [⟨some 77, .mv (.t 75), none⟩,
         ⟨some 78, .idxA 2 (.t 73) (.t 75), none⟩,
         ⟨some 79, .ld 2 true (.t 78), none⟩,
         ⟨some 10, .new [.int .u64 0, .int .u64 0], none⟩,
         ⟨some 9, .mv (.t 77), none⟩,
         ⟨none, .st 2 (.t 10) (.t 79), none⟩] [4, 5, 8, 9, 10, 73, 74, 75])
      (.seq (.reg [⟨some 81, .ld 2 true (.t 10), none⟩,
          ⟨some 82, .call 45 [(.t 81)], none⟩,
          ⟨some 80, .mv (.t 82), none⟩,
          ⟨some 83, .ext (.t 80) 0, none⟩,
          ⟨some 84, .ext (.t 80) 1, none⟩,
          ⟨some 11, .mv (.t 83), none⟩,
          ⟨some 12, .mv (.t 84), none⟩] [4, 5, 8, 9, 11, 12, 73, 74, 75])
       (.seq (.seq (.reg [⟨some 85, .mv (.t 12), none⟩,
            ⟨some 86, .un .not (.t 85), none⟩] [4, 5, 8, 9, 11, 73, 74, 75, 86])
         (.cond (.t 86)
           (.seq (.reg [⟨some 87, .bld [.bool false, .nilS] [(0, 1, .k (.sc (.bool true)))], none⟩,
               ⟨none, .st 2 (.t 4) (.t 87), none⟩] [4])
            (.ret))
           (.skip)))
        (.seq (.reg [⟨some 88, .mv (.t 11), none⟩,
            ⟨some 89, .bin .neq (.t 88) (.k (.sc (.int .i64 0))), none⟩] [4, 5, 8, 9, 11, 73, 74, 75, 89])
         (.cond (.t 89)
           (.reg [⟨some 90, .fldA 1 (.t 8), none⟩,
              ⟨some 91, .ld 1 false (.t 90), none⟩,
              ⟨some 92, .ld 1 false (.t 5), none⟩,
              ⟨some 93, .mv (.t 9), none⟩,
              ⟨some 94, .bin .add (.t 92) (.t 93), none⟩,
              ⟨some 95, .mv (.t 11), none⟩,
              ⟨some 96, .bld [.int .i64 0, .int .i64 0] [(0, 1, .t 94), (1, 1, .t 95)], none⟩,
              ⟨some 97, .bsl 2 [.int .i64 0, .int .i64 0] 1 [(0, .t 96)], none⟩,
              ⟨some 98, .app 2 16 [.int .i64 0, .int .i64 0] (.t 91) (.t 97), none⟩,
              ⟨some 99, .fldA 1 (.t 8), none⟩,
              ⟨none, .st 1 (.t 99) (.t 98), none⟩] [4, 5, 8, 73, 74, 75])
           (.skip)))))))
    (.reg [⟨some 100, .bin .add (.t 75) (.k (.sc (.int .i64 1))), none⟩,
       ⟨some 75, .mv (.t 100), none⟩] [4, 5, 8, 73, 74, 75])))
/-- (unravel/laurent.Poly).Mul -/
def b16 : AC :=
  .seq (.reg [⟨some 2, .box (.t 0), none⟩,
     ⟨some 3, .box (.t 1), none⟩,
     ⟨some 4, .new [.bool false, .nilS], none⟩] [2, 3, 4])
  (.seq (.seq (.reg [⟨some 13, .fldA 0 (.t 2), none⟩,
       ⟨some 14, .ld 1 false (.t 13), none⟩,
       ⟨some 15, .mv (.t 14), none⟩,
       ⟨some 16, .fldA 0 (.t 3), (some (15, false))⟩,
       ⟨some 17, .ld 1 false (.t 16), (some (15, false))⟩,
       ⟨some 18, .pick (.t 15) (.k (.sc (.bool true))) (.t 17), none⟩] [2, 3, 4, 18])
    (.cond (.t 18)
      (.seq (.reg [⟨some 19, .bld [.bool false, .nilS] [(0, 1, .k (.sc (.bool true)))], none⟩,
          ⟨none, .st 2 (.t 4) (.t 19), none⟩] [4])
       (.ret))
      (.skip)))
   (.seq (.seq (.reg [⟨some 20, .fldA 1 (.t 2), none⟩,
        ⟨some 21, .ld 1 false (.t 20), none⟩,
        ⟨some 22, .len false (.t 21), none⟩,
        ⟨some 23, .bin .eql (.t 22) (.k (.sc (.int .i64 0))), none⟩,
        ⟨some 24, .mv (.t 23), none⟩,
        ⟨some 25, .fldA 1 (.t 3), (some (24, false))⟩,
        ⟨some 26, .ld 1 false (.t 25), (some (24, false))⟩,
        ⟨some 27, .len false (.t 26), (some (24, false))⟩,
        ⟨some 28, .bin .eql (.t 27) (.k (.sc (.int .i64 0))), (some (24, false))⟩,
        ⟨some 29, .pick (.t 24) (.k (.sc (.bool true))) (.t 28), none⟩] [2, 3, 4, 29])
     (.cond (.t 29)
       (.seq (.reg [⟨some 30, .bld [.bool false, .nilS] [], none⟩,
           ⟨none, .st 2 (.t 4) (.t 30), none⟩] [4])
        (.ret))
       (.skip)))
    (.seq (.regd [(⟨some 31, .ld 2 true (.t 2), none⟩, 0, false),
        (⟨some 32, .call 27 [(.t 31)], none⟩, 1, false),
        (⟨some 33, .ld 2 true (.t 3), none⟩, 2, false),
        (⟨some 34, .call 27 [(.t 33)], none⟩, 3, false),
        (⟨some 35, .bin .add (.t 32) (.t 34), none⟩, 4, false),
        (⟨some 36, .ld 2 true (.t 2), none⟩, 5, false),
        (⟨some 37, .call 28 [(.t 36)], none⟩, 6, false),
        (⟨some 38, .ld 2 true (.t 3), none⟩, 7, false),
        (⟨some 39, .call 28 [(.t 38)], none⟩, 8, false),
        (⟨some 40, .bin .add (.t 37) (.t 39), none⟩, 9, false),
        (⟨some 5, .new [.int .i64 0], none⟩, 10, false),
        (⟨none, .st 1 (.t 5) (.t 35), none⟩, 11, true),
        (⟨some 6, .mv (.t 40), none⟩, 12, false)] [2, 3, 4, 5, 6])
     (.seq (.seq (.reg [⟨some 41, .ld 1 false (.t 5), none⟩,
          ⟨some 42, .bin .lss (.t 41) (.k (.sc (.int .i64 (-1048576)))), none⟩,
          ⟨some 43, .mv (.t 42), none⟩,
          ⟨some 44, .mv (.t 6), (some (43, false))⟩,
          ⟨some 45, .bin .gtr (.t 44) (.k (.sc (.int .i64 1048576))), (some (43, false))⟩,
          ⟨some 46, .pick (.t 43) (.k (.sc (.bool true))) (.t 45), none⟩] [2, 3, 4, 5, 6, 46])
       (.cond (.t 46)
         (.seq (.reg [⟨some 47, .bld [.bool false, .nilS] [(0, 1, .k (.sc (.bool true)))], none⟩,
             ⟨none, .st 2 (.t 4) (.t 47), none⟩] [4])
          (.ret))
         (.skip)))
      (.seq (.seq (.reg [⟨some 48, .mv (.t 6), none⟩,
           ⟨some 49, .ld 1 false (.t 5), none⟩,
           ⟨some 50, .bin .sub (.t 48) (.t 49), none⟩,
           ⟨some 51, .fldA 1 (.t 2), none⟩,
           ⟨some 52, .ld 1 false (.t 51), none⟩,
           ⟨some 53, .len false (.t 52), none⟩,
           ⟨some 54, .bin .mul (.k (.sc (.int .i64 4))) (.t 53), none⟩,
           ⟨some 55, .fldA 1 (.t 3), none⟩,
           ⟨some 56, .ld 1 false (.t 55), none⟩,
           ⟨some 57, .len false (.t 56), none⟩,
           ⟨some 58, .bin .mul (.t 54) (.t 57), none⟩,
           ⟨some 59, .bin .add (.k (.sc (.int .i64 64))) (.t 58), none⟩,
           ⟨some 60, .bin .gtr (.t 50) (.t 59), none⟩] [2, 3, 4, 5, 6, 60])
        (.cond (.t 60)
          (.seq (.reg [⟨some 61, .ld 2 true (.t 2), none⟩,
              ⟨some 62, .ld 2 true (.t 3), none⟩,
              ⟨some 63, .call 42 [(.t 61), (.t 62)], none⟩,
              ⟨none, .st 2 (.t 4) (.t 63), none⟩] [4])
           (.ret))
          (.skip)))
       (.seq (.reg [⟨some 64, .mv (.t 6), none⟩,
           ⟨some 65, .ld 1 false (.t 5), none⟩,
           ⟨some 66, .bin .sub (.t 64) (.t 65), none⟩,
           ⟨some 67, .bin .add (.t 66) (.k (.sc (.int .i64 1))), none⟩,
           ⟨some 68, .mk 2 16 [.int .u64 0, .int .u64 0] (.t 67) (.t 67), none⟩,
           ⟨some 7, .new [.nilS], none⟩,
           ⟨none, .st 1 (.t 7) (.t 68), none⟩] [2, 3, 4, 5, 7])
        (.seq (.reg [⟨some 69, .ld 2 true (.t 2), none⟩,
            ⟨some 70, .ld 2 true (.t 3), none⟩,
            ⟨some 71, .mkf 44 [(.t 7), (.t 5)], none⟩,
            ⟨some 72, .call 43 [(.t 69), (.t 70), (.t 71)], none⟩] [4, 5, 7])
         (.seq (.reg [⟨some 8, .new [.bool false, .nilS], none⟩] [4, 5, 7, 8])
          (.seq (.seq (.reg [⟨some 73, .ld 1 false (.t 7), none⟩,
               ⟨some 74, .len false (.t 73), none⟩,
               ⟨some 75, .mv (.k (.sc (.int .i64 0))), none⟩] [4, 5, 8, 73, 74, 75])
            (.block 0 (.loop [4, 5, 8, 73, 74, 75] b16L0)))
           (.seq (.reg [⟨some 101, .ld 2 true (.t 8), none⟩,
               ⟨none, .st 2 (.t 4) (.t 101), none⟩] [4])
            (.ret)))))))))))
def a16 : AFun := ⟨2, b16, [.cell 4 2 true]⟩

def b18L0 : AC :=
  .seq (.seq (.reg [⟨some 7, .mv (.t 6), none⟩,
      ⟨some 8, .mv (.t 1), none⟩,
      ⟨some 9, .len false (.t 8), none⟩,
      ⟨some 10, .bin .lss (.t 7) (.t 9), none⟩] [0, 1, 4, 5, 6, 10])
   (.cond (.t 10)
     (.skip)
     (.exit 0)))
  (.seq (.block 1 (.seq (.seq (.reg [⟨some 13, .mv (.t 1), none⟩,
         ⟨some 14, .mv (.t 6), none⟩,
         ⟨some 15, .idxA 1 (.t 13) (.t 14), none⟩,
         ⟨some 16, .ld 1 false (.t 15), none⟩,
         ⟨some 17, .bin .eql (.t 16) (.k (.sc (.int .i64 0))), none⟩] [0, 1, 4, 5, 6, 17])
      (.cond (.t 17)
        (.exit 1)
        (.skip)))
     (.seq (.seq (.reg [⟨some 18, .mv (.t 1), none⟩,
          ⟨some 19, .mv (.t 6), none⟩,
          ⟨some 20, .idxA 1 (.t 18) (.t 19), none⟩,
          ⟨some 21, .ld 1 false (.t 20), none⟩,
          ⟨some 22, .bin .lss (.t 21) (.k (.sc (.int .i64 (-1125899906842624)))), none⟩,
          ⟨some 23, .mv (.t 22), none⟩,
          ⟨some 24, .mv (.t 1), (some (23, false))⟩,
          ⟨some 25, .mv (.t 6), (some (23, false))⟩,
          ⟨some 26, .idxA 1 (.t 24) (.t 25), (some (23, false))⟩,
          ⟨some 27, .ld 1 false (.t 26), (some (23, false))⟩,
          ⟨some 28, .bin .gtr (.t 27) (.k (.sc (.int .i64 1125899906842624))), (some (23, false))⟩,
          ⟨some 29, .pick (.t 23) (.k (.sc (.bool true))) (.t 28), none⟩,
          ⟨some 30, .mv (.t 29), none⟩,
          ⟨some 31, .mv (.t 0), (some (30, false))⟩,
          ⟨some 32, .mv (.t 6), (some (30, false))⟩,
          ⟨some 33, .bin .add (.t 31) (.t 32), (some (30, false))⟩,
          ⟨some 34, .bin .lss (.t 33) (.k (.sc (.int .i64 (-1048576)))), (some (30, false))⟩,
          ⟨some 35, .pick (.t 30) (.k (.sc (.bool true))) (.t 34), none⟩,
          ⟨some 36, .mv (.t 35), none⟩,
          ⟨some 37, .mv (.t 0), (some (36, false))⟩,
          ⟨some 38, .mv (.t 6), (some (36, false))⟩,
          ⟨some 39, .bin .add (.t 37) (.t 38), (some (36, false))⟩,
          ⟨some 40, .bin .gtr (.t 39) (.k (.sc (.int .i64 1048576))), (some (36, false))⟩,
          ⟨some 41, .pick (.t 36) (.k (.sc (.bool true))) (.t 40), none⟩] [0, 1, 4, 5, 6, 41])
       (.cond (.t 41)
         (.seq (.reg [⟨some 42, .bld [.nilS, .bool false] [(1, 1, .k (.sc (.bool true)))], none⟩,
             ⟨none, .st 2 (.t 4) (.t 42), none⟩] [4])
          (.ret))
         (.skip)))
      (.regd [(⟨some 43, .fldA 0 (.t 5), none⟩, 0, false),
         (⟨some 44, .ld 1 false (.t 43), none⟩, 1, false),
         (⟨some 45, .mv (.t 0), none⟩, 2, false),
         (⟨some 46, .mv (.t 6), none⟩, 3, false),
         (⟨some 47, .bin .add (.t 45) (.t 46), none⟩, 4, false),
         (⟨some 48, .mv (.t 1), none⟩, 5, false),
         (⟨some 49, .mv (.t 6), none⟩, 6, false),
         (⟨some 50, .idxA 1 (.t 48) (.t 49), none⟩, 7, false),
         (⟨some 51, .ld 1 false (.t 50), none⟩, 8, false),
         (⟨some 52, .bld [.int .i64 0, .int .i64 0] [(0, 1, .t 47), (1, 1, .t 51)], none⟩, 9, false),
         (⟨some 53, .bsl 2 [.int .i64 0, .int .i64 0] 1 [(0, .t 52)], none⟩, 10, false),
         (⟨some 54, .app 2 16 [.int .i64 0, .int .i64 0] (.t 44) (.t 53), none⟩, 11, true),
         (⟨some 55, .fldA 0 (.t 5), none⟩, 12, false),
         (⟨none, .st 1 (.t 55) (.t 54), none⟩, 13, true)] [0, 1, 4, 5, 6]))))
   (.reg [⟨some 11, .mv (.t 6), none⟩,
      ⟨some 12, .bin .add (.t 11) (.k (.sc (.int .i64 1))), none⟩,
      ⟨some 6, .mv (.t 12), none⟩] [0, 1, 4, 5, 6]))
/-- unravel/unravelref12.Of -/
def b18 : AC :=
  .seq (.reg [⟨some 4, .new [.nilS, .bool false], none⟩] [0, 1, 4])
  (.seq (.reg [⟨some 5, .new [.nilS, .bool false], none⟩] [0, 1, 4, 5])
   (.seq (.seq (.reg [⟨some 6, .mv (.k (.sc (.int .i64 0))), none⟩] [0, 1, 4, 5, 6])
     (.block 0 (.loop [0, 1, 4, 5, 6] b18L0)))
    (.seq (.reg [⟨some 56, .ld 2 true (.t 5), none⟩,
        ⟨none, .st 2 (.t 4) (.t 56), none⟩] [4])
     (.ret))))
def a18 : AFun := ⟨2, b18, [.cell 4 2 true]⟩

def b19L0 : AC :=
  .seq (.seq (.reg [⟨some 12, .fldA 0 (.t 7), none⟩,
      ⟨some 13, .ld 1 false (.t 12), none⟩,
      ⟨some 14, .len false (.t 13), none⟩,
      ⟨some 15, .bin .gtr (.t 14) (.k (.sc (.int .i64 0))), none⟩] [2, 3, 4, 6, 7, 15])
   (.cond (.t 15)
     (.skip)
     (.exit 0)))
  (.block 1 (.seq (.regs [(⟨some 16, .fldA 0 (.t 7), none⟩, 0, false),
       (⟨some 17, .ld 1 false (.t 16), none⟩, 1, false),
       (⟨some 18, .idxA 2 (.t 17) (.k (.sc (.int .i64 0))), none⟩, 2, false),
       (⟨some 19, .ld 2 true (.t 18), none⟩, 3, false),
       (⟨some 20, .fldA 0 (.t 3), none⟩, 4, false),
       (⟨some 21, .ld 1 false (.t 20), none⟩, 5, false),
       (⟨some 22, .idxA 2 (.t 21) (.k (.sc (.int .i64 0))), none⟩, 6, false),
       (⟨some 23, .ld 2 true (.t 22), none⟩, 7, false),
       (⟨some 8, .new [.int .i64 0, .int .i64 0], none⟩, 8, false),
       (⟨some 9, .new [.int .i64 0, .int .i64 0], none⟩, 9, false),
       (⟨none, .st 2 (.t 8) (.t 19), none⟩, 10, true),
       (⟨none, .st 2 (.t 9) (.t 23), none⟩, 11, true)] [11] [2, 3, 4, 6, 7, 8, 9])
    (.seq (.seq (.reg [⟨some 24, .fldA 1 (.t 8), none⟩,
         ⟨some 25, .ld 1 false (.t 24), none⟩,
         ⟨some 26, .fldA 1 (.t 9), none⟩,
         ⟨some 27, .ld 1 false (.t 26), none⟩,
         ⟨some 28, .bin .rem (.t 25) (.t 27), none⟩,
         ⟨some 29, .bin .neq (.t 28) (.k (.sc (.int .i64 0))), none⟩] [2, 3, 4, 6, 7, 8, 9, 29])
      (.cond (.t 29)
        (.seq (.reg [⟨some 30, .bld [.nilS, .bool false] [], none⟩,
            ⟨none, .st 2 (.t 4) (.t 30), none⟩,
            ⟨some 5, .mv (.k (.sc (.bool false))), none⟩] [4, 5])
         (.ret))
        (.skip)))
     (.seq (.regd [(⟨some 31, .fldA 0 (.t 8), none⟩, 0, false),
         (⟨some 32, .ld 1 false (.t 31), none⟩, 1, false),
         (⟨some 33, .fldA 0 (.t 9), none⟩, 2, false),
         (⟨some 34, .ld 1 false (.t 33), none⟩, 3, false),
         (⟨some 35, .bin .sub (.t 32) (.t 34), none⟩, 4, false),
         (⟨some 36, .fldA 1 (.t 8), none⟩, 5, false),
         (⟨some 37, .ld 1 false (.t 36), none⟩, 6, false),
         (⟨some 38, .fldA 1 (.t 9), none⟩, 7, false),
         (⟨some 39, .ld 1 false (.t 38), none⟩, 8, false),
         (⟨some 40, .bin .quo (.t 37) (.t 39), none⟩, 9, false),
         (⟨some 41, .bld [.int .i64 0, .int .i64 0] [(0, 1, .t 35), (1, 1, .t 40)], none⟩, 10, false),
         (⟨some 42, .bsl 2 [.int .i64 0, .int .i64 0] 1 [(0, .t 41)], none⟩, 11, false),
         (⟨some 43, .bld [.nilS, .bool false] [(0, 1, .t 42)], none⟩, 12, false),
         (⟨some 10, .new [.nilS, .bool false], none⟩, 13, false),
         (⟨none, .st 2 (.t 10) (.t 43), none⟩, 14, true)] [2, 3, 4, 6, 7, 8, 9, 10])
      (.seq (.seq (.regd [(⟨some 44, .fldA 0 (.t 8), none⟩, 0, false),
           (⟨some 45, .ld 1 false (.t 44), none⟩, 1, false),
           (⟨some 46, .fldA 0 (.t 9), none⟩, 2, false),
           (⟨some 47, .ld 1 false (.t 46), none⟩, 3, false),
           (⟨some 48, .bin .sub (.t 45) (.t 47), none⟩, 4, false),
           (⟨some 49, .fldA 0 (.t 2), none⟩, 5, false),
           (⟨some 50, .ld 1 false (.t 49), none⟩, 6, false),
           (⟨some 51, .fldA 0 (.t 2), none⟩, 7, false),
           (⟨some 52, .ld 1 false (.t 51), none⟩, 8, false),
           (⟨some 53, .len false (.t 52), none⟩, 9, false),
           (⟨some 54, .bin .sub (.t 53) (.k (.sc (.int .i64 1))), none⟩, 10, false),
           (⟨some 55, .idxA 2 (.t 50) (.t 54), none⟩, 11, false),
           (⟨some 56, .fldA 0 (.t 55), none⟩, 12, false),
           (⟨some 57, .ld 1 false (.t 56), none⟩, 13, false),
           (⟨some 58, .fldA 0 (.t 3), none⟩, 14, false),
           (⟨some 59, .ld 1 false (.t 58), none⟩, 15, false),
           (⟨some 60, .fldA 0 (.t 3), none⟩, 16, false),
           (⟨some 61, .ld 1 false (.t 60), none⟩, 17, false),
           (⟨some 62, .len false (.t 61), none⟩, 18, false),
           (⟨some 63, .bin .sub (.t 62) (.k (.sc (.int .i64 1))), none⟩, 19, false),
           (⟨some 64, .idxA 2 (.t 59) (.t 63), none⟩, 20, false),
           (⟨some 65, .fldA 0 (.t 64), none⟩, 21, false),
           (⟨some 66, .ld 1 false (.t 65), none⟩, 22, false),
           (⟨some 67, .bin .sub (.t 57) (.t 66), none⟩, 23, false),
           (⟨some 68, .bin .gtr (.t 48) (.t 67), none⟩, 24, false)] [2, 3, 4, 6, 7, 10, 68])
        (.cond (.t 68)
          (.seq (.reg [⟨some 69, .bld [.nilS, .bool false] [], none⟩,
              ⟨none, .st 2 (.t 4) (.t 69), none⟩,
              ⟨some 5, .mv (.k (.sc (.bool false))), none⟩] [4, 5])
           (.ret))
          (.skip)))
       (.seq (.regd [(⟨some 70, .ld 2 true (.t 7), none⟩, 0, false),
           (⟨some 71, .ld 2 true (.t 10), none⟩, 1, false),
           (⟨some 72, .ld 2 true (.t 3), none⟩, 2, false),
           (⟨some 73, .call 49 [(.t 71), (.t 72)], none⟩, 3, false),
           (⟨some 74, .call 48 [(.t 73)], none⟩, 4, false),
           (⟨some 75, .call 47 [(.t 70), (.t 74)], none⟩, 5, true),
           (⟨none, .st 2 (.t 7) (.t 75), none⟩, 6, true)] [2, 3, 4, 6, 7, 10])
        (.seq (.seq (.reg [⟨some 76, .fldA 1 (.t 7), none⟩,
             ⟨some 77, .ld 1 false (.t 76), none⟩] [2, 3, 4, 6, 7, 10, 77])
          (.cond (.t 77)
            (.seq (.reg [⟨some 78, .bld [.nilS, .bool false] [], none⟩,
                ⟨none, .st 2 (.t 4) (.t 78), none⟩,
                ⟨some 5, .mv (.k (.sc (.bool false))), none⟩] [4, 5])
             (.ret))
            (.skip)))
         (.regd [(⟨some 79, .fldA 0 (.t 6), none⟩, 0, false),
            (⟨some 80, .ld 1 false (.t 79), none⟩, 1, false),
            (⟨some 81, .fldA 0 (.t 10), none⟩, 2, false),
            (⟨some 82, .ld 1 false (.t 81), none⟩, 3, false),
            (⟨some 83, .idxA 2 (.t 82) (.k (.sc (.int .i64 0))), none⟩, 4, false),
            (⟨some 84, .ld 2 true (.t 83), none⟩, 5, false),
            (⟨some 85, .bsl 2 [.int .i64 0, .int .i64 0] 1 [(0, .t 84)], none⟩, 6, false),
            (⟨some 86, .app 2 16 [.int .i64 0, .int .i64 0] (.t 80) (.t 85), none⟩, 7, true),
            (⟨some 87, .fldA 0 (.t 6), none⟩, 8, false),
            (⟨none, .st 1 (.t 87) (.t 86), none⟩, 9, true)] [2, 3, 4, 6, 7]))))))))
/-- unravel/unravelref12.Divides -/
def b19 : AC :=
  .seq (.reg [⟨some 2, .box (.t 0), none⟩,
     ⟨some 3, .box (.t 1), none⟩,
     ⟨some 4, .new [.nilS, .bool false], none⟩,
     ⟨some 5, .mv (.k (.sc (.bool false))), none⟩] [2, 3, 4])
  (.seq (.reg [⟨some 6, .new [.nilS, .bool false], none⟩] [2, 3, 4, 6])
   (.seq (.reg [⟨some 11, .ld 2 true (.t 2), none⟩,
       ⟨some 7, .new [.nilS, .bool false], none⟩,
       ⟨none, .st 2 (.t 7) (.t 11), none⟩] [2, 3, 4, 6, 7])
    (.seq (.block 0 (.loop [2, 3, 4, 6, 7] b19L0))
     (.seq (.reg [⟨some 88, .ld 2 true (.t 6), none⟩,
         ⟨none, .st 2 (.t 4) (.t 88), none⟩,
         ⟨some 5, .mv (.k (.sc (.bool true))), none⟩] [4, 5])
      (.ret)))))
def a19 : AFun := ⟨2, b19, [.cell 4 2 true, .t 5]⟩

/-- unravel/unravellaw12.same -/
def b20 : AC :=
  .seq (.reg [⟨some 2, .box (.t 0), none⟩,
     ⟨some 3, .box (.t 1), none⟩,
     ⟨some 4, .mv (.k (.sc (.bool false))), none⟩] [2, 3])
  (.seq (.regd [(⟨some 5, .ld 2 true (.t 2), none⟩, 0, false),
      (⟨some 6, .call 51 [(.t 5)], none⟩, 1, false),
      (⟨some 7, .ld 2 true (.t 3), none⟩, 2, false),
      (⟨some 8, .call 50 [(.t 6), (.t 7)], none⟩, 3, true),
      (⟨some 9, .mv (.t 8), none⟩, 4, false),
      (⟨some 10, .ld 2 true (.t 2), (some (9, true))⟩, 5, false),
      (⟨some 11, .call 34 [(.t 10), (.k (.sc (.str ⟨#[116]⟩)))], (some (9, true))⟩, 6, false),
      (⟨some 12, .ld 2 true (.t 3), (some (9, true))⟩, 7, false),
      (⟨some 13, .call 52 [(.t 12), (.k (.sc (.str ⟨#[116]⟩)))], (some (9, true))⟩, 8, true),
      (⟨some 14, .bin .eql (.t 11) (.t 13), (some (9, true))⟩, 9, false),
      (⟨some 15, .pick (.t 9) (.t 14) (.k (.sc (.bool false))), none⟩, 10, false),
      (⟨some 4, .mv (.t 15), none⟩, 11, false)] [4])
   (.ret))
def a20 : AFun := ⟨2, b20, [.t 4]⟩

/-- (unravel/laurent.Poly).Low -/
def b27 : AC :=
  .seq (.reg [⟨some 1, .box (.t 0), none⟩,
     ⟨some 2, .mv (.k (.sc (.int .i64 0))), none⟩] [1])
  (.seq (.seq (.reg [⟨some 3, .fldA 1 (.t 1), none⟩,
       ⟨some 4, .ld 1 false (.t 3), none⟩,
       ⟨some 5, .len false (.t 4), none⟩,
       ⟨some 6, .bin .eql (.t 5) (.k (.sc (.int .i64 0))), none⟩] [1, 6])
    (.cond (.t 6)
      (.seq (.reg [⟨some 2, .mv (.k (.sc (.int .i64 0))), none⟩] [2])
       (.ret))
      (.skip)))
   (.seq (.reg [⟨some 7, .fldA 1 (.t 1), none⟩,
       ⟨some 8, .ld 1 false (.t 7), none⟩,
       ⟨some 9, .idxA 2 (.t 8) (.k (.sc (.int .i64 0))), none⟩,
       ⟨some 10, .fldA 0 (.t 9), none⟩,
       ⟨some 11, .ld 1 false (.t 10), none⟩,
       ⟨some 2, .mv (.t 11), none⟩] [2])
    (.ret)))
def a27 : AFun := ⟨1, b27, [.t 2]⟩

/-- (unravel/laurent.Poly).High -/
def b28 : AC :=
  .seq (.reg [⟨some 1, .box (.t 0), none⟩,
     ⟨some 2, .mv (.k (.sc (.int .i64 0))), none⟩] [1])
  (.seq (.seq (.reg [⟨some 3, .fldA 1 (.t 1), none⟩,
       ⟨some 4, .ld 1 false (.t 3), none⟩,
       ⟨some 5, .len false (.t 4), none⟩,
       ⟨some 6, .bin .eql (.t 5) (.k (.sc (.int .i64 0))), none⟩] [1, 6])
    (.cond (.t 6)
      (.seq (.reg [⟨some 2, .mv (.k (.sc (.int .i64 0))), none⟩] [2])
       (.ret))
      (.skip)))
   (.seq (.reg [⟨some 7, .fldA 1 (.t 1), none⟩,
       ⟨some 8, .ld 1 false (.t 7), none⟩,
       ⟨some 9, .fldA 1 (.t 1), none⟩,
       ⟨some 10, .ld 1 false (.t 9), none⟩,
       ⟨some 11, .len false (.t 10), none⟩,
       ⟨some 12, .bin .sub (.t 11) (.k (.sc (.int .i64 1))), none⟩,
       ⟨some 13, .idxA 2 (.t 8) (.t 12), none⟩,
       ⟨some 14, .fldA 0 (.t 13), none⟩,
       ⟨some 15, .ld 1 false (.t 14), none⟩,
       ⟨some 2, .mv (.t 15), none⟩] [2])
    (.ret)))
def a28 : AFun := ⟨1, b28, [.t 2]⟩

/-- (unravel/laurent.Poly).Coef -/
def b29 : AC :=
  .seq (.reg [⟨some 2, .box (.t 0), none⟩,
     ⟨some 4, .mv (.k (.sc (.int .i64 0))), none⟩] [1, 2])
  (.seq (.reg [⟨some 8, .fldA 1 (.t 2), none⟩,
      ⟨some 9, .ld 1 false (.t 8), none⟩,
      ⟨some 10, .mv (.t 1), none⟩,
      ⟨some 11, .call 61 [(.t 9), (.t 10), (.k (.sc (.fn 62 [])))], none⟩,
      ⟨some 7, .mv (.t 11), none⟩,
      ⟨some 12, .ext (.t 7) 0, none⟩,
      ⟨some 13, .ext (.t 7) 1, none⟩,
      ⟨some 5, .mv (.t 12), none⟩,
      ⟨some 6, .mv (.t 13), none⟩] [2, 5, 6])
   (.seq (.seq (.reg [⟨some 14, .mv (.t 6), none⟩,
        ⟨some 15, .un .not (.t 14), none⟩] [2, 5, 15])
     (.cond (.t 15)
       (.seq (.reg [⟨some 4, .mv (.k (.sc (.int .i64 0))), none⟩] [4])
        (.ret))
       (.skip)))
    (.seq (.reg [⟨some 16, .fldA 1 (.t 2), none⟩,
        ⟨some 17, .ld 1 false (.t 16), none⟩,
        ⟨some 18, .mv (.t 5), none⟩,
        ⟨some 19, .idxA 2 (.t 17) (.t 18), none⟩,
        ⟨some 20, .fldA 1 (.t 19), none⟩,
        ⟨some 21, .ld 1 false (.t 20), none⟩,
        ⟨some 4, .mv (.t 21), none⟩] [4])
     (.ret))))
def a29 : AFun := ⟨2, b29, [.t 4]⟩

def b34L0 : AC :=
  .seq (.reg [⟨some 21, .bin .lss (.t 20) (.t 19), none⟩] [1, 5, 18, 19, 20, 21])
  (.seq (.cond (.t 21)
     (.skip)
     (.exit 1))
   (.seq (.block 2 (.seq (.reg [⟨some 22, .mv (.t 20), none⟩,
         ⟨some 23, .idxA 2 (.t 18) (.t 20), none⟩,
         ⟨some 24, .ld 2 true (.t 23), none⟩,
         ⟨some 7, .new [.int .i64 0, .int .i64 0], none⟩,
         ⟨some 6, .mv (.t 22), none⟩,
         ⟨none, .st 2 (.t 7) (.t 24), none⟩] [1, 5, 6, 7, 18, 19, 20])
      (.seq (.reg [⟨some 25, .fldA 1 (.t 7), none⟩,
          ⟨some 26, .ld 1 false (.t 25), none⟩,
          ⟨some 8, .mv (.t 26), none⟩] [1, 5, 6, 7, 8, 18, 19, 20])
       (.seq (.seq (.reg [⟨some 27, .mv (.t 8), none⟩,
            ⟨some 28, .bin .lss (.t 27) (.k (.sc (.int .i64 0))), none⟩] [1, 5, 6, 7, 8, 18, 19, 20, 28])
         (.cond (.t 28)
           (.seq (.reg [⟨some 29, .call 65 [(.t 5), (.k (.sc (.int .u8 45)))], none⟩] [1, 5, 7, 8, 18, 19, 20])
            (.reg [⟨some 30, .mv (.t 8), none⟩,
               ⟨some 31, .un .neg (.t 30), none⟩,
               ⟨some 8, .mv (.t 31), none⟩] [1, 5, 7, 8, 18, 19, 20]))
           (.seq (.reg [⟨some 32, .mv (.t 6), none⟩,
               ⟨some 33, .bin .gtr (.t 32) (.k (.sc (.int .i64 0))), none⟩] [1, 5, 7, 8, 18, 19, 20, 33])
            (.cond (.t 33)
              (.reg [⟨some 34, .call 65 [(.t 5), (.k (.sc (.int .u8 43)))], none⟩] [1, 5, 7, 8, 18, 19, 20])
              (.skip)))))
        (.seq (.seq (.reg [⟨some 35, .mv (.t 8), none⟩,
             ⟨some 36, .bin .neq (.t 35) (.k (.sc (.int .i64 1))), none⟩,
             ⟨some 37, .mv (.t 36), none⟩,
             ⟨some 38, .fldA 0 (.t 7), (some (37, false))⟩,
             ⟨some 39, .ld 1 false (.t 38), (some (37, false))⟩,
             ⟨some 40, .bin .eql (.t 39) (.k (.sc (.int .i64 0))), (some (37, false))⟩,
             ⟨some 41, .pick (.t 37) (.k (.sc (.bool true))) (.t 40), none⟩] [1, 5, 7, 8, 18, 19, 20, 41])
          (.cond (.t 41)
            (.reg [⟨some 42, .mv (.t 8), none⟩,
               ⟨some 43, .call 67 [(.t 42)], none⟩,
               ⟨some 44, .call 66 [(.t 5), (.t 43)], none⟩] [1, 5, 7, 18, 19, 20])
            (.skip)))
         (.seq (.seq (.reg [⟨some 45, .fldA 0 (.t 7), none⟩,
              ⟨some 46, .ld 1 false (.t 45), none⟩,
              ⟨some 47, .bin .neq (.t 46) (.k (.sc (.int .i64 0))), none⟩] [1, 5, 7, 18, 19, 20, 47])
           (.cond (.t 47)
             (.reg [⟨some 48, .mv (.t 1), none⟩,
                ⟨some 49, .call 66 [(.t 5), (.t 48)], none⟩] [1, 5, 7, 18, 19, 20])
             (.skip)))
          (.seq (.reg [⟨some 50, .fldA 0 (.t 7), none⟩,
              ⟨some 51, .ld 1 false (.t 50), none⟩,
              ⟨some 52, .bin .neq (.t 51) (.k (.sc (.int .i64 0))), none⟩,
              ⟨some 53, .mv (.t 52), none⟩,
              ⟨some 54, .fldA 0 (.t 7), (some (53, true))⟩,
              ⟨some 55, .ld 1 false (.t 54), (some (53, true))⟩,
              ⟨some 56, .bin .neq (.t 55) (.k (.sc (.int .i64 1))), (some (53, true))⟩,
              ⟨some 57, .pick (.t 53) (.t 56) (.k (.sc (.bool false))), none⟩] [1, 5, 7, 18, 19, 20, 57])
           (.cond (.t 57)
             (.seq (.reg [⟨some 58, .call 65 [(.t 5), (.k (.sc (.int .u8 94)))], none⟩] [1, 5, 7, 18, 19, 20])
              (.reg [⟨some 59, .fldA 0 (.t 7), none⟩,
                 ⟨some 60, .ld 1 false (.t 59), none⟩,
                 ⟨some 61, .call 67 [(.t 60)], none⟩,
                 ⟨some 62, .call 66 [(.t 5), (.t 61)], none⟩] [1, 5, 18, 19, 20]))
             (.skip)))))))))
    (.reg [⟨some 63, .bin .add (.t 20) (.k (.sc (.int .i64 1))), none⟩,
       ⟨some 20, .mv (.t 63), none⟩] [1, 5, 18, 19, 20])))
/-- (unravel/laurent.Poly).Text -/
def b34 : AC :=
  .seq (.reg [⟨some 2, .box (.t 0), none⟩,
     ⟨some 4, .mv (.k (.sc (.str ⟨#[]⟩))), none⟩] [1, 2])
  (.seq (.block 0 (.seq (.reg [⟨some 10, .fldA 0 (.t 2), none⟩,
        ⟨some 11, .ld 1 false (.t 10), none⟩,
        ⟨some 9, .mv (.t 11), none⟩] [1, 2, 9])
     (.cond (.t 9)
       (.seq (.reg [⟨some 4, .mv (.k (.sc (.str ⟨#[98, 105, 103]⟩))), none⟩] [4])
        (.ret))
       (.seq (.reg [⟨some 13, .fldA 1 (.t 2), none⟩,
           ⟨some 14, .ld 1 false (.t 13), none⟩,
           ⟨some 15, .len false (.t 14), none⟩,
           ⟨some 16, .bin .eql (.t 15) (.k (.sc (.int .i64 0))), none⟩,
           ⟨some 12, .mv (.t 16), none⟩] [1, 2, 12])
        (.cond (.t 12)
          (.seq (.reg [⟨some 4, .mv (.k (.sc (.str ⟨#[48]⟩))), none⟩] [4])
           (.ret))
          (.skip))))))
   (.seq (.reg [⟨some 5, .newT 90 [.nilP, .nilS], none⟩] [1, 2, 5])
    (.seq (.seq (.reg [⟨some 17, .fldA 1 (.t 2), none⟩,
         ⟨some 18, .ld 1 false (.t 17), none⟩,
         ⟨some 19, .len false (.t 18), none⟩,
         ⟨some 20, .mv (.k (.sc (.int .i64 0))), none⟩] [1, 5, 18, 19, 20])
      (.block 1 (.loop [1, 5, 18, 19, 20] b34L0)))
     (.seq (.reg [⟨some 64, .call 68 [(.t 5)], none⟩,
         ⟨some 4, .mv (.t 64), none⟩] [4])
      (.ret)))))
def a34 : AFun := ⟨2, b34, [.t 4]⟩

/-- unravel/laurent.within -/
def b35 : AC :=
  .seq (.reg [⟨some 4, .mv (.k (.sc (.bool false))), none⟩] [0, 1])
  (.seq (.reg [⟨some 5, .mv (.t 0), none⟩,
      ⟨some 6, .mv (.t 1), none⟩,
      ⟨some 7, .un .neg (.t 6), none⟩,
      ⟨some 8, .bin .geq (.t 5) (.t 7), none⟩,
      ⟨some 9, .mv (.t 8), none⟩,
      ⟨some 10, .mv (.t 0), (some (9, true))⟩,
      ⟨some 11, .mv (.t 1), (some (9, true))⟩,
      ⟨some 12, .bin .leq (.t 10) (.t 11), (some (9, true))⟩,
      ⟨some 13, .pick (.t 9) (.t 12) (.k (.sc (.bool false))), none⟩,
      ⟨some 4, .mv (.t 13), none⟩] [4])
   (.ret))
def a35 : AFun := ⟨2, b35, [.t 4]⟩

def b36L0 : AC :=
  .seq (.reg [⟨some 19, .bin .lss (.t 18) (.t 17), none⟩] [3, 4, 6, 16, 17, 18, 19])
  (.seq (.cond (.t 19)
     (.skip)
     (.exit 0))
   (.seq (.block 1 (.seq (.reg [⟨some 20, .idxA 2 (.t 16) (.t 18), none⟩,
         ⟨some 21, .ld 2 true (.t 20), none⟩,
         ⟨some 8, .new [.int .i64 0, .int .i64 0], none⟩,
         ⟨none, .st 2 (.t 8) (.t 21), none⟩] [3, 4, 6, 8, 16, 17, 18])
      (.seq (.reg [⟨some 22, .fldA 0 (.t 8), none⟩,
          ⟨some 23, .ld 1 false (.t 22), none⟩,
          ⟨some 24, .fldA 0 (.t 3), none⟩,
          ⟨some 25, .ld 1 false (.t 24), none⟩,
          ⟨some 26, .bin .sub (.t 23) (.t 25), none⟩,
          ⟨some 9, .mv (.t 26), none⟩] [3, 4, 6, 8, 9, 16, 17, 18])
       (.seq (.seq (.reg [⟨some 27, .fldA 1 (.t 8), none⟩,
            ⟨some 28, .ld 1 false (.t 27), none⟩,
            ⟨some 29, .fldA 1 (.t 3), none⟩,
            ⟨some 30, .ld 1 false (.t 29), none⟩,
            ⟨some 31, .bin .rem (.t 28) (.t 30), none⟩,
            ⟨some 32, .bin .neq (.t 31) (.k (.sc (.int .i64 0))), none⟩,
            ⟨some 33, .mv (.t 32), none⟩,
            ⟨some 34, .mv (.t 9), (some (33, false))⟩,
            ⟨some 35, .call 35 [(.t 34), (.k (.sc (.int .i64 1048576)))], (some (33, false))⟩,
            ⟨some 36, .un .not (.t 35), (some (33, false))⟩,
            ⟨some 37, .pick (.t 33) (.k (.sc (.bool true))) (.t 36), none⟩] [3, 4, 6, 8, 9, 16, 17, 18, 37])
         (.cond (.t 37)
           (.seq (.reg [⟨some 38, .bld [.bool false, .nilS] [], none⟩,
               ⟨none, .st 2 (.t 4) (.t 38), none⟩,
               ⟨some 5, .mv (.k (.sc (.int .i64 10))), none⟩] [4, 5])
            (.ret))
           (.skip)))
        (.regd [(⟨some 39, .fldA 1 (.t 6), none⟩, 0, false),
           (⟨some 40, .ld 1 false (.t 39), none⟩, 1, false),
           (⟨some 41, .mv (.t 9), none⟩, 2, false),
           (⟨some 42, .fldA 1 (.t 8), none⟩, 3, false),
           (⟨some 43, .ld 1 false (.t 42), none⟩, 4, false),
           (⟨some 44, .fldA 1 (.t 3), none⟩, 5, false),
           (⟨some 45, .ld 1 false (.t 44), none⟩, 6, false),
           (⟨some 46, .bin .quo (.t 43) (.t 45), none⟩, 7, false),
           (⟨some 47, .bld [.int .i64 0, .int .i64 0] [(0, 1, .t 41), (1, 1, .t 46)], none⟩, 8, false),
           (⟨some 48, .bsl 2 [.int .i64 0, .int .i64 0] 1 [(0, .t 47)], none⟩, 9, false),
           (⟨some 49, .app 2 16 [.int .i64 0, .int .i64 0] (.t 40) (.t 48), none⟩, 10, true),
           (⟨some 50, .fldA 1 (.t 6), none⟩, 11, false),
           (⟨none, .st 1 (.t 50) (.t 49), none⟩, 12, true)] [3, 4, 6, 16, 17, 18])))))
    (.reg [⟨some 51, .bin .add (.t 18) (.k (.sc (.int .i64 1))), none⟩,
       ⟨some 18, .mv (.t 51), none⟩] [3, 4, 6, 16, 17, 18])))
/-- unravel/laurent.divide -/
def b36 : AC :=
  .seq (.reg [⟨some 2, .box (.t 0), none⟩,
     ⟨some 3, .box (.t 1), none⟩,
     ⟨some 4, .new [.bool false, .nilS], none⟩,
     ⟨some 5, .mv (.k (.sc (.int .i64 0))), none⟩] [2, 3, 4])
  (.seq (.reg [⟨some 10, .fldA 1 (.t 2), none⟩,
      ⟨some 11, .ld 1 false (.t 10), none⟩,
      ⟨some 12, .len false (.t 11), none⟩,
      ⟨some 13, .mk 2 16 [.int .i64 0, .int .i64 0] (.k (.sc (.int .i64 0))) (.t 12), none⟩,
      ⟨some 14, .bld [.bool false, .nilS] [(1, 1, .t 13)], none⟩,
      ⟨some 6, .new [.bool false, .nilS], none⟩,
      ⟨none, .st 2 (.t 6) (.t 14), none⟩] [2, 3, 4, 6])
   (.seq (.seq (.reg [⟨some 15, .fldA 1 (.t 2), none⟩,
        ⟨some 16, .ld 1 false (.t 15), none⟩,
        ⟨some 17, .len false (.t 16), none⟩,
        ⟨some 18, .mv (.k (.sc (.int .i64 0))), none⟩] [3, 4, 6, 16, 17, 18])
     (.block 0 (.loop [3, 4, 6, 16, 17, 18] b36L0)))
    (.seq (.reg [⟨some 52, .ld 2 true (.t 6), none⟩,
        ⟨none, .st 2 (.t 4) (.t 52), none⟩,
        ⟨some 5, .mv (.k (.sc (.int .i64 0))), none⟩] [4, 5])
     (.ret))))
def a36 : AFun := ⟨2, b36, [.cell 4 2 true, .t 5]⟩

/-- unravel/laurent.widen -/
def b37 : AC :=
  .seq (.reg [⟨some 2, .new [.int .u64 0, .int .u64 0], none⟩] [0, 2])
  (.seq (.reg [⟨some 3, .mv (.t 0), none⟩,
      ⟨some 4, .bin .shr (.t 3) (.k (.sc (.int .u64 63))), none⟩,
      ⟨some 5, .conv .u64 (.t 4), none⟩,
      ⟨some 6, .mv (.t 0), none⟩,
      ⟨some 7, .conv .u64 (.t 6), none⟩,
      ⟨some 8, .bld [.int .u64 0, .int .u64 0] [(0, 1, .t 5), (1, 1, .t 7)], none⟩,
      ⟨none, .st 2 (.t 2) (.t 8), none⟩] [2])
   (.ret))
def a37 : AFun := ⟨1, b37, [.cell 2 2 true]⟩

/-- (unravel/laurent.wide).zero -/
def b38 : AC :=
  .seq (.reg [⟨some 1, .box (.t 0), none⟩,
     ⟨some 2, .mv (.k (.sc (.bool false))), none⟩] [1])
  (.seq (.reg [⟨some 3, .fldA 0 (.t 1), none⟩,
      ⟨some 4, .ld 1 false (.t 3), none⟩,
      ⟨some 5, .bin .eql (.t 4) (.k (.sc (.int .u64 0))), none⟩,
      ⟨some 6, .mv (.t 5), none⟩,
      ⟨some 7, .fldA 1 (.t 1), (some (6, true))⟩,
      ⟨some 8, .ld 1 false (.t 7), (some (6, true))⟩,
      ⟨some 9, .bin .eql (.t 8) (.k (.sc (.int .u64 0))), (some (6, true))⟩,
      ⟨some 10, .pick (.t 6) (.t 9) (.k (.sc (.bool false))), none⟩,
      ⟨some 2, .mv (.t 10), none⟩] [2])
   (.ret))
def a38 : AFun := ⟨1, b38, [.t 2]⟩

/-- (unravel/laurent.wide).quotient -/
def b39 : AC :=
  .seq (.reg [⟨some 2, .box (.t 0), none⟩,
     ⟨some 4, .mv (.k (.sc (.int .i64 0))), none⟩,
     ⟨some 5, .mv (.k (.sc (.bool false))), none⟩] [1, 2])
  (.seq (.reg [⟨some 12, .ld 2 true (.t 2), none⟩,
      ⟨some 13, .call 69 [(.t 12)], none⟩,
      ⟨some 11, .mv (.t 13), none⟩,
      ⟨some 14, .ext (.t 11) 0, none⟩,
      ⟨some 15, .ext (.t 11) 1, none⟩,
      ⟨some 6, .new [.int .u64 0, .int .u64 0], none⟩,
      ⟨none, .st 2 (.t 6) (.t 14), none⟩,
      ⟨some 7, .mv (.t 15), none⟩] [1, 6, 7])
   (.seq (.reg [⟨some 16, .mv (.t 1), none⟩,
       ⟨some 17, .call 70 [(.t 16)], none⟩,
       ⟨some 8, .mv (.t 17), none⟩] [1, 6, 7, 8])
    (.seq (.seq (.reg [⟨some 18, .fldA 0 (.t 6), none⟩,
         ⟨some 19, .ld 1 false (.t 18), none⟩,
         ⟨some 20, .mv (.t 8), none⟩,
         ⟨some 21, .bin .geq (.t 19) (.t 20), none⟩] [1, 6, 7, 8, 21])
      (.cond (.t 21)
        (.seq (.reg [⟨some 4, .mv (.k (.sc (.int .i64 0))), none⟩,
            ⟨some 5, .mv (.k (.sc (.bool false))), none⟩] [4, 5])
         (.ret))
        (.skip)))
     (.seq (.reg [⟨some 23, .fldA 0 (.t 6), none⟩,
         ⟨some 24, .ld 1 false (.t 23), none⟩,
         ⟨some 25, .fldA 1 (.t 6), none⟩,
         ⟨some 26, .ld 1 false (.t 25), none⟩,
         ⟨some 27, .mv (.t 8), none⟩,
         ⟨some 28, .call 71 [(.t 24), (.t 26), (.t 27)], none⟩,
         ⟨some 22, .mv (.t 28), none⟩,
         ⟨some 29, .ext (.t 22) 0, none⟩,
         ⟨some 30, .ext (.t 22) 1, none⟩,
         ⟨some 9, .mv (.t 29), none⟩,
         ⟨some 10, .mv (.t 30), none⟩] [1, 7, 9, 10])
      (.seq (.seq (.reg [⟨some 31, .mv (.t 10), none⟩,
           ⟨some 32, .bin .neq (.t 31) (.k (.sc (.int .u64 0))), none⟩,
           ⟨some 33, .mv (.t 32), none⟩,
           ⟨some 34, .mv (.t 9), (some (33, false))⟩,
           ⟨some 35, .bin .gtr (.t 34) (.k (.sc (.int .u64 1125899906842624))), (some (33, false))⟩,
           ⟨some 36, .pick (.t 33) (.k (.sc (.bool true))) (.t 35), none⟩] [1, 7, 9, 36])
        (.cond (.t 36)
          (.seq (.reg [⟨some 4, .mv (.k (.sc (.int .i64 0))), none⟩,
              ⟨some 5, .mv (.k (.sc (.bool false))), none⟩] [4, 5])
           (.ret))
          (.skip)))
       (.seq (.seq (.reg [⟨some 37, .mv (.t 7), none⟩,
            ⟨some 38, .mv (.t 1), none⟩,
            ⟨some 39, .bin .lss (.t 38) (.k (.sc (.int .i64 0))), none⟩,
            ⟨some 40, .beq true (.t 37) (.t 39), none⟩] [9, 40])
         (.cond (.t 40)
           (.seq (.reg [⟨some 41, .mv (.t 9), none⟩,
               ⟨some 42, .conv .i64 (.t 41), none⟩,
               ⟨some 43, .un .neg (.t 42), none⟩,
               ⟨some 4, .mv (.t 43), none⟩,
               ⟨some 5, .mv (.k (.sc (.bool true))), none⟩] [4, 5])
            (.ret))
           (.skip)))
        (.seq (.reg [⟨some 44, .mv (.t 9), none⟩,
            ⟨some 45, .conv .i64 (.t 44), none⟩,
            ⟨some 4, .mv (.t 45), none⟩,
            ⟨some 5, .mv (.k (.sc (.bool true))), none⟩] [4, 5])
         (.ret))))))))
def a39 : AFun := ⟨2, b39, [.t 4, .t 5]⟩

/-- (unravel/laurent.wide).add -/
def b40 : AC :=
  .seq (.reg [⟨some 2, .box (.t 0), none⟩,
     ⟨some 3, .box (.t 1), none⟩,
     ⟨some 4, .new [.int .u64 0, .int .u64 0], none⟩] [2, 3, 4])
  (.seq (.reg [⟨some 10, .fldA 1 (.t 2), none⟩,
      ⟨some 11, .ld 1 false (.t 10), none⟩,
      ⟨some 12, .fldA 1 (.t 3), none⟩,
      ⟨some 13, .ld 1 false (.t 12), none⟩,
      ⟨some 14, .car false (.t 11) (.t 13) (.k (.sc (.int .u64 0))), none⟩,
      ⟨some 9, .mv (.t 14), none⟩,
      ⟨some 15, .ext (.t 9) 0, none⟩,
      ⟨some 16, .ext (.t 9) 1, none⟩,
      ⟨some 5, .mv (.t 15), none⟩,
      ⟨some 6, .mv (.t 16), none⟩] [2, 3, 4, 5, 6])
   (.seq (.reg [⟨some 18, .fldA 0 (.t 2), none⟩,
       ⟨some 19, .ld 1 false (.t 18), none⟩,
       ⟨some 20, .fldA 0 (.t 3), none⟩,
       ⟨some 21, .ld 1 false (.t 20), none⟩,
       ⟨some 22, .mv (.t 6), none⟩,
       ⟨some 23, .car false (.t 19) (.t 21) (.t 22), none⟩,
       ⟨some 17, .mv (.t 23), none⟩,
       ⟨some 24, .ext (.t 17) 0, none⟩,
       ⟨some 25, .ext (.t 17) 1, none⟩,
       ⟨some 7, .mv (.t 24), none⟩,
       ⟨some 8, .mv (.t 25), none⟩] [4, 5, 7])
    (.seq (.reg [⟨some 26, .mv (.t 7), none⟩,
        ⟨some 27, .mv (.t 5), none⟩,
        ⟨some 28, .bld [.int .u64 0, .int .u64 0] [(0, 1, .t 26), (1, 1, .t 27)], none⟩,
        ⟨none, .st 2 (.t 4) (.t 28), none⟩] [4])
     (.ret))))
def a40 : AFun := ⟨2, b40, [.cell 4 2 true]⟩

/-- unravel/laurent.product -/
def b41 : AC :=
  .seq (.reg [⟨some 4, .new [.int .u64 0, .int .u64 0], none⟩] [0, 1, 4])
  (.seq (.reg [⟨some 9, .mv (.t 0), none⟩,
      ⟨some 10, .call 70 [(.t 9)], none⟩,
      ⟨some 11, .mv (.t 1), none⟩,
      ⟨some 12, .call 70 [(.t 11)], none⟩,
      ⟨some 13, .call 73 [(.t 10), (.t 12)], none⟩,
      ⟨some 8, .mv (.t 13), none⟩,
      ⟨some 14, .ext (.t 8) 0, none⟩,
      ⟨some 15, .ext (.t 8) 1, none⟩,
      ⟨some 5, .mv (.t 14), none⟩,
      ⟨some 6, .mv (.t 15), none⟩] [0, 1, 4, 5, 6])
   (.seq (.reg [⟨some 16, .mv (.t 5), none⟩,
       ⟨some 17, .mv (.t 6), none⟩,
       ⟨some 18, .bld [.int .u64 0, .int .u64 0] [(0, 1, .t 16), (1, 1, .t 17)], none⟩,
       ⟨some 7, .new [.int .u64 0, .int .u64 0], none⟩,
       ⟨none, .st 2 (.t 7) (.t 18), none⟩] [0, 1, 4, 7])
    (.seq (.seq (.reg [⟨some 19, .mv (.t 0), none⟩,
         ⟨some 20, .bin .lss (.t 19) (.k (.sc (.int .i64 0))), none⟩,
         ⟨some 21, .mv (.t 1), none⟩,
         ⟨some 22, .bin .lss (.t 21) (.k (.sc (.int .i64 0))), none⟩,
         ⟨some 23, .beq true (.t 20) (.t 22), none⟩] [4, 7, 23])
      (.cond (.t 23)
        (.seq (.reg [⟨some 24, .ld 2 true (.t 7), none⟩,
            ⟨some 25, .call 74 [(.t 24)], none⟩,
            ⟨none, .st 2 (.t 4) (.t 25), none⟩] [4])
         (.ret))
        (.skip)))
     (.seq (.reg [⟨some 26, .ld 2 true (.t 7), none⟩,
         ⟨none, .st 2 (.t 4) (.t 26), none⟩] [4])
      (.ret)))))
def a41 : AFun := ⟨2, b41, [.cell 4 2 true]⟩

def b42L0 : AC :=
  .seq (.reg [⟨some 21, .bin .lss (.t 20) (.t 19), none⟩] [4, 5, 6, 18, 19, 20, 21])
  (.seq (.cond (.t 21)
     (.skip)
     (.exit 0))
   (.seq (.block 1 (.seq (.reg [⟨some 22, .idxA 1 (.t 18) (.t 20), none⟩,
         ⟨some 23, .ld 1 false (.t 22), none⟩,
         ⟨some 8, .mv (.t 23), none⟩] [4, 5, 6, 8, 18, 19, 20])
      (.seq (.reg [⟨some 25, .ld 1 false (.t 5), none⟩,
          ⟨some 26, .mv (.t 8), none⟩,
          ⟨some 27, .mpL ⟨1001002, none⟩ [.int .u64 0, .int .u64 0] false (.t 25) (.t 26), none⟩,
          ⟨some 28, .call 45 [(.t 27)], none⟩,
          ⟨some 24, .mv (.t 28), none⟩,
          ⟨some 29, .ext (.t 24) 0, none⟩,
          ⟨some 30, .ext (.t 24) 1, none⟩,
          ⟨some 9, .mv (.t 29), none⟩,
          ⟨some 10, .mv (.t 30), none⟩] [4, 5, 6, 8, 9, 10, 18, 19, 20])
       (.seq (.seq (.reg [⟨some 31, .mv (.t 10), none⟩,
            ⟨some 32, .un .not (.t 31), none⟩] [4, 5, 6, 8, 9, 18, 19, 20, 32])
         (.cond (.t 32)
           (.seq (.reg [⟨some 33, .bld [.bool false, .nilS] [(0, 1, .k (.sc (.bool true)))], none⟩,
               ⟨none, .st 2 (.t 4) (.t 33), none⟩] [4])
            (.ret))
           (.skip)))
        (.seq (.reg [⟨some 34, .mv (.t 9), none⟩,
            ⟨some 35, .bin .neq (.t 34) (.k (.sc (.int .i64 0))), none⟩] [4, 5, 6, 8, 9, 18, 19, 20, 35])
         (.cond (.t 35)
           (.reg [⟨some 36, .fldA 1 (.t 6), none⟩,
              ⟨some 37, .ld 1 false (.t 36), none⟩,
              ⟨some 38, .mv (.t 8), none⟩,
              ⟨some 39, .mv (.t 9), none⟩,
              ⟨some 40, .bld [.int .i64 0, .int .i64 0] [(0, 1, .t 38), (1, 1, .t 39)], none⟩,
              ⟨some 41, .bsl 2 [.int .i64 0, .int .i64 0] 1 [(0, .t 40)], none⟩,
              ⟨some 42, .app 2 16 [.int .i64 0, .int .i64 0] (.t 37) (.t 41), none⟩,
              ⟨some 43, .fldA 1 (.t 6), none⟩,
              ⟨none, .st 1 (.t 43) (.t 42), none⟩] [4, 5, 6, 18, 19, 20])
           (.skip)))))))
    (.reg [⟨some 44, .bin .add (.t 20) (.k (.sc (.int .i64 1))), none⟩,
       ⟨some 20, .mv (.t 44), none⟩] [4, 5, 6, 18, 19, 20])))
/-- unravel/laurent.sparse -/
def b42 : AC :=
  .seq (.reg [⟨some 2, .box (.t 0), none⟩,
     ⟨some 3, .box (.t 1), none⟩,
     ⟨some 4, .new [.bool false, .nilS], none⟩] [2, 3, 4])
  (.seq (.reg [⟨some 11, .mpM ⟨1001002, none⟩, none⟩,
      ⟨some 5, .new [.nilM], none⟩,
      ⟨none, .st 1 (.t 5) (.t 11), none⟩] [2, 3, 4, 5])
   (.seq (.reg [⟨some 12, .ld 2 true (.t 2), none⟩,
       ⟨some 13, .ld 2 true (.t 3), none⟩,
       ⟨some 14, .mkf 75 [(.t 5)], none⟩,
       ⟨some 15, .call 43 [(.t 12), (.t 13), (.t 14)], none⟩] [4, 5])
    (.seq (.reg [⟨some 6, .new [.bool false, .nilS], none⟩] [4, 5, 6])
     (.seq (.seq (.reg [⟨some 16, .ld 1 false (.t 5), none⟩,
          ⟨some 17, .call 77 [(.t 16)], none⟩,
          ⟨some 18, .call 76 [(.t 17)], none⟩,
          ⟨some 19, .len false (.t 18), none⟩,
          ⟨some 20, .mv (.k (.sc (.int .i64 0))), none⟩] [4, 5, 6, 18, 19, 20])
       (.block 0 (.loop [4, 5, 6, 18, 19, 20] b42L0)))
      (.seq (.reg [⟨some 45, .ld 2 true (.t 6), none⟩,
          ⟨none, .st 2 (.t 4) (.t 45), none⟩] [4])
       (.ret))))))
def a42 : AFun := ⟨2, b42, [.cell 4 2 true]⟩

def b43L1 : AC :=
  .seq (.reg [⟨some 21, .bin .lss (.t 20) (.t 19), none⟩] [2, 4, 7, 11, 12, 13, 18, 19, 20, 21])
  (.seq (.cond (.t 21)
     (.skip)
     (.exit 2))
   (.seq (.block 3 (.seq (.reg [⟨some 22, .idxA 2 (.t 18) (.t 20), none⟩,
         ⟨some 23, .ld 2 true (.t 22), none⟩,
         ⟨some 9, .new [.int .i64 0, .int .i64 0], none⟩,
         ⟨none, .st 2 (.t 9) (.t 23), none⟩] [2, 4, 7, 9, 11, 12, 13, 18, 19, 20])
      (.regd [(⟨some 24, .mv (.t 2), none⟩, 0, false),
         (⟨some 25, .fldA 0 (.t 7), none⟩, 1, false),
         (⟨some 26, .ld 1 false (.t 25), none⟩, 2, false),
         (⟨some 27, .fldA 0 (.t 9), none⟩, 3, false),
         (⟨some 28, .ld 1 false (.t 27), none⟩, 4, false),
         (⟨some 29, .bin .add (.t 26) (.t 28), none⟩, 5, false),
         (⟨some 30, .fldA 1 (.t 7), none⟩, 6, false),
         (⟨some 31, .ld 1 false (.t 30), none⟩, 7, false),
         (⟨some 32, .fldA 1 (.t 9), none⟩, 8, false),
         (⟨some 33, .ld 1 false (.t 32), none⟩, 9, false),
         (⟨some 34, .call 41 [(.t 31), (.t 33)], none⟩, 10, false),
         (⟨some 35, .callv (.t 24) [(.t 29), (.t 34)], none⟩, 11, true)] [2, 4, 7, 11, 12, 13, 18, 19, 20])))
    (.reg [⟨some 36, .bin .add (.t 20) (.k (.sc (.int .i64 1))), none⟩,
       ⟨some 20, .mv (.t 36), none⟩] [2, 4, 7, 11, 12, 13, 18, 19, 20])))
def b43L0 : AC :=
  .seq (.reg [⟨some 14, .bin .lss (.t 13) (.t 12), none⟩] [2, 4, 11, 12, 13, 14])
  (.seq (.cond (.t 14)
     (.skip)
     (.exit 0))
   (.seq (.block 1 (.seq (.reg [⟨some 15, .idxA 2 (.t 11) (.t 13), none⟩,
         ⟨some 16, .ld 2 true (.t 15), none⟩,
         ⟨some 7, .new [.int .i64 0, .int .i64 0], none⟩,
         ⟨none, .st 2 (.t 7) (.t 16), none⟩] [2, 4, 7, 11, 12, 13])
      (.seq (.reg [⟨some 17, .fldA 1 (.t 4), none⟩,
          ⟨some 18, .ld 1 false (.t 17), none⟩,
          ⟨some 19, .len false (.t 18), none⟩,
          ⟨some 20, .mv (.k (.sc (.int .i64 0))), none⟩] [2, 4, 7, 11, 12, 13, 18, 19, 20])
       (.block 2 (.loop [2, 4, 7, 11, 12, 13, 18, 19, 20] b43L1)))))
    (.reg [⟨some 37, .bin .add (.t 13) (.k (.sc (.int .i64 1))), none⟩,
       ⟨some 13, .mv (.t 37), none⟩] [2, 4, 11, 12, 13])))
/-- unravel/laurent.products -/
def b43 : AC :=
  .seq (.reg [⟨some 3, .box (.t 0), none⟩,
     ⟨some 4, .box (.t 1), none⟩] [2, 3, 4])
  (.seq (.reg [⟨some 10, .fldA 1 (.t 3), none⟩,
      ⟨some 11, .ld 1 false (.t 10), none⟩,
      ⟨some 12, .len false (.t 11), none⟩,
      ⟨some 13, .mv (.k (.sc (.int .i64 0))), none⟩] [2, 4, 11, 12, 13])
   (.block 0 (.loop [2, 4, 11, 12, 13] b43L0)))
def a43 : AFun := ⟨3, b43, []⟩

/-- (unravel/laurent.Poly).Mul$1 -/
def b44 : AC :=
  .seq (.reg [⟨some 5, .box (.t 1), none⟩] [0, 2, 3, 5])
  (.regd [(⟨some 6, .ld 1 false (.t 2), none⟩, 0, false),
     (⟨some 7, .mv (.t 0), none⟩, 1, false),
     (⟨some 8, .ld 1 false (.t 3), none⟩, 2, false),
     (⟨some 9, .bin .sub (.t 7) (.t 8), none⟩, 3, false),
     (⟨some 10, .ld 1 false (.t 2), none⟩, 4, false),
     (⟨some 11, .mv (.t 0), none⟩, 5, false),
     (⟨some 12, .ld 1 false (.t 3), none⟩, 6, false),
     (⟨some 13, .bin .sub (.t 11) (.t 12), none⟩, 7, false),
     (⟨some 14, .idxA 2 (.t 10) (.t 13), none⟩, 8, false),
     (⟨some 15, .ld 2 true (.t 14), none⟩, 9, false),
     (⟨some 16, .ld 2 true (.t 5), none⟩, 10, false),
     (⟨some 17, .call 40 [(.t 15), (.t 16)], none⟩, 11, false),
     (⟨some 18, .idxA 2 (.t 6) (.t 9), none⟩, 12, false),
     (⟨none, .st 2 (.t 18) (.t 17), none⟩, 13, true)] [])
def a44 : AFun := ⟨4, b44, []⟩

/-- (unravel/laurent.wide).small -/
def b45 : AC :=
  .seq (.reg [⟨some 1, .box (.t 0), none⟩,
     ⟨some 2, .mv (.k (.sc (.int .i64 0))), none⟩,
     ⟨some 3, .mv (.k (.sc (.bool false))), none⟩] [1])
  (.seq (.reg [⟨some 7, .ld 2 true (.t 1), none⟩,
      ⟨some 8, .call 69 [(.t 7)], none⟩,
      ⟨some 6, .mv (.t 8), none⟩,
      ⟨some 9, .ext (.t 6) 0, none⟩,
      ⟨some 10, .ext (.t 6) 1, none⟩,
      ⟨some 4, .new [.int .u64 0, .int .u64 0], none⟩,
      ⟨none, .st 2 (.t 4) (.t 9), none⟩,
      ⟨some 5, .mv (.t 10), none⟩] [4, 5])
   (.seq (.seq (.reg [⟨some 11, .fldA 0 (.t 4), none⟩,
        ⟨some 12, .ld 1 false (.t 11), none⟩,
        ⟨some 13, .bin .neq (.t 12) (.k (.sc (.int .u64 0))), none⟩,
        ⟨some 14, .mv (.t 13), none⟩,
        ⟨some 15, .fldA 1 (.t 4), (some (14, false))⟩,
        ⟨some 16, .ld 1 false (.t 15), (some (14, false))⟩,
        ⟨some 17, .bin .gtr (.t 16) (.k (.sc (.int .u64 1125899906842624))), (some (14, false))⟩,
        ⟨some 18, .pick (.t 14) (.k (.sc (.bool true))) (.t 17), none⟩] [4, 5, 18])
     (.cond (.t 18)
       (.seq (.reg [⟨some 2, .mv (.k (.sc (.int .i64 0))), none⟩,
           ⟨some 3, .mv (.k (.sc (.bool false))), none⟩] [2, 3])
        (.ret))
       (.skip)))
    (.seq (.seq (.reg [⟨some 19, .mv (.t 5), none⟩] [4, 19])
      (.cond (.t 19)
        (.seq (.reg [⟨some 20, .fldA 1 (.t 4), none⟩,
            ⟨some 21, .ld 1 false (.t 20), none⟩,
            ⟨some 22, .conv .i64 (.t 21), none⟩,
            ⟨some 23, .un .neg (.t 22), none⟩,
            ⟨some 2, .mv (.t 23), none⟩,
            ⟨some 3, .mv (.k (.sc (.bool true))), none⟩] [2, 3])
         (.ret))
        (.skip)))
     (.seq (.reg [⟨some 24, .fldA 1 (.t 4), none⟩,
         ⟨some 25, .ld 1 false (.t 24), none⟩,
         ⟨some 26, .conv .i64 (.t 25), none⟩,
         ⟨some 2, .mv (.t 26), none⟩,
         ⟨some 3, .mv (.k (.sc (.bool true))), none⟩] [2, 3])
      (.ret)))))
def a45 : AFun := ⟨1, b45, [.t 2, .t 3]⟩

def b47L0 : AC :=
  .seq (.seq (.reg [⟨some 16, .mv (.t 7), none⟩,
      ⟨some 17, .fldA 0 (.t 2), none⟩,
      ⟨some 18, .ld 1 false (.t 17), none⟩,
      ⟨some 19, .len false (.t 18), none⟩,
      ⟨some 20, .bin .lss (.t 16) (.t 19), none⟩] [2, 3, 4, 5, 6, 7, 20])
   (.cond (.t 20)
     (.skip)
     (.exit 0)))
  (.seq (.block 1 (.regd [(⟨some 24, .mv (.t 5), none⟩, 0, false),
       (⟨some 25, .mv (.t 6), none⟩, 1, false),
       (⟨some 26, .fldA 0 (.t 2), none⟩, 2, false),
       (⟨some 27, .ld 1 false (.t 26), none⟩, 3, false),
       (⟨some 28, .mv (.t 7), none⟩, 4, false),
       (⟨some 29, .idxA 2 (.t 27) (.t 28), none⟩, 5, false),
       (⟨some 30, .fldA 0 (.t 29), none⟩, 6, false),
       (⟨some 31, .ld 1 false (.t 30), none⟩, 7, false),
       (⟨some 32, .fldA 0 (.t 2), none⟩, 8, false),
       (⟨some 33, .ld 1 false (.t 32), none⟩, 9, false),
       (⟨some 34, .mv (.t 7), none⟩, 10, false),
       (⟨some 35, .idxA 2 (.t 33) (.t 34), none⟩, 11, false),
       (⟨some 36, .fldA 1 (.t 35), none⟩, 12, false),
       (⟨some 37, .ld 1 false (.t 36), none⟩, 13, false),
       (⟨some 38, .call 79 [(.t 37), (.k (.sc (.int .i64 1)))], none⟩, 14, false),
       (⟨some 39, .call 78 [(.t 24), (.t 25), (.t 31), (.t 38)], none⟩, 15, true),
       (⟨some 23, .mv (.t 39), none⟩, 16, false),
       (⟨some 40, .ext (.t 23) 0, none⟩, 17, false),
       (⟨some 41, .ext (.t 23) 1, none⟩, 18, false),
       (⟨some 5, .mv (.t 40), none⟩, 19, false),
       (⟨some 6, .mv (.t 41), none⟩, 20, false)] [2, 3, 4, 5, 6, 7]))
   (.reg [⟨some 21, .mv (.t 7), none⟩,
      ⟨some 22, .bin .add (.t 21) (.k (.sc (.int .i64 1))), none⟩,
      ⟨some 7, .mv (.t 22), none⟩] [2, 3, 4, 5, 6, 7]))
def b47L1 : AC :=
  .seq (.seq (.reg [⟨some 42, .mv (.t 8), none⟩,
      ⟨some 43, .fldA 0 (.t 3), none⟩,
      ⟨some 44, .ld 1 false (.t 43), none⟩,
      ⟨some 45, .len false (.t 44), none⟩,
      ⟨some 46, .bin .lss (.t 42) (.t 45), none⟩] [3, 4, 5, 6, 8, 46])
   (.cond (.t 46)
     (.skip)
     (.exit 2)))
  (.seq (.block 3 (.regd [(⟨some 50, .mv (.t 5), none⟩, 0, false),
       (⟨some 51, .mv (.t 6), none⟩, 1, false),
       (⟨some 52, .fldA 0 (.t 3), none⟩, 2, false),
       (⟨some 53, .ld 1 false (.t 52), none⟩, 3, false),
       (⟨some 54, .mv (.t 8), none⟩, 4, false),
       (⟨some 55, .idxA 2 (.t 53) (.t 54), none⟩, 5, false),
       (⟨some 56, .fldA 0 (.t 55), none⟩, 6, false),
       (⟨some 57, .ld 1 false (.t 56), none⟩, 7, false),
       (⟨some 58, .fldA 0 (.t 3), none⟩, 8, false),
       (⟨some 59, .ld 1 false (.t 58), none⟩, 9, false),
       (⟨some 60, .mv (.t 8), none⟩, 10, false),
       (⟨some 61, .idxA 2 (.t 59) (.t 60), none⟩, 11, false),
       (⟨some 62, .fldA 1 (.t 61), none⟩, 12, false),
       (⟨some 63, .ld 1 false (.t 62), none⟩, 13, false),
       (⟨some 64, .call 79 [(.t 63), (.k (.sc (.int .i64 1)))], none⟩, 14, false),
       (⟨some 65, .call 78 [(.t 50), (.t 51), (.t 57), (.t 64)], none⟩, 15, true),
       (⟨some 49, .mv (.t 65), none⟩, 16, false),
       (⟨some 66, .ext (.t 49) 0, none⟩, 17, false),
       (⟨some 67, .ext (.t 49) 1, none⟩, 18, false),
       (⟨some 5, .mv (.t 66), none⟩, 19, false),
       (⟨some 6, .mv (.t 67), none⟩, 20, false)] [3, 4, 5, 6, 8]))
   (.reg [⟨some 47, .mv (.t 8), none⟩,
      ⟨some 48, .bin .add (.t 47) (.k (.sc (.int .i64 1))), none⟩,
      ⟨some 8, .mv (.t 48), none⟩] [3, 4, 5, 6, 8]))
/-- unravel/unravelref12.Add -/
def b47 : AC :=
  .seq (.reg [⟨some 2, .box (.t 0), none⟩,
     ⟨some 3, .box (.t 1), none⟩,
     ⟨some 4, .new [.nilS, .bool false], none⟩] [2, 3, 4])
  (.seq (.seq (.reg [⟨some 9, .fldA 1 (.t 2), none⟩,
       ⟨some 10, .ld 1 false (.t 9), none⟩,
       ⟨some 11, .mv (.t 10), none⟩,
       ⟨some 12, .fldA 1 (.t 3), (some (11, false))⟩,
       ⟨some 13, .ld 1 false (.t 12), (some (11, false))⟩,
       ⟨some 14, .pick (.t 11) (.k (.sc (.bool true))) (.t 13), none⟩] [2, 3, 4, 14])
    (.cond (.t 14)
      (.seq (.reg [⟨some 15, .bld [.nilS, .bool false] [(1, 1, .k (.sc (.bool true)))], none⟩,
          ⟨none, .st 2 (.t 4) (.t 15), none⟩] [4])
       (.ret))
      (.skip)))
   (.seq (.reg [⟨some 5, .mv (.k (.sc .nilS)), none⟩] [2, 3, 4, 5])
    (.seq (.reg [⟨some 6, .mv (.k (.sc .nilS)), none⟩] [2, 3, 4, 5, 6])
     (.seq (.seq (.reg [⟨some 7, .mv (.k (.sc (.int .i64 0))), none⟩] [2, 3, 4, 5, 6, 7])
       (.block 0 (.loop [2, 3, 4, 5, 6, 7] b47L0)))
      (.seq (.seq (.reg [⟨some 8, .mv (.k (.sc (.int .i64 0))), none⟩] [3, 4, 5, 6, 8])
        (.block 2 (.loop [3, 4, 5, 6, 8] b47L1)))
       (.seq (.reg [⟨some 68, .mv (.t 5), none⟩,
           ⟨some 69, .mv (.t 6), none⟩,
           ⟨some 70, .call 80 [(.t 68), (.t 69)], none⟩,
           ⟨none, .st 2 (.t 4) (.t 70), none⟩] [4])
        (.ret)))))))
def a47 : AFun := ⟨2, b47, [.cell 4 2 true]⟩

def b48L0 : AC :=
  .seq (.seq (.reg [⟨some 8, .mv (.t 4), none⟩,
      ⟨some 9, .fldA 0 (.t 1), none⟩,
      ⟨some 10, .ld 1 false (.t 9), none⟩,
      ⟨some 11, .len false (.t 10), none⟩,
      ⟨some 12, .bin .lss (.t 8) (.t 11), none⟩] [1, 2, 3, 4, 12])
   (.cond (.t 12)
     (.skip)
     (.exit 0)))
  (.seq (.block 1 (.regd [(⟨some 15, .fldA 0 (.t 3), none⟩, 0, false),
       (⟨some 16, .ld 1 false (.t 15), none⟩, 1, false),
       (⟨some 17, .fldA 0 (.t 1), none⟩, 2, false),
       (⟨some 18, .ld 1 false (.t 17), none⟩, 3, false),
       (⟨some 19, .mv (.t 4), none⟩, 4, false),
       (⟨some 20, .idxA 2 (.t 18) (.t 19), none⟩, 5, false),
       (⟨some 21, .fldA 0 (.t 20), none⟩, 6, false),
       (⟨some 22, .ld 1 false (.t 21), none⟩, 7, false),
       (⟨some 23, .fldA 0 (.t 1), none⟩, 8, false),
       (⟨some 24, .ld 1 false (.t 23), none⟩, 9, false),
       (⟨some 25, .mv (.t 4), none⟩, 10, false),
       (⟨some 26, .idxA 2 (.t 24) (.t 25), none⟩, 11, false),
       (⟨some 27, .fldA 1 (.t 26), none⟩, 12, false),
       (⟨some 28, .ld 1 false (.t 27), none⟩, 13, false),
       (⟨some 29, .un .neg (.t 28), none⟩, 14, false),
       (⟨some 30, .bld [.int .i64 0, .int .i64 0] [(0, 1, .t 22), (1, 1, .t 29)], none⟩, 15, false),
       (⟨some 31, .bsl 2 [.int .i64 0, .int .i64 0] 1 [(0, .t 30)], none⟩, 16, false),
       (⟨some 32, .app 2 16 [.int .i64 0, .int .i64 0] (.t 16) (.t 31), none⟩, 17, true),
       (⟨some 33, .fldA 0 (.t 3), none⟩, 18, false),
       (⟨none, .st 1 (.t 33) (.t 32), none⟩, 19, true)] [1, 2, 3, 4]))
   (.reg [⟨some 13, .mv (.t 4), none⟩,
      ⟨some 14, .bin .add (.t 13) (.k (.sc (.int .i64 1))), none⟩,
      ⟨some 4, .mv (.t 14), none⟩] [1, 2, 3, 4]))
/-- unravel/unravelref12.Neg -/
def b48 : AC :=
  .seq (.reg [⟨some 1, .box (.t 0), none⟩,
     ⟨some 2, .new [.nilS, .bool false], none⟩] [1, 2])
  (.seq (.reg [⟨some 5, .fldA 1 (.t 1), none⟩,
      ⟨some 6, .ld 1 false (.t 5), none⟩,
      ⟨some 7, .bld [.nilS, .bool false] [(1, 1, .t 6)], none⟩,
      ⟨some 3, .new [.nilS, .bool false], none⟩,
      ⟨none, .st 2 (.t 3) (.t 7), none⟩] [1, 2, 3])
   (.seq (.seq (.reg [⟨some 4, .mv (.k (.sc (.int .i64 0))), none⟩] [1, 2, 3, 4])
     (.block 0 (.loop [1, 2, 3, 4] b48L0)))
    (.seq (.reg [⟨some 34, .ld 2 true (.t 3), none⟩,
        ⟨none, .st 2 (.t 2) (.t 34), none⟩] [2])
     (.ret))))
def a48 : AFun := ⟨1, b48, [.cell 2 2 true]⟩

def b49L1 : AC :=
  .seq (.seq (.reg [⟨some 23, .mv (.t 8), none⟩,
      ⟨some 24, .fldA 0 (.t 3), none⟩,
      ⟨some 25, .ld 1 false (.t 24), none⟩,
      ⟨some 26, .len false (.t 25), none⟩,
      ⟨some 27, .bin .lss (.t 23) (.t 26), none⟩] [2, 3, 4, 5, 6, 7, 8, 27])
   (.cond (.t 27)
     (.skip)
     (.exit 2)))
  (.seq (.block 3 (.regd [(⟨some 31, .mv (.t 5), none⟩, 0, false),
       (⟨some 32, .mv (.t 6), none⟩, 1, false),
       (⟨some 33, .fldA 0 (.t 2), none⟩, 2, false),
       (⟨some 34, .ld 1 false (.t 33), none⟩, 3, false),
       (⟨some 35, .mv (.t 7), none⟩, 4, false),
       (⟨some 36, .idxA 2 (.t 34) (.t 35), none⟩, 5, false),
       (⟨some 37, .fldA 0 (.t 36), none⟩, 6, false),
       (⟨some 38, .ld 1 false (.t 37), none⟩, 7, false),
       (⟨some 39, .fldA 0 (.t 3), none⟩, 8, false),
       (⟨some 40, .ld 1 false (.t 39), none⟩, 9, false),
       (⟨some 41, .mv (.t 8), none⟩, 10, false),
       (⟨some 42, .idxA 2 (.t 40) (.t 41), none⟩, 11, false),
       (⟨some 43, .fldA 0 (.t 42), none⟩, 12, false),
       (⟨some 44, .ld 1 false (.t 43), none⟩, 13, false),
       (⟨some 45, .bin .add (.t 38) (.t 44), none⟩, 14, false),
       (⟨some 46, .fldA 0 (.t 2), none⟩, 15, false),
       (⟨some 47, .ld 1 false (.t 46), none⟩, 16, false),
       (⟨some 48, .mv (.t 7), none⟩, 17, false),
       (⟨some 49, .idxA 2 (.t 47) (.t 48), none⟩, 18, false),
       (⟨some 50, .fldA 1 (.t 49), none⟩, 19, false),
       (⟨some 51, .ld 1 false (.t 50), none⟩, 20, false),
       (⟨some 52, .fldA 0 (.t 3), none⟩, 21, false),
       (⟨some 53, .ld 1 false (.t 52), none⟩, 22, false),
       (⟨some 54, .mv (.t 8), none⟩, 23, false),
       (⟨some 55, .idxA 2 (.t 53) (.t 54), none⟩, 24, false),
       (⟨some 56, .fldA 1 (.t 55), none⟩, 25, false),
       (⟨some 57, .ld 1 false (.t 56), none⟩, 26, false),
       (⟨some 58, .call 79 [(.t 51), (.t 57)], none⟩, 27, false),
       (⟨some 59, .call 78 [(.t 31), (.t 32), (.t 45), (.t 58)], none⟩, 28, true),
       (⟨some 30, .mv (.t 59), none⟩, 29, false),
       (⟨some 60, .ext (.t 30) 0, none⟩, 30, false),
       (⟨some 61, .ext (.t 30) 1, none⟩, 31, false),
       (⟨some 5, .mv (.t 60), none⟩, 32, false),
       (⟨some 6, .mv (.t 61), none⟩, 33, false)] [2, 3, 4, 5, 6, 7, 8]))
   (.reg [⟨some 28, .mv (.t 8), none⟩,
      ⟨some 29, .bin .add (.t 28) (.k (.sc (.int .i64 1))), none⟩,
      ⟨some 8, .mv (.t 29), none⟩] [2, 3, 4, 5, 6, 7, 8]))
def b49L0 : AC :=
  .seq (.seq (.reg [⟨some 16, .mv (.t 7), none⟩,
      ⟨some 17, .fldA 0 (.t 2), none⟩,
      ⟨some 18, .ld 1 false (.t 17), none⟩,
      ⟨some 19, .len false (.t 18), none⟩,
      ⟨some 20, .bin .lss (.t 16) (.t 19), none⟩] [2, 3, 4, 5, 6, 7, 20])
   (.cond (.t 20)
     (.skip)
     (.exit 0)))
  (.seq (.block 1 (.seq (.reg [⟨some 8, .mv (.k (.sc (.int .i64 0))), none⟩] [2, 3, 4, 5, 6, 7, 8])
     (.block 2 (.loop [2, 3, 4, 5, 6, 7, 8] b49L1))))
   (.reg [⟨some 21, .mv (.t 7), none⟩,
      ⟨some 22, .bin .add (.t 21) (.k (.sc (.int .i64 1))), none⟩,
      ⟨some 7, .mv (.t 22), none⟩] [2, 3, 4, 5, 6, 7]))
/-- unravel/unravelref12.Mul -/
def b49 : AC :=
  .seq (.reg [⟨some 2, .box (.t 0), none⟩,
     ⟨some 3, .box (.t 1), none⟩,
     ⟨some 4, .new [.nilS, .bool false], none⟩] [2, 3, 4])
  (.seq (.seq (.reg [⟨some 9, .fldA 1 (.t 2), none⟩,
       ⟨some 10, .ld 1 false (.t 9), none⟩,
       ⟨some 11, .mv (.t 10), none⟩,
       ⟨some 12, .fldA 1 (.t 3), (some (11, false))⟩,
       ⟨some 13, .ld 1 false (.t 12), (some (11, false))⟩,
       ⟨some 14, .pick (.t 11) (.k (.sc (.bool true))) (.t 13), none⟩] [2, 3, 4, 14])
    (.cond (.t 14)
      (.seq (.reg [⟨some 15, .bld [.nilS, .bool false] [(1, 1, .k (.sc (.bool true)))], none⟩,
          ⟨none, .st 2 (.t 4) (.t 15), none⟩] [4])
       (.ret))
      (.skip)))
   (.seq (.reg [⟨some 5, .mv (.k (.sc .nilS)), none⟩] [2, 3, 4, 5])
    (.seq (.reg [⟨some 6, .mv (.k (.sc .nilS)), none⟩] [2, 3, 4, 5, 6])
     (.seq (.seq (.reg [⟨some 7, .mv (.k (.sc (.int .i64 0))), none⟩] [2, 3, 4, 5, 6, 7])
       (.block 0 (.loop [2, 3, 4, 5, 6, 7] b49L0)))
      (.seq (.reg [⟨some 62, .mv (.t 5), none⟩,
          ⟨some 63, .mv (.t 6), none⟩,
          ⟨some 64, .call 80 [(.t 62), (.t 63)], none⟩,
          ⟨none, .st 2 (.t 4) (.t 64), none⟩] [4])
       (.ret))))))
def a49 : AFun := ⟨2, b49, [.cell 4 2 true]⟩

def b50L0 : AC :=
  .seq (.seq (.reg [⟨some 25, .mv (.t 5), none⟩,
      ⟨some 26, .fldA 0 (.t 2), none⟩,
      ⟨some 27, .ld 1 false (.t 26), none⟩,
      ⟨some 28, .len false (.t 27), none⟩,
      ⟨some 29, .bin .lss (.t 25) (.t 28), none⟩] [2, 3, 5, 29])
   (.cond (.t 29)
     (.skip)
     (.exit 0)))
  (.seq (.block 1 (.seq (.regd [(⟨some 32, .fldA 0 (.t 2), none⟩, 0, false),
        (⟨some 33, .ld 1 false (.t 32), none⟩, 1, false),
        (⟨some 34, .mv (.t 5), none⟩, 2, false),
        (⟨some 35, .idxA 2 (.t 33) (.t 34), none⟩, 3, false),
        (⟨some 36, .ld 2 true (.t 35), none⟩, 4, false),
        (⟨some 37, .fldA 0 (.t 3), none⟩, 5, false),
        (⟨some 38, .ld 1 false (.t 37), none⟩, 6, false),
        (⟨some 39, .mv (.t 5), none⟩, 7, false),
        (⟨some 40, .idxA 2 (.t 38) (.t 39), none⟩, 8, false),
        (⟨some 41, .ld 2 true (.t 40), none⟩, 9, false),
        (⟨some 42, .seq2 true (.t 36) (.t 41), none⟩, 10, true)] [2, 3, 5, 42])
     (.cond (.t 42)
       (.seq (.reg [⟨some 4, .mv (.k (.sc (.bool false))), none⟩] [4])
        (.ret))
       (.skip))))
   (.reg [⟨some 30, .mv (.t 5), none⟩,
      ⟨some 31, .bin .add (.t 30) (.k (.sc (.int .i64 1))), none⟩,
      ⟨some 5, .mv (.t 31), none⟩] [2, 3, 5]))
/-- unravel/unravelref12.Equal -/
def b50 : AC :=
  .seq (.reg [⟨some 2, .box (.t 0), none⟩,
     ⟨some 3, .box (.t 1), none⟩,
     ⟨some 4, .mv (.k (.sc (.bool false))), none⟩] [2, 3])
  (.seq (.seq (.reg [⟨some 6, .fldA 1 (.t 2), none⟩,
       ⟨some 7, .ld 1 false (.t 6), none⟩,
       ⟨some 8, .mv (.t 7), none⟩,
       ⟨some 9, .fldA 1 (.t 3), (some (8, false))⟩,
       ⟨some 10, .ld 1 false (.t 9), (some (8, false))⟩,
       ⟨some 11, .pick (.t 8) (.k (.sc (.bool true))) (.t 10), none⟩] [2, 3, 11])
    (.cond (.t 11)
      (.seq (.reg [⟨some 12, .fldA 1 (.t 2), none⟩,
          ⟨some 13, .ld 1 false (.t 12), none⟩,
          ⟨some 14, .mv (.t 13), none⟩,
          ⟨some 15, .fldA 1 (.t 3), (some (14, true))⟩,
          ⟨some 16, .ld 1 false (.t 15), (some (14, true))⟩,
          ⟨some 17, .pick (.t 14) (.t 16) (.k (.sc (.bool false))), none⟩,
          ⟨some 4, .mv (.t 17), none⟩] [4])
       (.ret))
      (.skip)))
   (.seq (.seq (.reg [⟨some 18, .fldA 0 (.t 2), none⟩,
        ⟨some 19, .ld 1 false (.t 18), none⟩,
        ⟨some 20, .len false (.t 19), none⟩,
        ⟨some 21, .fldA 0 (.t 3), none⟩,
        ⟨some 22, .ld 1 false (.t 21), none⟩,
        ⟨some 23, .len false (.t 22), none⟩,
        ⟨some 24, .bin .neq (.t 20) (.t 23), none⟩] [2, 3, 24])
     (.cond (.t 24)
       (.seq (.reg [⟨some 4, .mv (.k (.sc (.bool false))), none⟩] [4])
        (.ret))
       (.skip)))
    (.seq (.seq (.reg [⟨some 5, .mv (.k (.sc (.int .i64 0))), none⟩] [2, 3, 5])
      (.block 0 (.loop [2, 3, 5] b50L0)))
     (.seq (.reg [⟨some 4, .mv (.k (.sc (.bool true))), none⟩] [4])
      (.ret)))))
def a50 : AFun := ⟨2, b50, [.t 4]⟩

def b51L0 : AC :=
  .seq (.seq (.reg [⟨some 12, .mv (.t 4), none⟩,
      ⟨some 13, .ld 2 true (.t 1), none⟩,
      ⟨some 14, .call 28 [(.t 13)], none⟩,
      ⟨some 15, .mm false (.t 14) [(.k (.sc (.int .i64 300)))], none⟩,
      ⟨some 16, .bin .leq (.t 12) (.t 15), none⟩] [1, 2, 3, 4, 16])
   (.cond (.t 16)
     (.skip)
     (.exit 0)))
  (.seq (.block 1 (.seq (.reg [⟨some 19, .ld 2 true (.t 1), none⟩,
        ⟨some 20, .mv (.t 4), none⟩,
        ⟨some 21, .call 29 [(.t 19), (.t 20)], none⟩,
        ⟨some 5, .mv (.t 21), none⟩] [1, 2, 3, 4, 5])
     (.seq (.reg [⟨some 22, .mv (.t 5), none⟩,
         ⟨some 23, .bin .neq (.t 22) (.k (.sc (.int .i64 0))), none⟩] [1, 2, 3, 4, 5, 23])
      (.cond (.t 23)
        (.reg [⟨some 24, .fldA 0 (.t 3), none⟩,
           ⟨some 25, .ld 1 false (.t 24), none⟩,
           ⟨some 26, .mv (.t 4), none⟩,
           ⟨some 27, .mv (.t 5), none⟩,
           ⟨some 28, .bld [.int .i64 0, .int .i64 0] [(0, 1, .t 26), (1, 1, .t 27)], none⟩,
           ⟨some 29, .bsl 2 [.int .i64 0, .int .i64 0] 1 [(0, .t 28)], none⟩,
           ⟨some 30, .app 2 16 [.int .i64 0, .int .i64 0] (.t 25) (.t 29), none⟩,
           ⟨some 31, .fldA 0 (.t 3), none⟩,
           ⟨none, .st 1 (.t 31) (.t 30), none⟩] [1, 2, 3, 4])
        (.skip)))))
   (.reg [⟨some 17, .mv (.t 4), none⟩,
      ⟨some 18, .bin .add (.t 17) (.k (.sc (.int .i64 1))), none⟩,
      ⟨some 4, .mv (.t 18), none⟩] [1, 2, 3, 4]))
/-- unravel/unravellaw12.Plain -/
def b51 : AC :=
  .seq (.reg [⟨some 1, .box (.t 0), none⟩,
     ⟨some 2, .new [.nilS, .bool false], none⟩] [1, 2])
  (.seq (.reg [⟨some 6, .ld 2 true (.t 1), none⟩,
      ⟨some 7, .call 14 [(.t 6)], none⟩,
      ⟨some 8, .bld [.nilS, .bool false] [(1, 1, .t 7)], none⟩,
      ⟨some 3, .new [.nilS, .bool false], none⟩,
      ⟨none, .st 2 (.t 3) (.t 8), none⟩] [1, 2, 3])
   (.seq (.seq (.reg [⟨some 9, .ld 2 true (.t 1), none⟩,
        ⟨some 10, .call 27 [(.t 9)], none⟩,
        ⟨some 11, .mm true (.t 10) [(.k (.sc (.int .i64 (-300))))], none⟩,
        ⟨some 4, .mv (.t 11), none⟩] [1, 2, 3, 4])
     (.block 0 (.loop [1, 2, 3, 4] b51L0)))
    (.seq (.reg [⟨some 32, .ld 2 true (.t 3), none⟩,
        ⟨none, .st 2 (.t 2) (.t 32), none⟩] [2])
     (.ret))))
def a51 : AFun := ⟨1, b51, [.cell 2 2 true]⟩

def b52L0 : AC :=
  .seq (.seq (.reg [⟨some 15, .mv (.t 6), none⟩,
      ⟨some 16, .fldA 0 (.t 2), none⟩,
      ⟨some 17, .ld 1 false (.t 16), none⟩,
      ⟨some 18, .len false (.t 17), none⟩,
      ⟨some 19, .bin .lss (.t 15) (.t 18), none⟩] [1, 2, 5, 6, 19])
   (.cond (.t 19)
     (.skip)
     (.exit 0)))
  (.seq (.block 1 (.seq (.reg [⟨some 22, .fldA 0 (.t 2), none⟩,
        ⟨some 23, .ld 1 false (.t 22), none⟩,
        ⟨some 24, .mv (.t 6), none⟩,
        ⟨some 25, .idxA 2 (.t 23) (.t 24), none⟩,
        ⟨some 26, .ld 2 true (.t 25), none⟩,
        ⟨some 7, .new [.int .i64 0, .int .i64 0], none⟩,
        ⟨none, .st 2 (.t 7) (.t 26), none⟩] [1, 2, 5, 6, 7])
     (.seq (.reg [⟨some 27, .fldA 1 (.t 7), none⟩,
         ⟨some 28, .ld 1 false (.t 27), none⟩,
         ⟨some 8, .mv (.t 28), none⟩] [1, 2, 5, 6, 7, 8])
      (.seq (.seq (.reg [⟨some 29, .fldA 1 (.t 7), none⟩,
           ⟨some 30, .ld 1 false (.t 29), none⟩,
           ⟨some 31, .bin .lss (.t 30) (.k (.sc (.int .i64 0))), none⟩] [1, 2, 5, 6, 7, 8, 31])
        (.cond (.t 31)
          (.seq (.reg [⟨some 32, .mv (.t 5), none⟩,
              ⟨some 33, .bin .add (.t 32) (.k (.sc (.str ⟨#[45]⟩))), none⟩,
              ⟨some 5, .mv (.t 33), none⟩] [1, 2, 5, 6, 7])
           (.reg [⟨some 34, .fldA 1 (.t 7), none⟩,
              ⟨some 35, .ld 1 false (.t 34), none⟩,
              ⟨some 36, .un .neg (.t 35), none⟩,
              ⟨some 8, .mv (.t 36), none⟩] [1, 2, 5, 6, 7, 8]))
          (.seq (.reg [⟨some 37, .mv (.t 6), none⟩,
              ⟨some 38, .bin .gtr (.t 37) (.k (.sc (.int .i64 0))), none⟩] [1, 2, 5, 6, 7, 8, 38])
           (.cond (.t 38)
             (.reg [⟨some 39, .mv (.t 5), none⟩,
                ⟨some 40, .bin .add (.t 39) (.k (.sc (.str ⟨#[43]⟩))), none⟩,
                ⟨some 5, .mv (.t 40), none⟩] [1, 2, 5, 6, 7, 8])
             (.skip)))))
       (.seq (.seq (.reg [⟨some 41, .mv (.t 8), none⟩,
            ⟨some 42, .bin .neq (.t 41) (.k (.sc (.int .i64 1))), none⟩,
            ⟨some 43, .mv (.t 42), none⟩,
            ⟨some 44, .fldA 0 (.t 7), (some (43, false))⟩,
            ⟨some 45, .ld 1 false (.t 44), (some (43, false))⟩,
            ⟨some 46, .bin .eql (.t 45) (.k (.sc (.int .i64 0))), (some (43, false))⟩,
            ⟨some 47, .pick (.t 43) (.k (.sc (.bool true))) (.t 46), none⟩] [1, 2, 5, 6, 7, 8, 47])
         (.cond (.t 47)
           (.reg [⟨some 48, .mv (.t 5), none⟩,
              ⟨some 49, .mv (.t 8), none⟩,
              ⟨some 50, .call 81 [(.t 49)], none⟩,
              ⟨some 51, .bin .add (.t 48) (.t 50), none⟩,
              ⟨some 5, .mv (.t 51), none⟩] [1, 2, 5, 6, 7])
           (.skip)))
        (.seq (.seq (.reg [⟨some 52, .fldA 0 (.t 7), none⟩,
             ⟨some 53, .ld 1 false (.t 52), none⟩,
             ⟨some 54, .bin .neq (.t 53) (.k (.sc (.int .i64 0))), none⟩] [1, 2, 5, 6, 7, 54])
          (.cond (.t 54)
            (.reg [⟨some 55, .mv (.t 5), none⟩,
               ⟨some 56, .mv (.t 1), none⟩,
               ⟨some 57, .bin .add (.t 55) (.t 56), none⟩,
               ⟨some 5, .mv (.t 57), none⟩] [1, 2, 5, 6, 7])
            (.skip)))
         (.seq (.reg [⟨some 58, .fldA 0 (.t 7), none⟩,
             ⟨some 59, .ld 1 false (.t 58), none⟩,
             ⟨some 60, .bin .neq (.t 59) (.k (.sc (.int .i64 0))), none⟩,
             ⟨some 61, .mv (.t 60), none⟩,
             ⟨some 62, .fldA 0 (.t 7), (some (61, true))⟩,
             ⟨some 63, .ld 1 false (.t 62), (some (61, true))⟩,
             ⟨some 64, .bin .neq (.t 63) (.k (.sc (.int .i64 1))), (some (61, true))⟩,
             ⟨some 65, .pick (.t 61) (.t 64) (.k (.sc (.bool false))), none⟩] [1, 2, 5, 6, 7, 65])
          (.cond (.t 65)
            (.reg [⟨some 66, .mv (.t 5), none⟩,
               ⟨some 67, .bin .add (.t 66) (.k (.sc (.str ⟨#[94]⟩))), none⟩,
               ⟨some 68, .fldA 0 (.t 7), none⟩,
               ⟨some 69, .ld 1 false (.t 68), none⟩,
               ⟨some 70, .call 81 [(.t 69)], none⟩,
               ⟨some 71, .bin .add (.t 67) (.t 70), none⟩,
               ⟨some 5, .mv (.t 71), none⟩] [1, 2, 5, 6])
            (.skip)))))))))
   (.reg [⟨some 20, .mv (.t 6), none⟩,
      ⟨some 21, .bin .add (.t 20) (.k (.sc (.int .i64 1))), none⟩,
      ⟨some 6, .mv (.t 21), none⟩] [1, 2, 5, 6]))
/-- unravel/unravelref12.Text -/
def b52 : AC :=
  .seq (.reg [⟨some 2, .box (.t 0), none⟩,
     ⟨some 4, .mv (.k (.sc (.str ⟨#[]⟩))), none⟩] [1, 2])
  (.seq (.seq (.reg [⟨some 9, .fldA 1 (.t 2), none⟩,
       ⟨some 10, .ld 1 false (.t 9), none⟩] [1, 2, 10])
    (.cond (.t 10)
      (.seq (.reg [⟨some 4, .mv (.k (.sc (.str ⟨#[98, 105, 103]⟩))), none⟩] [4])
       (.ret))
      (.skip)))
   (.seq (.seq (.reg [⟨some 11, .fldA 0 (.t 2), none⟩,
        ⟨some 12, .ld 1 false (.t 11), none⟩,
        ⟨some 13, .len false (.t 12), none⟩,
        ⟨some 14, .bin .eql (.t 13) (.k (.sc (.int .i64 0))), none⟩] [1, 2, 14])
     (.cond (.t 14)
       (.seq (.reg [⟨some 4, .mv (.k (.sc (.str ⟨#[48]⟩))), none⟩] [4])
        (.ret))
       (.skip)))
    (.seq (.reg [⟨some 5, .mv (.k (.sc (.str ⟨#[]⟩))), none⟩] [1, 2, 5])
     (.seq (.seq (.reg [⟨some 6, .mv (.k (.sc (.int .i64 0))), none⟩] [1, 2, 5, 6])
       (.block 0 (.loop [1, 2, 5, 6] b52L0)))
      (.seq (.reg [⟨some 72, .mv (.t 5), none⟩,
          ⟨some 4, .mv (.t 72), none⟩] [4])
       (.ret))))))
def a52 : AFun := ⟨2, b52, [.t 4]⟩

def b61L0 : AC :=
  .seq (.seq (.reg [⟨some 15, .mv (.t 9), none⟩,
      ⟨some 16, .mv (.t 10), none⟩,
      ⟨some 17, .bin .lss (.t 15) (.t 16), none⟩] [0, 1, 2, 8, 9, 10, 17])
   (.cond (.t 17)
     (.skip)
     (.exit 0)))
  (.block 1 (.seq (.reg [⟨some 18, .mv (.t 9), none⟩,
       ⟨some 19, .mv (.t 10), none⟩,
       ⟨some 20, .bin .add (.t 18) (.t 19), none⟩,
       ⟨some 21, .conv .u64 (.t 20), none⟩,
       ⟨some 22, .bin .shr (.t 21) (.k (.sc (.int .u64 1))), none⟩,
       ⟨some 23, .conv .i64 (.t 22), none⟩,
       ⟨some 11, .mv (.t 23), none⟩] [0, 1, 2, 8, 9, 10, 11])
    (.seq (.reg [⟨some 24, .mv (.t 2), none⟩,
        ⟨some 25, .mv (.t 0), none⟩,
        ⟨some 26, .mv (.t 11), none⟩,
        ⟨some 27, .idxA 2 (.t 25) (.t 26), none⟩,
        ⟨some 28, .ld 2 true (.t 27), none⟩,
        ⟨some 29, .mv (.t 1), none⟩,
        ⟨some 30, .callv (.t 24) [(.t 28), (.t 29)], none⟩,
        ⟨some 31, .bin .lss (.t 30) (.k (.sc (.int .i64 0))), none⟩] [0, 1, 2, 8, 9, 10, 11, 31])
     (.cond (.t 31)
       (.reg [⟨some 32, .mv (.t 11), none⟩,
          ⟨some 33, .bin .add (.t 32) (.k (.sc (.int .i64 1))), none⟩,
          ⟨some 9, .mv (.t 33), none⟩] [0, 1, 2, 8, 9, 10])
       (.reg [⟨some 34, .mv (.t 11), none⟩,
          ⟨some 10, .mv (.t 34), none⟩] [0, 1, 2, 8, 9, 10])))))
/-- slices.BinarySearchFunc[[]unravel/laurent.term,unravel/laurent.term,int] -/
def b61 : AC :=
  .seq (.reg [⟨some 6, .mv (.k (.sc (.int .i64 0))), none⟩,
     ⟨some 7, .mv (.k (.sc (.bool false))), none⟩] [0, 1, 2])
  (.seq (.reg [⟨some 12, .mv (.t 0), none⟩,
      ⟨some 13, .len false (.t 12), none⟩,
      ⟨some 8, .mv (.t 13), none⟩] [0, 1, 2, 8])
   (.seq (.reg [⟨some 14, .mv (.t 8), none⟩,
       ⟨some 9, .mv (.k (.sc (.int .i64 0))), none⟩,
       ⟨some 10, .mv (.t 14), none⟩] [0, 1, 2, 8, 9, 10])
    (.seq (.block 0 (.loop [0, 1, 2, 8, 9, 10] b61L0))
     (.seq (.reg [⟨some 35, .mv (.t 9), none⟩,
         ⟨some 36, .mv (.t 9), none⟩,
         ⟨some 37, .mv (.t 8), none⟩,
         ⟨some 38, .bin .lss (.t 36) (.t 37), none⟩,
         ⟨some 39, .mv (.t 38), none⟩,
         ⟨some 40, .mv (.t 2), (some (39, true))⟩,
         ⟨some 41, .mv (.t 0), (some (39, true))⟩,
         ⟨some 42, .mv (.t 9), (some (39, true))⟩,
         ⟨some 43, .idxA 2 (.t 41) (.t 42), (some (39, true))⟩,
         ⟨some 44, .ld 2 true (.t 43), (some (39, true))⟩,
         ⟨some 45, .mv (.t 1), (some (39, true))⟩,
         ⟨some 46, .callv (.t 40) [(.t 44), (.t 45)], (some (39, true))⟩,
         ⟨some 47, .bin .eql (.t 46) (.k (.sc (.int .i64 0))), (some (39, true))⟩,
         ⟨some 48, .pick (.t 39) (.t 47) (.k (.sc (.bool false))), none⟩,
         ⟨some 6, .mv (.t 35), none⟩,
         ⟨some 7, .mv (.t 48), none⟩] [6, 7])
      (.ret)))))
def a61 : AFun := ⟨3, b61, [.t 6, .t 7]⟩

/-- (unravel/laurent.Poly).Coef$1 -/
def b62 : AC :=
  .seq (.reg [⟨some 2, .box (.t 0), none⟩,
     ⟨some 4, .mv (.k (.sc (.int .i64 0))), none⟩] [1, 2])
  (.seq (.reg [⟨some 5, .fldA 0 (.t 2), none⟩,
      ⟨some 6, .ld 1 false (.t 5), none⟩,
      ⟨some 7, .mv (.t 1), none⟩,
      ⟨some 8, .call 63 [(.t 6), (.t 7)], none⟩,
      ⟨some 4, .mv (.t 8), none⟩] [4])
   (.ret))
def a62 : AFun := ⟨2, b62, [.t 4]⟩

/-- cmp.Compare[int] -/
def b63 : AC :=
  .seq (.reg [⟨some 4, .mv (.k (.sc (.int .i64 0))), none⟩] [0, 1])
  (.seq (.reg [⟨some 7, .mv (.t 0), none⟩,
      ⟨some 8, .call 84 [(.t 7)], none⟩,
      ⟨some 5, .mv (.t 8), none⟩] [0, 1, 5])
   (.seq (.reg [⟨some 9, .mv (.t 1), none⟩,
       ⟨some 10, .call 84 [(.t 9)], none⟩,
       ⟨some 6, .mv (.t 10), none⟩] [0, 1, 5, 6])
    (.seq (.seq (.reg [⟨some 11, .mv (.t 5), none⟩] [0, 1, 6, 11])
      (.cond (.t 11)
        (.seq (.seq (.reg [⟨some 12, .mv (.t 6), none⟩] [12])
          (.cond (.t 12)
            (.seq (.reg [⟨some 4, .mv (.k (.sc (.int .i64 0))), none⟩] [4])
             (.ret))
            (.skip)))
         (.seq (.reg [⟨some 4, .mv (.k (.sc (.int .i64 (-1)))), none⟩] [4])
          (.ret)))
        (.skip)))
     (.seq (.seq (.reg [⟨some 13, .mv (.t 6), none⟩] [0, 1, 13])
       (.cond (.t 13)
         (.seq (.reg [⟨some 4, .mv (.k (.sc (.int .i64 1))), none⟩] [4])
          (.ret))
         (.skip)))
      (.seq (.seq (.reg [⟨some 14, .mv (.t 0), none⟩,
           ⟨some 15, .mv (.t 1), none⟩,
           ⟨some 16, .bin .lss (.t 14) (.t 15), none⟩] [0, 1, 16])
        (.cond (.t 16)
          (.seq (.reg [⟨some 4, .mv (.k (.sc (.int .i64 (-1)))), none⟩] [4])
           (.ret))
          (.skip)))
       (.seq (.seq (.reg [⟨some 17, .mv (.t 0), none⟩,
            ⟨some 18, .mv (.t 1), none⟩,
            ⟨some 19, .bin .gtr (.t 17) (.t 18), none⟩] [19])
         (.cond (.t 19)
           (.seq (.reg [⟨some 4, .mv (.k (.sc (.int .i64 1))), none⟩] [4])
            (.ret))
           (.skip)))
        (.seq (.reg [⟨some 4, .mv (.k (.sc (.int .i64 0))), none⟩] [4])
         (.ret))))))))
def a63 : AFun := ⟨2, b63, [.t 4]⟩

/-- (*strings.Builder).WriteByte -/
def b65 : AC :=
  .seq (.reg [⟨some 4, .mv (.k (.sc .nilI)), none⟩] [0, 1])
  (.seq (.reg [⟨some 5, .mv (.t 0), none⟩,
      ⟨some 6, .call 87 [(.t 5)], none⟩] [0, 1])
   (.seq (.reg [⟨some 7, .mv (.t 0), none⟩,
       ⟨some 8, .mv (.t 0), none⟩,
       ⟨some 9, .nilc (.t 8), none⟩,
       ⟨some 10, .fldA 1 (.t 9), none⟩,
       ⟨some 11, .ld 1 false (.t 10), none⟩,
       ⟨some 12, .mv (.t 1), none⟩,
       ⟨some 13, .bsl ⟨1, some 5⟩ [.int .u8 0] 1 [(0, .t 12)], none⟩,
       ⟨some 14, .app ⟨1, some 5⟩ 1 [.int .u8 0] (.t 11) (.t 13), none⟩,
       ⟨some 15, .nilc (.t 7), none⟩,
       ⟨some 16, .fldA 1 (.t 15), none⟩,
       ⟨none, .st 1 (.t 16) (.t 14), none⟩] [])
    (.seq (.reg [⟨some 4, .mv (.k (.sc .nilI)), none⟩] [4])
     (.ret))))
def a65 : AFun := ⟨2, b65, [.t 4]⟩

/-- (*strings.Builder).WriteString -/
def b66 : AC :=
  .seq (.reg [⟨some 4, .mv (.k (.sc (.int .i64 0))), none⟩,
     ⟨some 5, .mv (.k (.sc .nilI)), none⟩] [0, 1])
  (.seq (.reg [⟨some 6, .mv (.t 0), none⟩,
      ⟨some 7, .call 87 [(.t 6)], none⟩] [0, 1])
   (.seq (.reg [⟨some 8, .mv (.t 0), none⟩,
       ⟨some 9, .mv (.t 0), none⟩,
       ⟨some 10, .nilc (.t 9), none⟩,
       ⟨some 11, .fldA 1 (.t 10), none⟩,
       ⟨some 12, .ld 1 false (.t 11), none⟩,
       ⟨some 13, .mv (.t 1), none⟩,
       ⟨some 14, .app ⟨1, some 5⟩ 1 [.int .u8 0] (.t 12) (.t 13), none⟩,
       ⟨some 15, .nilc (.t 8), none⟩,
       ⟨some 16, .fldA 1 (.t 15), none⟩,
       ⟨none, .st 1 (.t 16) (.t 14), none⟩] [1])
    (.seq (.reg [⟨some 17, .mv (.t 1), none⟩,
        ⟨some 18, .len true (.t 17), none⟩,
        ⟨some 4, .mv (.t 18), none⟩,
        ⟨some 5, .mv (.k (.sc .nilI)), none⟩] [4, 5])
     (.ret))))
def a66 : AFun := ⟨2, b66, [.t 4, .t 5]⟩

/-- (*strings.Builder).String -/
def b68 : AC :=
  .seq (.reg [⟨some 2, .mv (.k (.sc (.str ⟨#[]⟩))), none⟩] [0])
  (.seq (.regd [(⟨some 3, .mv (.t 0), none⟩, 0, false),
      (⟨some 4, .nilc (.t 3), none⟩, 1, false),
      (⟨some 5, .fldA 1 (.t 4), none⟩, 2, false),
      (⟨some 6, .ld 1 false (.t 5), none⟩, 3, false),
      (⟨some 7, .usd (.t 6), none⟩, 4, false),
      (⟨some 8, .mv (.t 0), none⟩, 5, false),
      (⟨some 9, .nilc (.t 8), none⟩, 6, false),
      (⟨some 10, .fldA 1 (.t 9), none⟩, 7, false),
      (⟨some 11, .ld 1 false (.t 10), none⟩, 8, false),
      (⟨some 12, .len false (.t 11), none⟩, 9, false),
      (⟨some 13, .ustr 5 (.t 7) (.t 12), none⟩, 10, true),
      (⟨some 2, .mv (.t 13), none⟩, 11, false)] [2])
   (.ret))
def a68 : AFun := ⟨1, b68, [.t 2]⟩

/-- (unravel/laurent.wide).split -/
def b69 : AC :=
  .seq (.reg [⟨some 1, .box (.t 0), none⟩,
     ⟨some 2, .new [.int .u64 0, .int .u64 0], none⟩,
     ⟨some 3, .mv (.k (.sc (.bool false))), none⟩] [1, 2])
  (.seq (.seq (.reg [⟨some 4, .fldA 0 (.t 1), none⟩,
       ⟨some 5, .ld 1 false (.t 4), none⟩,
       ⟨some 6, .bin .shr (.t 5) (.k (.sc (.int .u64 63))), none⟩,
       ⟨some 7, .bin .eql (.t 6) (.k (.sc (.int .u64 1))), none⟩] [1, 2, 7])
    (.cond (.t 7)
      (.seq (.reg [⟨some 8, .ld 2 true (.t 1), none⟩,
          ⟨some 9, .call 74 [(.t 8)], none⟩,
          ⟨none, .st 2 (.t 2) (.t 9), none⟩,
          ⟨some 3, .mv (.k (.sc (.bool true))), none⟩] [2, 3])
       (.ret))
      (.skip)))
   (.seq (.reg [⟨some 10, .ld 2 true (.t 1), none⟩,
       ⟨none, .st 2 (.t 2) (.t 10), none⟩,
       ⟨some 3, .mv (.k (.sc (.bool false))), none⟩] [2, 3])
    (.ret)))
def a69 : AFun := ⟨1, b69, [.cell 2 2 true, .t 3]⟩

/-- unravel/laurent.magnitude -/
def b70 : AC :=
  .seq (.reg [⟨some 2, .mv (.k (.sc (.int .u64 0))), none⟩] [0])
  (.seq (.seq (.reg [⟨some 3, .mv (.t 0), none⟩,
       ⟨some 4, .bin .lss (.t 3) (.k (.sc (.int .i64 0))), none⟩] [0, 4])
    (.cond (.t 4)
      (.seq (.reg [⟨some 5, .mv (.t 0), none⟩,
          ⟨some 6, .conv .u64 (.t 5), none⟩,
          ⟨some 7, .un .neg (.t 6), none⟩,
          ⟨some 2, .mv (.t 7), none⟩] [2])
       (.ret))
      (.skip)))
   (.seq (.reg [⟨some 8, .mv (.t 0), none⟩,
       ⟨some 9, .conv .u64 (.t 8), none⟩,
       ⟨some 2, .mv (.t 9), none⟩] [2])
    (.ret)))
def a70 : AFun := ⟨1, b70, [.t 2]⟩

def b71L0 : AC :=
  .seq (.seq (.reg [⟨some 67, .mv (.t 15), none⟩,
      ⟨some 68, .bin .geq (.t 67) (.k (.sc (.int .u64 4294967296))), none⟩,
      ⟨some 69, .mv (.t 68), none⟩,
      ⟨some 70, .mv (.t 15), (some (69, false))⟩,
      ⟨some 71, .mv (.t 10), (some (69, false))⟩,
      ⟨some 72, .bin .mul (.t 70) (.t 71), (some (69, false))⟩,
      ⟨some 73, .mv (.t 16), (some (69, false))⟩,
      ⟨some 74, .bin .mul (.k (.sc (.int .u64 4294967296))) (.t 73), (some (69, false))⟩,
      ⟨some 75, .mv (.t 13), (some (69, false))⟩,
      ⟨some 76, .bin .add (.t 74) (.t 75), (some (69, false))⟩,
      ⟨some 77, .bin .gtr (.t 72) (.t 76), (some (69, false))⟩,
      ⟨some 78, .pick (.t 69) (.k (.sc (.bool true))) (.t 77), none⟩] [2, 8, 9, 10, 11, 13, 14, 15, 16, 78])
   (.cond (.t 78)
     (.skip)
     (.exit 0)))
  (.block 1 (.seq (.reg [⟨some 79, .mv (.t 15), none⟩,
       ⟨some 80, .bin .sub (.t 79) (.k (.sc (.int .u64 1))), none⟩,
       ⟨some 15, .mv (.t 80), none⟩] [2, 8, 9, 10, 11, 13, 14, 15, 16])
    (.seq (.reg [⟨some 81, .mv (.t 16), none⟩,
        ⟨some 82, .mv (.t 9), none⟩,
        ⟨some 83, .bin .add (.t 81) (.t 82), none⟩,
        ⟨some 16, .mv (.t 83), none⟩] [2, 8, 9, 10, 11, 13, 14, 15, 16])
     (.seq (.reg [⟨some 84, .mv (.t 16), none⟩,
         ⟨some 85, .bin .geq (.t 84) (.k (.sc (.int .u64 4294967296))), none⟩] [2, 8, 9, 10, 11, 13, 14, 15, 16, 85])
      (.cond (.t 85)
        (.exit 0)
        (.skip))))))
def b71L1 : AC :=
  .seq (.seq (.reg [⟨some 102, .mv (.t 18), none⟩,
      ⟨some 103, .bin .geq (.t 102) (.k (.sc (.int .u64 4294967296))), none⟩,
      ⟨some 104, .mv (.t 103), none⟩,
      ⟨some 105, .mv (.t 18), (some (104, false))⟩,
      ⟨some 106, .mv (.t 10), (some (104, false))⟩,
      ⟨some 107, .bin .mul (.t 105) (.t 106), (some (104, false))⟩,
      ⟨some 108, .mv (.t 16), (some (104, false))⟩,
      ⟨some 109, .bin .mul (.k (.sc (.int .u64 4294967296))) (.t 108), (some (104, false))⟩,
      ⟨some 110, .mv (.t 14), (some (104, false))⟩,
      ⟨some 111, .bin .add (.t 109) (.t 110), (some (104, false))⟩,
      ⟨some 112, .bin .gtr (.t 107) (.t 111), (some (104, false))⟩,
      ⟨some 113, .pick (.t 104) (.k (.sc (.bool true))) (.t 112), none⟩] [2, 8, 9, 10, 14, 15, 16, 17, 18, 113])
   (.cond (.t 113)
     (.skip)
     (.exit 2)))
  (.block 3 (.seq (.reg [⟨some 114, .mv (.t 18), none⟩,
       ⟨some 115, .bin .sub (.t 114) (.k (.sc (.int .u64 1))), none⟩,
       ⟨some 18, .mv (.t 115), none⟩] [2, 8, 9, 10, 14, 15, 16, 17, 18])
    (.seq (.reg [⟨some 116, .mv (.t 16), none⟩,
        ⟨some 117, .mv (.t 9), none⟩,
        ⟨some 118, .bin .add (.t 116) (.t 117), none⟩,
        ⟨some 16, .mv (.t 118), none⟩] [2, 8, 9, 10, 14, 15, 16, 17, 18])
     (.seq (.reg [⟨some 119, .mv (.t 16), none⟩,
         ⟨some 120, .bin .geq (.t 119) (.k (.sc (.int .u64 4294967296))), none⟩] [2, 8, 9, 10, 14, 15, 16, 17, 18, 120])
      (.cond (.t 120)
        (.exit 2)
        (.skip))))))
/-- math/bits.Div64 -/
def b71 : AC :=
  .seq (.reg [⟨some 6, .mv (.k (.sc (.int .u64 0))), none⟩,
     ⟨some 7, .mv (.k (.sc (.int .u64 0))), none⟩] [0, 1, 2])
  (.seq (.seq (.reg [⟨some 19, .mv (.t 2), none⟩,
       ⟨some 20, .bin .eql (.t 19) (.k (.sc (.int .u64 0))), none⟩] [0, 1, 2, 20])
    (.cond (.t 20)
      (.reg [⟨some 21, .bad, none⟩,
         ⟨none, .bad, none⟩] [0, 1, 2])
      (.skip)))
   (.seq (.seq (.reg [⟨some 22, .mv (.t 2), none⟩,
        ⟨some 23, .mv (.t 0), none⟩,
        ⟨some 24, .bin .leq (.t 22) (.t 23), none⟩] [0, 1, 2, 24])
     (.cond (.t 24)
       (.reg [⟨some 25, .bad, none⟩,
          ⟨none, .bad, none⟩] [0, 1, 2])
       (.skip)))
    (.seq (.seq (.reg [⟨some 26, .mv (.t 0), none⟩,
         ⟨some 27, .bin .eql (.t 26) (.k (.sc (.int .u64 0))), none⟩] [0, 1, 2, 27])
      (.cond (.t 27)
        (.seq (.regd [(⟨some 28, .mv (.t 1), none⟩, 0, false),
            (⟨some 29, .mv (.t 2), none⟩, 1, false),
            (⟨some 30, .bin .quo (.t 28) (.t 29), none⟩, 2, false),
            (⟨some 31, .mv (.t 1), none⟩, 3, false),
            (⟨some 32, .mv (.t 2), none⟩, 4, false),
            (⟨some 33, .bin .rem (.t 31) (.t 32), none⟩, 5, false),
            (⟨some 6, .mv (.t 30), none⟩, 6, false),
            (⟨some 7, .mv (.t 33), none⟩, 7, false)] [6, 7])
         (.ret))
        (.skip)))
     (.seq (.reg [⟨some 34, .mv (.t 2), none⟩,
         ⟨some 35, .call 89 [(.t 34)], none⟩,
         ⟨some 36, .conv .u64 (.t 35), none⟩,
         ⟨some 8, .mv (.t 36), none⟩] [0, 1, 2, 8])
      (.seq (.reg [⟨some 37, .mv (.t 2), none⟩,
          ⟨some 38, .mv (.t 8), none⟩,
          ⟨some 39, .bin .shl (.t 37) (.t 38), none⟩,
          ⟨some 2, .mv (.t 39), none⟩] [0, 1, 2, 8])
       (.seq (.reg [⟨some 40, .mv (.t 2), none⟩,
           ⟨some 41, .bin .shr (.t 40) (.k (.sc (.int .u64 32))), none⟩,
           ⟨some 9, .mv (.t 41), none⟩] [0, 1, 2, 8, 9])
        (.seq (.reg [⟨some 42, .mv (.t 2), none⟩,
            ⟨some 43, .bin .and (.t 42) (.k (.sc (.int .u64 4294967295))), none⟩,
            ⟨some 10, .mv (.t 43), none⟩] [0, 1, 2, 8, 9, 10])
         (.seq (.reg [⟨some 44, .mv (.t 0), none⟩,
             ⟨some 45, .mv (.t 8), none⟩,
             ⟨some 46, .bin .shl (.t 44) (.t 45), none⟩,
             ⟨some 47, .mv (.t 1), none⟩,
             ⟨some 48, .mv (.t 8), none⟩,
             ⟨some 49, .bin .sub (.k (.sc (.int .u64 64))) (.t 48), none⟩,
             ⟨some 50, .bin .shr (.t 47) (.t 49), none⟩,
             ⟨some 51, .bin .or (.t 46) (.t 50), none⟩,
             ⟨some 11, .mv (.t 51), none⟩] [1, 2, 8, 9, 10, 11])
          (.seq (.reg [⟨some 52, .mv (.t 1), none⟩,
              ⟨some 53, .mv (.t 8), none⟩,
              ⟨some 54, .bin .shl (.t 52) (.t 53), none⟩,
              ⟨some 12, .mv (.t 54), none⟩] [2, 8, 9, 10, 11, 12])
           (.seq (.reg [⟨some 55, .mv (.t 12), none⟩,
               ⟨some 56, .bin .shr (.t 55) (.k (.sc (.int .u64 32))), none⟩,
               ⟨some 13, .mv (.t 56), none⟩] [2, 8, 9, 10, 11, 12, 13])
            (.seq (.reg [⟨some 57, .mv (.t 12), none⟩,
                ⟨some 58, .bin .and (.t 57) (.k (.sc (.int .u64 4294967295))), none⟩,
                ⟨some 14, .mv (.t 58), none⟩] [2, 8, 9, 10, 11, 13, 14])
             (.seq (.reg [⟨some 59, .mv (.t 11), none⟩,
                 ⟨some 60, .mv (.t 9), none⟩,
                 ⟨some 61, .bin .quo (.t 59) (.t 60), none⟩,
                 ⟨some 15, .mv (.t 61), none⟩] [2, 8, 9, 10, 11, 13, 14, 15])
              (.seq (.reg [⟨some 62, .mv (.t 11), none⟩,
                  ⟨some 63, .mv (.t 15), none⟩,
                  ⟨some 64, .mv (.t 9), none⟩,
                  ⟨some 65, .bin .mul (.t 63) (.t 64), none⟩,
                  ⟨some 66, .bin .sub (.t 62) (.t 65), none⟩,
                  ⟨some 16, .mv (.t 66), none⟩] [2, 8, 9, 10, 11, 13, 14, 15, 16])
               (.seq (.block 0 (.loop [2, 8, 9, 10, 11, 13, 14, 15, 16] b71L0))
                (.seq (.reg [⟨some 86, .mv (.t 11), none⟩,
                    ⟨some 87, .bin .mul (.t 86) (.k (.sc (.int .u64 4294967296))), none⟩,
                    ⟨some 88, .mv (.t 13), none⟩,
                    ⟨some 89, .bin .add (.t 87) (.t 88), none⟩,
                    ⟨some 90, .mv (.t 15), none⟩,
                    ⟨some 91, .mv (.t 2), none⟩,
                    ⟨some 92, .bin .mul (.t 90) (.t 91), none⟩,
                    ⟨some 93, .bin .sub (.t 89) (.t 92), none⟩,
                    ⟨some 17, .mv (.t 93), none⟩] [2, 8, 9, 10, 14, 15, 17])
                 (.seq (.reg [⟨some 94, .mv (.t 17), none⟩,
                     ⟨some 95, .mv (.t 9), none⟩,
                     ⟨some 96, .bin .quo (.t 94) (.t 95), none⟩,
                     ⟨some 18, .mv (.t 96), none⟩] [2, 8, 9, 10, 14, 15, 17, 18])
                  (.seq (.reg [⟨some 97, .mv (.t 17), none⟩,
                      ⟨some 98, .mv (.t 18), none⟩,
                      ⟨some 99, .mv (.t 9), none⟩,
                      ⟨some 100, .bin .mul (.t 98) (.t 99), none⟩,
                      ⟨some 101, .bin .sub (.t 97) (.t 100), none⟩,
                      ⟨some 16, .mv (.t 101), none⟩] [2, 8, 9, 10, 14, 15, 16, 17, 18])
                   (.seq (.block 2 (.loop [2, 8, 9, 10, 14, 15, 16, 17, 18] b71L1))
                    (.seq (.reg [⟨some 121, .mv (.t 15), none⟩,
                        ⟨some 122, .bin .mul (.t 121) (.k (.sc (.int .u64 4294967296))), none⟩,
                        ⟨some 123, .mv (.t 18), none⟩,
                        ⟨some 124, .bin .add (.t 122) (.t 123), none⟩,
                        ⟨some 125, .mv (.t 17), none⟩,
                        ⟨some 126, .bin .mul (.t 125) (.k (.sc (.int .u64 4294967296))), none⟩,
                        ⟨some 127, .mv (.t 14), none⟩,
                        ⟨some 128, .bin .add (.t 126) (.t 127), none⟩,
                        ⟨some 129, .mv (.t 18), none⟩,
                        ⟨some 130, .mv (.t 2), none⟩,
                        ⟨some 131, .bin .mul (.t 129) (.t 130), none⟩,
                        ⟨some 132, .bin .sub (.t 128) (.t 131), none⟩,
                        ⟨some 133, .mv (.t 8), none⟩,
                        ⟨some 134, .bin .shr (.t 132) (.t 133), none⟩,
                        ⟨some 6, .mv (.t 124), none⟩,
                        ⟨some 7, .mv (.t 134), none⟩] [6, 7])
                     (.ret))))))))))))))))))))
def a71 : AFun := ⟨3, b71, [.t 6, .t 7]⟩

/-- math/bits.Mul64 -/
def b73 : AC :=
  .seq (.reg [⟨some 4, .mv (.k (.sc (.int .u64 0))), none⟩,
     ⟨some 5, .mv (.k (.sc (.int .u64 0))), none⟩] [0, 1])
  (.seq (.reg [⟨some 14, .mv (.t 0), none⟩,
      ⟨some 15, .bin .and (.t 14) (.k (.sc (.int .u64 4294967295))), none⟩,
      ⟨some 6, .mv (.t 15), none⟩] [0, 1, 6])
   (.seq (.reg [⟨some 16, .mv (.t 0), none⟩,
       ⟨some 17, .bin .shr (.t 16) (.k (.sc (.int .u64 32))), none⟩,
       ⟨some 7, .mv (.t 17), none⟩] [0, 1, 6, 7])
    (.seq (.reg [⟨some 18, .mv (.t 1), none⟩,
        ⟨some 19, .bin .and (.t 18) (.k (.sc (.int .u64 4294967295))), none⟩,
        ⟨some 8, .mv (.t 19), none⟩] [0, 1, 6, 7, 8])
     (.seq (.reg [⟨some 20, .mv (.t 1), none⟩,
         ⟨some 21, .bin .shr (.t 20) (.k (.sc (.int .u64 32))), none⟩,
         ⟨some 9, .mv (.t 21), none⟩] [0, 1, 6, 7, 8, 9])
      (.seq (.reg [⟨some 22, .mv (.t 6), none⟩,
          ⟨some 23, .mv (.t 8), none⟩,
          ⟨some 24, .bin .mul (.t 22) (.t 23), none⟩,
          ⟨some 10, .mv (.t 24), none⟩] [0, 1, 6, 7, 8, 9, 10])
       (.seq (.reg [⟨some 25, .mv (.t 7), none⟩,
           ⟨some 26, .mv (.t 8), none⟩,
           ⟨some 27, .bin .mul (.t 25) (.t 26), none⟩,
           ⟨some 28, .mv (.t 10), none⟩,
           ⟨some 29, .bin .shr (.t 28) (.k (.sc (.int .u64 32))), none⟩,
           ⟨some 30, .bin .add (.t 27) (.t 29), none⟩,
           ⟨some 11, .mv (.t 30), none⟩] [0, 1, 6, 7, 9, 11])
        (.seq (.reg [⟨some 31, .mv (.t 11), none⟩,
            ⟨some 32, .bin .and (.t 31) (.k (.sc (.int .u64 4294967295))), none⟩,
            ⟨some 12, .mv (.t 32), none⟩] [0, 1, 6, 7, 9, 11, 12])
         (.seq (.reg [⟨some 33, .mv (.t 11), none⟩,
             ⟨some 34, .bin .shr (.t 33) (.k (.sc (.int .u64 32))), none⟩,
             ⟨some 13, .mv (.t 34), none⟩] [0, 1, 6, 7, 9, 12, 13])
          (.seq (.reg [⟨some 35, .mv (.t 12), none⟩,
              ⟨some 36, .mv (.t 6), none⟩,
              ⟨some 37, .mv (.t 9), none⟩,
              ⟨some 38, .bin .mul (.t 36) (.t 37), none⟩,
              ⟨some 39, .bin .add (.t 35) (.t 38), none⟩,
              ⟨some 12, .mv (.t 39), none⟩] [0, 1, 7, 9, 12, 13])
           (.seq (.reg [⟨some 40, .mv (.t 7), none⟩,
               ⟨some 41, .mv (.t 9), none⟩,
               ⟨some 42, .bin .mul (.t 40) (.t 41), none⟩,
               ⟨some 43, .mv (.t 13), none⟩,
               ⟨some 44, .bin .add (.t 42) (.t 43), none⟩,
               ⟨some 45, .mv (.t 12), none⟩,
               ⟨some 46, .bin .shr (.t 45) (.k (.sc (.int .u64 32))), none⟩,
               ⟨some 47, .bin .add (.t 44) (.t 46), none⟩,
               ⟨some 4, .mv (.t 47), none⟩] [0, 1, 4])
            (.seq (.reg [⟨some 48, .mv (.t 0), none⟩,
                ⟨some 49, .mv (.t 1), none⟩,
                ⟨some 50, .bin .mul (.t 48) (.t 49), none⟩,
                ⟨some 5, .mv (.t 50), none⟩] [4, 5])
             (.ret))))))))))))
def a73 : AFun := ⟨2, b73, [.t 4, .t 5]⟩

/-- (unravel/laurent.wide).neg -/
def b74 : AC :=
  .seq (.reg [⟨some 1, .box (.t 0), none⟩,
     ⟨some 2, .new [.int .u64 0, .int .u64 0], none⟩] [1, 2])
  (.seq (.reg [⟨some 8, .fldA 1 (.t 1), none⟩,
      ⟨some 9, .ld 1 false (.t 8), none⟩,
      ⟨some 10, .car true (.k (.sc (.int .u64 0))) (.t 9) (.k (.sc (.int .u64 0))), none⟩,
      ⟨some 7, .mv (.t 10), none⟩,
      ⟨some 11, .ext (.t 7) 0, none⟩,
      ⟨some 12, .ext (.t 7) 1, none⟩,
      ⟨some 3, .mv (.t 11), none⟩,
      ⟨some 4, .mv (.t 12), none⟩] [1, 2, 3, 4])
   (.seq (.reg [⟨some 14, .fldA 0 (.t 1), none⟩,
       ⟨some 15, .ld 1 false (.t 14), none⟩,
       ⟨some 16, .mv (.t 4), none⟩,
       ⟨some 17, .car true (.k (.sc (.int .u64 0))) (.t 15) (.t 16), none⟩,
       ⟨some 13, .mv (.t 17), none⟩,
       ⟨some 18, .ext (.t 13) 0, none⟩,
       ⟨some 19, .ext (.t 13) 1, none⟩,
       ⟨some 5, .mv (.t 18), none⟩,
       ⟨some 6, .mv (.t 19), none⟩] [2, 3, 5])
    (.seq (.reg [⟨some 20, .mv (.t 5), none⟩,
        ⟨some 21, .mv (.t 3), none⟩,
        ⟨some 22, .bld [.int .u64 0, .int .u64 0] [(0, 1, .t 20), (1, 1, .t 21)], none⟩,
        ⟨none, .st 2 (.t 2) (.t 22), none⟩] [2])
     (.ret))))
def a74 : AFun := ⟨1, b74, [.cell 2 2 true]⟩

/-- unravel/laurent.sparse$1 -/
def b75 : AC :=
  .seq (.reg [⟨some 4, .box (.t 1), none⟩] [0, 2, 4])
  (.regd [(⟨some 5, .ld 1 false (.t 2), none⟩, 0, false),
     (⟨some 6, .mv (.t 0), none⟩, 1, false),
     (⟨some 7, .ld 1 false (.t 2), none⟩, 2, false),
     (⟨some 8, .mv (.t 0), none⟩, 3, false),
     (⟨some 9, .mpL ⟨1001002, none⟩ [.int .u64 0, .int .u64 0] false (.t 7) (.t 8), none⟩, 4, false),
     (⟨some 10, .ld 2 true (.t 4), none⟩, 5, false),
     (⟨some 11, .call 40 [(.t 9), (.t 10)], none⟩, 6, false),
     (⟨none, .mpU ⟨1001002, none⟩ (.t 5) (.t 6) (.t 11), none⟩, 7, true)] [])
def a75 : AFun := ⟨3, b75, []⟩

/-- slices.Sorted[int] -/
def b76 : AC :=
  .seq (.reg [⟨some 2, .mv (.k (.sc .nilS)), none⟩] [0])
  (.seq (.reg [⟨some 4, .mv (.t 0), none⟩,
      ⟨some 5, .call 91 [(.t 4)], none⟩,
      ⟨some 3, .mv (.t 5), none⟩] [3])
   (.seq (.reg [⟨some 6, .mv (.t 3), none⟩,
       ⟨some 7, .call 92 [(.t 6)], none⟩] [3])
    (.seq (.reg [⟨some 8, .mv (.t 3), none⟩,
        ⟨some 2, .mv (.t 8), none⟩] [2])
     (.ret))))
def a76 : AFun := ⟨1, b76, [.t 2]⟩

/-- maps.Keys[map[int]unravel/laurent.wide,int,unravel/laurent.wide] -/
def b77 : AC :=
  .seq (.reg [⟨some 1, .box (.t 0), none⟩,
     ⟨some 2, .mv (.k (.sc .nilF)), none⟩] [1])
  (.seq (.reg [⟨some 3, .mkf 93 [(.t 1)], none⟩,
      ⟨some 2, .mv (.t 3), none⟩] [2])
   (.ret))
def a77 : AFun := ⟨1, b77, [.t 2]⟩

def b78L0 : AC :=
  .seq (.seq (.reg [⟨some 14, .mv (.t 10), none⟩,
      ⟨some 15, .mv (.t 0), none⟩,
      ⟨some 16, .len false (.t 15), none⟩,
      ⟨some 17, .bin .lss (.t 14) (.t 16), none⟩,
      ⟨some 18, .mv (.t 17), none⟩,
      ⟨some 19, .mv (.t 0), (some (18, true))⟩,
      ⟨some 20, .mv (.t 10), (some (18, true))⟩,
      ⟨some 21, .idxA 1 (.t 19) (.t 20), (some (18, true))⟩,
      ⟨some 22, .ld 1 false (.t 21), (some (18, true))⟩,
      ⟨some 23, .mv (.t 2), (some (18, true))⟩,
      ⟨some 24, .bin .lss (.t 22) (.t 23), (some (18, true))⟩,
      ⟨some 25, .pick (.t 18) (.t 24) (.k (.sc (.bool false))), none⟩] [0, 1, 2, 7, 10, 25])
   (.cond (.t 25)
     (.skip)
     (.exit 0)))
  (.block 1 (.reg [⟨some 26, .mv (.t 10), none⟩,
      ⟨some 27, .bin .add (.t 26) (.k (.sc (.int .i64 1))), none⟩,
      ⟨some 10, .mv (.t 27), none⟩] [0, 1, 2, 7, 10]))
/-- unravel/unravelref12.put -/
def b78 : AC :=
  .seq (.reg [⟨some 7, .box (.t 3), none⟩,
     ⟨some 8, .mv (.k (.sc .nilS)), none⟩,
     ⟨some 9, .mv (.k (.sc .nilS)), none⟩] [0, 1, 2, 7])
  (.seq (.reg [⟨some 10, .mv (.k (.sc (.int .i64 0))), none⟩] [0, 1, 2, 7, 10])
   (.seq (.block 0 (.loop [0, 1, 2, 7, 10] b78L0))
    (.seq (.seq (.reg [⟨some 28, .mv (.t 10), none⟩,
         ⟨some 29, .mv (.t 0), none⟩,
         ⟨some 30, .len false (.t 29), none⟩,
         ⟨some 31, .bin .lss (.t 28) (.t 30), none⟩,
         ⟨some 32, .mv (.t 31), none⟩,
         ⟨some 33, .mv (.t 0), (some (32, true))⟩,
         ⟨some 34, .mv (.t 10), (some (32, true))⟩,
         ⟨some 35, .idxA 1 (.t 33) (.t 34), (some (32, true))⟩,
         ⟨some 36, .ld 1 false (.t 35), (some (32, true))⟩,
         ⟨some 37, .mv (.t 2), (some (32, true))⟩,
         ⟨some 38, .bin .eql (.t 36) (.t 37), (some (32, true))⟩,
         ⟨some 39, .pick (.t 32) (.t 38) (.k (.sc (.bool false))), none⟩] [0, 1, 2, 7, 10, 39])
      (.cond (.t 39)
        (.seq (.reg [⟨some 40, .bsl 2 [.int .i64 0, .int .i64 0] 0 [], none⟩,
            ⟨some 41, .mv (.t 1), none⟩,
            ⟨some 42, .app 2 16 [.int .i64 0, .int .i64 0] (.t 40) (.t 41), none⟩,
            ⟨some 11, .mv (.t 42), none⟩] [0, 7, 10, 11])
         (.seq (.regd [(⟨some 43, .mv (.t 11), none⟩, 0, false),
             (⟨some 44, .mv (.t 10), none⟩, 1, false),
             (⟨some 45, .mv (.t 11), none⟩, 2, false),
             (⟨some 46, .mv (.t 10), none⟩, 3, false),
             (⟨some 47, .idxA 2 (.t 45) (.t 46), none⟩, 4, false),
             (⟨some 48, .ld 2 true (.t 47), none⟩, 5, false),
             (⟨some 49, .ld 2 true (.t 7), none⟩, 6, false),
             (⟨some 50, .call 94 [(.t 48), (.t 49)], none⟩, 7, true),
             (⟨some 51, .idxA 2 (.t 43) (.t 44), none⟩, 8, false),
             (⟨none, .st 2 (.t 51) (.t 50), none⟩, 9, true)] [0, 11])
          (.seq (.reg [⟨some 52, .mv (.t 0), none⟩,
              ⟨some 53, .mv (.t 11), none⟩,
              ⟨some 8, .mv (.t 52), none⟩,
              ⟨some 9, .mv (.t 53), none⟩] [8, 9])
           (.ret))))
        (.skip)))
     (.seq (.regs [(⟨some 54, .bsl 1 [.int .i64 0] 0 [], none⟩, 0, false),
         (⟨some 55, .mv (.t 0), none⟩, 1, false),
         (⟨some 56, .mv (.t 10), none⟩, 2, false),
         (⟨some 57, .sl1 (.t 55) none (some (.t 56)), none⟩, 3, false),
         (⟨some 59, .mv (.t 2), none⟩, 5, false),
         (⟨some 60, .bsl 1 [.int .i64 0] 1 [(0, .t 59)], none⟩, 6, false),
         (⟨some 62, .mv (.t 0), none⟩, 8, false),
         (⟨some 63, .mv (.t 10), none⟩, 9, false),
         (⟨some 64, .sl1 (.t 62) (some (.t 63)) none, none⟩, 10, false),
         (⟨some 58, .app 1 8 [.int .i64 0] (.t 54) (.t 57), none⟩, 4, true),
         (⟨some 61, .app 1 8 [.int .i64 0] (.t 58) (.t 60), none⟩, 7, true),
         (⟨some 65, .app 1 8 [.int .i64 0] (.t 61) (.t 64), none⟩, 11, true),
         (⟨some 12, .mv (.t 65), none⟩, 12, false)] [7, 11, 1006] [1, 7, 10, 12])
      (.seq (.regs [(⟨some 66, .bsl 2 [.int .i64 0, .int .i64 0] 0 [], none⟩, 0, false),
          (⟨some 67, .mv (.t 1), none⟩, 1, false),
          (⟨some 68, .mv (.t 10), none⟩, 2, false),
          (⟨some 69, .sl 2 (.t 67) none (some (.t 68)), none⟩, 3, false),
          (⟨some 71, .ld 2 true (.t 7), none⟩, 5, false),
          (⟨some 72, .bsl 2 [.int .i64 0, .int .i64 0] 1 [(0, .t 71)], none⟩, 6, false),
          (⟨some 74, .mv (.t 1), none⟩, 8, false),
          (⟨some 75, .mv (.t 10), none⟩, 9, false),
          (⟨some 76, .sl 2 (.t 74) (some (.t 75)) none, none⟩, 10, false),
          (⟨some 70, .app 2 16 [.int .i64 0, .int .i64 0] (.t 66) (.t 69), none⟩, 4, true),
          (⟨some 73, .app 2 16 [.int .i64 0, .int .i64 0] (.t 70) (.t 72), none⟩, 7, true),
          (⟨some 77, .app 2 16 [.int .i64 0, .int .i64 0] (.t 73) (.t 76), none⟩, 11, true),
          (⟨some 13, .mv (.t 77), none⟩, 12, false)] [11, 1006] [12, 13])
       (.seq (.reg [⟨some 78, .mv (.t 12), none⟩,
           ⟨some 79, .mv (.t 13), none⟩,
           ⟨some 8, .mv (.t 78), none⟩,
           ⟨some 9, .mv (.t 79), none⟩] [8, 9])
        (.ret)))))))
def a78 : AFun := ⟨4, b78, [.t 8, .t 9]⟩

def b79L1 : AC :=
  .seq (.seq (.reg [⟨some 39, .mv (.t 10), none⟩,
      ⟨some 40, .mv (.t 7), none⟩,
      ⟨some 41, .bin .lss (.t 39) (.t 40), none⟩] [0, 1, 4, 5, 6, 7, 9, 10, 41])
   (.cond (.t 41)
     (.skip)
     (.exit 2)))
  (.seq (.block 3 (.reg [⟨some 44, .ld 2 true (.t 9), none⟩,
       ⟨some 45, .ld 2 true (.t 9), none⟩,
       ⟨some 46, .call 94 [(.t 44), (.t 45)], none⟩,
       ⟨none, .st 2 (.t 9) (.t 46), none⟩] [0, 1, 4, 5, 6, 7, 9, 10]))
   (.reg [⟨some 42, .mv (.t 10), none⟩,
      ⟨some 43, .bin .add (.t 42) (.k (.sc (.int .i64 1))), none⟩,
      ⟨some 10, .mv (.t 43), none⟩] [0, 1, 4, 5, 6, 7, 9, 10]))
def b79L0 : AC :=
  .seq (.seq (.reg [⟨some 16, .mv (.t 7), none⟩,
      ⟨some 17, .bin .lss (.t 16) (.k (.sc (.int .i64 60))), none⟩] [0, 1, 4, 5, 6, 7, 17])
   (.cond (.t 17)
     (.skip)
     (.exit 0)))
  (.seq (.block 1 (.seq (.reg [⟨some 20, .mv (.t 5), none⟩,
        ⟨some 21, .mv (.t 0), none⟩,
        ⟨some 22, .mv (.t 7), none⟩,
        ⟨some 23, .conv .u64 (.t 22), none⟩,
        ⟨some 24, .bin .shr (.t 21) (.t 23), none⟩,
        ⟨some 25, .bin .rem (.t 24) (.k (.sc (.int .i64 1024))), none⟩,
        ⟨some 26, .bin .mul (.t 20) (.t 25), none⟩,
        ⟨some 27, .mv (.t 1), none⟩,
        ⟨some 28, .bin .mul (.t 26) (.t 27), none⟩,
        ⟨some 8, .mv (.t 28), none⟩] [0, 1, 4, 5, 6, 7, 8])
     (.seq (.reg [⟨some 29, .mv (.t 8), none⟩,
         ⟨some 30, .bin .rem (.t 29) (.k (.sc (.int .i64 1125899906842624))), none⟩,
         ⟨some 31, .bld [.int .i64 0, .int .i64 0] [(0, 1, .k (.sc (.int .i64 0))), (1, 1, .t 30)], none⟩,
         ⟨some 32, .call 95 [(.t 31)], none⟩,
         ⟨some 9, .new [.int .i64 0, .int .i64 0], none⟩,
         ⟨none, .st 2 (.t 9) (.t 32), none⟩] [0, 1, 4, 5, 6, 7, 8, 9])
      (.seq (.reg [⟨some 33, .fldA 0 (.t 9), none⟩,
          ⟨some 34, .ld 1 false (.t 33), none⟩,
          ⟨some 35, .mv (.t 8), none⟩,
          ⟨some 36, .bin .quo (.t 35) (.k (.sc (.int .i64 1125899906842624))), none⟩,
          ⟨some 37, .bin .add (.t 34) (.t 36), none⟩,
          ⟨some 38, .fldA 0 (.t 9), none⟩,
          ⟨none, .st 1 (.t 38) (.t 37), none⟩] [0, 1, 4, 5, 6, 7, 9])
       (.seq (.seq (.reg [⟨some 10, .mv (.k (.sc (.int .i64 0))), none⟩] [0, 1, 4, 5, 6, 7, 9, 10])
         (.block 2 (.loop [0, 1, 4, 5, 6, 7, 9, 10] b79L1)))
        (.reg [⟨some 47, .ld 2 true (.t 6), none⟩,
           ⟨some 48, .ld 2 true (.t 9), none⟩,
           ⟨some 49, .call 94 [(.t 47), (.t 48)], none⟩,
           ⟨none, .st 2 (.t 6) (.t 49), none⟩] [0, 1, 4, 5, 6, 7]))))))
   (.reg [⟨some 18, .mv (.t 7), none⟩,
      ⟨some 19, .bin .add (.t 18) (.k (.sc (.int .i64 10))), none⟩,
      ⟨some 7, .mv (.t 19), none⟩] [0, 1, 4, 5, 6, 7]))
/-- unravel/unravelref12.product -/
def b79 : AC :=
  .seq (.reg [⟨some 4, .new [.int .i64 0, .int .i64 0], none⟩] [0, 1, 4])
  (.seq (.reg [⟨some 5, .mv (.k (.sc (.int .i64 1))), none⟩] [0, 1, 4, 5])
   (.seq (.seq (.reg [⟨some 11, .mv (.t 0), none⟩,
        ⟨some 12, .bin .lss (.t 11) (.k (.sc (.int .i64 0))), none⟩] [0, 1, 4, 5, 12])
     (.cond (.t 12)
       (.reg [⟨some 13, .mv (.t 0), none⟩,
          ⟨some 14, .un .neg (.t 13), none⟩,
          ⟨some 0, .mv (.t 14), none⟩,
          ⟨some 5, .mv (.k (.sc (.int .i64 (-1)))), none⟩] [0, 1, 4, 5])
       (.skip)))
    (.seq (.reg [⟨some 15, .bld [.int .i64 0, .int .i64 0] [], none⟩,
        ⟨some 6, .new [.int .i64 0, .int .i64 0], none⟩,
        ⟨none, .st 2 (.t 6) (.t 15), none⟩] [0, 1, 4, 5, 6])
     (.seq (.seq (.reg [⟨some 7, .mv (.k (.sc (.int .i64 0))), none⟩] [0, 1, 4, 5, 6, 7])
       (.block 0 (.loop [0, 1, 4, 5, 6, 7] b79L0)))
      (.seq (.reg [⟨some 50, .ld 2 true (.t 6), none⟩,
          ⟨none, .st 2 (.t 4) (.t 50), none⟩] [4])
       (.ret))))))
def a79 : AFun := ⟨2, b79, [.cell 4 2 true]⟩

def b80L0 : AC :=
  .seq (.seq (.reg [⟨some 9, .mv (.t 6), none⟩,
      ⟨some 10, .mv (.t 0), none⟩,
      ⟨some 11, .len false (.t 10), none⟩,
      ⟨some 12, .bin .lss (.t 9) (.t 11), none⟩] [0, 1, 4, 5, 6, 12])
   (.cond (.t 12)
     (.skip)
     (.exit 0)))
  (.seq (.block 1 (.seq (.seq (.reg [⟨some 15, .mv (.t 1), none⟩,
         ⟨some 16, .mv (.t 6), none⟩,
         ⟨some 17, .idxA 2 (.t 15) (.t 16), none⟩,
         ⟨some 18, .ld 2 true (.t 17), none⟩,
         ⟨some 19, .bld [.int .i64 0, .int .i64 0] [], none⟩,
         ⟨some 20, .seq2 false (.t 18) (.t 19), none⟩] [0, 1, 4, 5, 6, 20])
      (.cond (.t 20)
        (.exit 1)
        (.skip)))
     (.seq (.reg [⟨some 22, .mv (.t 1), none⟩,
         ⟨some 23, .mv (.t 6), none⟩,
         ⟨some 24, .idxA 2 (.t 22) (.t 23), none⟩,
         ⟨some 25, .ld 2 true (.t 24), none⟩,
         ⟨some 26, .call 96 [(.t 25)], none⟩,
         ⟨some 21, .mv (.t 26), none⟩,
         ⟨some 27, .ext (.t 21) 0, none⟩,
         ⟨some 28, .ext (.t 21) 1, none⟩,
         ⟨some 7, .mv (.t 27), none⟩,
         ⟨some 8, .mv (.t 28), none⟩] [0, 1, 4, 5, 6, 7, 8])
      (.seq (.seq (.reg [⟨some 29, .mv (.t 8), none⟩,
           ⟨some 30, .un .not (.t 29), none⟩,
           ⟨some 31, .mv (.t 30), none⟩,
           ⟨some 32, .mv (.t 0), (some (31, false))⟩,
           ⟨some 33, .mv (.t 6), (some (31, false))⟩,
           ⟨some 34, .idxA 1 (.t 32) (.t 33), (some (31, false))⟩,
           ⟨some 35, .ld 1 false (.t 34), (some (31, false))⟩,
           ⟨some 36, .bin .lss (.t 35) (.k (.sc (.int .i64 (-1048576)))), (some (31, false))⟩,
           ⟨some 37, .pick (.t 31) (.k (.sc (.bool true))) (.t 36), none⟩,
           ⟨some 38, .mv (.t 37), none⟩,
           ⟨some 39, .mv (.t 0), (some (38, false))⟩,
           ⟨some 40, .mv (.t 6), (some (38, false))⟩,
           ⟨some 41, .idxA 1 (.t 39) (.t 40), (some (38, false))⟩,
           ⟨some 42, .ld 1 false (.t 41), (some (38, false))⟩,
           ⟨some 43, .bin .gtr (.t 42) (.k (.sc (.int .i64 1048576))), (some (38, false))⟩,
           ⟨some 44, .pick (.t 38) (.k (.sc (.bool true))) (.t 43), none⟩] [0, 1, 4, 5, 6, 7, 44])
        (.cond (.t 44)
          (.seq (.reg [⟨some 45, .bld [.nilS, .bool false] [(1, 1, .k (.sc (.bool true)))], none⟩,
              ⟨none, .st 2 (.t 4) (.t 45), none⟩] [4])
           (.ret))
          (.skip)))
       (.regd [(⟨some 46, .fldA 0 (.t 5), none⟩, 0, false),
          (⟨some 47, .ld 1 false (.t 46), none⟩, 1, false),
          (⟨some 48, .mv (.t 0), none⟩, 2, false),
          (⟨some 49, .mv (.t 6), none⟩, 3, false),
          (⟨some 50, .idxA 1 (.t 48) (.t 49), none⟩, 4, false),
          (⟨some 51, .ld 1 false (.t 50), none⟩, 5, false),
          (⟨some 52, .mv (.t 7), none⟩, 6, false),
          (⟨some 53, .bld [.int .i64 0, .int .i64 0] [(0, 1, .t 51), (1, 1, .t 52)], none⟩, 7, false),
          (⟨some 54, .bsl 2 [.int .i64 0, .int .i64 0] 1 [(0, .t 53)], none⟩, 8, false),
          (⟨some 55, .app 2 16 [.int .i64 0, .int .i64 0] (.t 47) (.t 54), none⟩, 9, true),
          (⟨some 56, .fldA 0 (.t 5), none⟩, 10, false),
          (⟨none, .st 1 (.t 56) (.t 55), none⟩, 11, true)] [0, 1, 4, 5, 6])))))
   (.reg [⟨some 13, .mv (.t 6), none⟩,
      ⟨some 14, .bin .add (.t 13) (.k (.sc (.int .i64 1))), none⟩,
      ⟨some 6, .mv (.t 14), none⟩] [0, 1, 4, 5, 6]))
/-- unravel/unravelref12.collect -/
def b80 : AC :=
  .seq (.reg [⟨some 4, .new [.nilS, .bool false], none⟩] [0, 1, 4])
  (.seq (.reg [⟨some 5, .new [.nilS, .bool false], none⟩] [0, 1, 4, 5])
   (.seq (.seq (.reg [⟨some 6, .mv (.k (.sc (.int .i64 0))), none⟩] [0, 1, 4, 5, 6])
     (.block 0 (.loop [0, 1, 4, 5, 6] b80L0)))
    (.seq (.reg [⟨some 57, .ld 2 true (.t 5), none⟩,
        ⟨none, .st 2 (.t 4) (.t 57), none⟩] [4])
     (.ret))))
def a80 : AFun := ⟨2, b80, [.cell 4 2 true]⟩

/-- unravel/unravelref12.Decimal -/
def b81 : AC :=
  .seq (.reg [⟨some 2, .mv (.k (.sc (.str ⟨#[]⟩))), none⟩] [0])
  (.seq (.seq (.reg [⟨some 4, .mv (.t 0), none⟩,
       ⟨some 5, .bin .lss (.t 4) (.k (.sc (.int .i64 0))), none⟩] [0, 5])
    (.cond (.t 5)
      (.seq (.reg [⟨some 6, .mv (.t 0), none⟩,
          ⟨some 7, .un .neg (.t 6), none⟩,
          ⟨some 8, .call 81 [(.t 7)], none⟩,
          ⟨some 9, .bin .add (.k (.sc (.str ⟨#[45]⟩))) (.t 8), none⟩,
          ⟨some 2, .mv (.t 9), none⟩] [2])
       (.ret))
      (.skip)))
   (.seq (.reg [⟨some 10, .mv (.t 0), none⟩,
       ⟨some 11, .bin .rem (.t 10) (.k (.sc (.int .i64 10))), none⟩,
       ⟨some 12, .mv (.t 0), none⟩,
       ⟨some 13, .bin .rem (.t 12) (.k (.sc (.int .i64 10))), none⟩,
       ⟨some 14, .bin .add (.t 13) (.k (.sc (.int .i64 1))), none⟩,
       ⟨some 15, .slS (.k (.sc (.str ⟨#[48, 49, 50, 51, 52, 53, 54, 55, 56, 57]⟩))) (some (.t 11)) (some (.t 14)), none⟩,
       ⟨some 3, .mv (.t 15), none⟩] [0, 3])
    (.seq (.seq (.reg [⟨some 16, .mv (.t 0), none⟩,
         ⟨some 17, .bin .lss (.t 16) (.k (.sc (.int .i64 10))), none⟩] [0, 3, 17])
      (.cond (.t 17)
        (.seq (.reg [⟨some 18, .mv (.t 3), none⟩,
            ⟨some 2, .mv (.t 18), none⟩] [2])
         (.ret))
        (.skip)))
     (.seq (.reg [⟨some 19, .mv (.t 0), none⟩,
         ⟨some 20, .bin .quo (.t 19) (.k (.sc (.int .i64 10))), none⟩,
         ⟨some 21, .call 81 [(.t 20)], none⟩,
         ⟨some 22, .mv (.t 3), none⟩,
         ⟨some 23, .bin .add (.t 21) (.t 22), none⟩,
         ⟨some 2, .mv (.t 23), none⟩] [2])
      (.ret)))))
def a81 : AFun := ⟨1, b81, [.t 2]⟩

/-- cmp.isNaN[int] -/
def b84 : AC :=
  .seq (.reg [⟨some 2, .mv (.k (.sc (.bool false))), none⟩] [0])
  (.seq (.reg [⟨some 3, .mv (.t 0), none⟩,
      ⟨some 4, .mv (.t 0), none⟩,
      ⟨some 5, .bin .neq (.t 3) (.t 4), none⟩,
      ⟨some 2, .mv (.t 5), none⟩] [2])
   (.ret))
def a84 : AFun := ⟨1, b84, [.t 2]⟩

/-- math/bits.LeadingZeros64 -/
def b89 : AC :=
  .seq (.reg [⟨some 2, .mv (.k (.sc (.int .i64 0))), none⟩] [0])
  (.seq (.reg [⟨some 3, .mv (.t 0), none⟩,
      ⟨some 4, .call 103 [(.t 3)], none⟩,
      ⟨some 5, .bin .sub (.k (.sc (.int .i64 64))) (.t 4), none⟩,
      ⟨some 2, .mv (.t 5), none⟩] [2])
   (.ret))
def a89 : AFun := ⟨1, b89, [.t 2]⟩

/-- slices.Collect[int] -/
def b91 : AC :=
  .seq (.reg [⟨some 2, .mv (.k (.sc .nilS)), none⟩] [0])
  (.seq (.reg [⟨some 3, .mv (.t 0), none⟩,
      ⟨some 4, .call 104 [(.k (.sc .nilS)), (.t 3)], none⟩,
      ⟨some 2, .mv (.t 4), none⟩] [2])
   (.ret))
def a91 : AFun := ⟨1, b91, [.t 2]⟩

/-- slices.Sort[[]int,int] -/
def b92 : AC :=
  .seq (.reg [⟨some 3, .mv (.t 0), none⟩,
     ⟨some 4, .len false (.t 3), none⟩,
     ⟨some 2, .mv (.t 4), none⟩] [0, 2])
  (.reg [⟨some 5, .mv (.t 0), none⟩,
     ⟨some 6, .mv (.t 2), none⟩,
     ⟨some 7, .mv (.t 2), none⟩,
     ⟨some 8, .conv .u64 (.t 7), none⟩,
     ⟨some 9, .call 106 [(.t 8)], none⟩,
     ⟨some 10, .call 105 [(.t 5), (.k (.sc (.int .i64 0))), (.t 6), (.t 9)], none⟩] [])
def a92 : AFun := ⟨1, b92, []⟩

def b93L0 : AC :=
  .seq (.reg [⟨some 6, .mpX (.t 5), none⟩,
     ⟨some 7, .ext (.t 6) 0, none⟩] [0, 5, 7])
  (.seq (.cond (.t 7)
     (.skip)
     (.exit 0))
   (.block 1 (.seq (.reg [⟨some 8, .mpT (.t 5), none⟩,
        ⟨some 9, .ext (.t 8) 0, none⟩,
        ⟨some 3, .mv (.t 9), none⟩] [0, 3, 5])
     (.seq (.reg [⟨some 10, .mv (.t 0), none⟩,
         ⟨some 11, .mv (.t 3), none⟩,
         ⟨some 12, .callv (.t 10) [(.t 11)], none⟩,
         ⟨some 13, .un .not (.t 12), none⟩] [0, 5, 13])
      (.cond (.t 13)
        (.ret)
        (.skip))))))
/-- maps.Keys[map[int]unravel/laurent.wide,int,unravel/laurent.wide]$1 -/
def b93 : AC :=
  .seq (.reg [⟨some 4, .ld 1 false (.t 1), none⟩,
     ⟨some 5, .mpR (.t 4), none⟩] [0, 5])
  (.block 0 (.loop [0, 5] b93L0))
def a93 : AFun := ⟨2, b93, []⟩

/-- unravel/unravelref12.plus -/
def b94 : AC :=
  .seq (.reg [⟨some 2, .box (.t 0), none⟩,
     ⟨some 3, .box (.t 1), none⟩,
     ⟨some 4, .new [.int .i64 0, .int .i64 0], none⟩] [2, 3, 4])
  (.seq (.reg [⟨some 5, .fldA 0 (.t 2), none⟩,
      ⟨some 6, .ld 1 false (.t 5), none⟩,
      ⟨some 7, .fldA 0 (.t 3), none⟩,
      ⟨some 8, .ld 1 false (.t 7), none⟩,
      ⟨some 9, .bin .add (.t 6) (.t 8), none⟩,
      ⟨some 10, .fldA 1 (.t 2), none⟩,
      ⟨some 11, .ld 1 false (.t 10), none⟩,
      ⟨some 12, .fldA 1 (.t 3), none⟩,
      ⟨some 13, .ld 1 false (.t 12), none⟩,
      ⟨some 14, .bin .add (.t 11) (.t 13), none⟩,
      ⟨some 15, .bld [.int .i64 0, .int .i64 0] [(0, 1, .t 9), (1, 1, .t 14)], none⟩,
      ⟨some 16, .call 95 [(.t 15)], none⟩,
      ⟨none, .st 2 (.t 4) (.t 16), none⟩] [4])
   (.ret))
def a94 : AFun := ⟨2, b94, [.cell 4 2 true]⟩

def b95L0 : AC :=
  .seq (.seq (.reg [⟨some 3, .fldA 1 (.t 1), none⟩,
      ⟨some 4, .ld 1 false (.t 3), none⟩,
      ⟨some 5, .bin .lss (.t 4) (.k (.sc (.int .i64 0))), none⟩] [1, 2, 5])
   (.cond (.t 5)
     (.skip)
     (.exit 0)))
  (.block 1 (.reg [⟨some 6, .fldA 1 (.t 1), none⟩,
      ⟨some 7, .ld 1 false (.t 6), none⟩,
      ⟨some 8, .bin .add (.t 7) (.k (.sc (.int .i64 1125899906842624))), none⟩,
      ⟨some 9, .fldA 0 (.t 1), none⟩,
      ⟨some 10, .ld 1 false (.t 9), none⟩,
      ⟨some 11, .bin .sub (.t 10) (.k (.sc (.int .i64 1))), none⟩,
      ⟨some 12, .fldA 1 (.t 1), none⟩,
      ⟨none, .st 1 (.t 12) (.t 8), none⟩,
      ⟨some 13, .fldA 0 (.t 1), none⟩,
      ⟨none, .st 1 (.t 13) (.t 11), none⟩] [1, 2]))
/-- unravel/unravelref12.norm -/
def b95 : AC :=
  .seq (.reg [⟨some 1, .box (.t 0), none⟩,
     ⟨some 2, .new [.int .i64 0, .int .i64 0], none⟩] [1, 2])
  (.seq (.block 0 (.loop [1, 2] b95L0))
   (.seq (.reg [⟨some 14, .fldA 0 (.t 1), none⟩,
       ⟨some 15, .ld 1 false (.t 14), none⟩,
       ⟨some 16, .fldA 1 (.t 1), none⟩,
       ⟨some 17, .ld 1 false (.t 16), none⟩,
       ⟨some 18, .bin .quo (.t 17) (.k (.sc (.int .i64 1125899906842624))), none⟩,
       ⟨some 19, .bin .add (.t 15) (.t 18), none⟩,
       ⟨some 20, .fldA 1 (.t 1), none⟩,
       ⟨some 21, .ld 1 false (.t 20), none⟩,
       ⟨some 22, .bin .rem (.t 21) (.k (.sc (.int .i64 1125899906842624))), none⟩,
       ⟨some 23, .fldA 0 (.t 1), none⟩,
       ⟨none, .st 1 (.t 23) (.t 19), none⟩,
       ⟨some 24, .fldA 1 (.t 1), none⟩,
       ⟨none, .st 1 (.t 24) (.t 22), none⟩] [1, 2])
    (.seq (.reg [⟨some 25, .ld 2 true (.t 1), none⟩,
        ⟨none, .st 2 (.t 2) (.t 25), none⟩] [2])
     (.ret))))
def a95 : AFun := ⟨1, b95, [.cell 2 2 true]⟩

/-- unravel/unravelref12.small -/
def b96 : AC :=
  .seq (.reg [⟨some 1, .box (.t 0), none⟩,
     ⟨some 2, .mv (.k (.sc (.int .i64 0))), none⟩,
     ⟨some 3, .mv (.k (.sc (.bool false))), none⟩] [1])
  (.seq (.seq (.reg [⟨some 5, .fldA 0 (.t 1), none⟩,
       ⟨some 6, .ld 1 false (.t 5), none⟩,
       ⟨some 7, .bin .lss (.t 6) (.k (.sc (.int .i64 (-2)))), none⟩,
       ⟨some 8, .mv (.t 7), none⟩,
       ⟨some 9, .fldA 0 (.t 1), (some (8, false))⟩,
       ⟨some 10, .ld 1 false (.t 9), (some (8, false))⟩,
       ⟨some 11, .bin .gtr (.t 10) (.k (.sc (.int .i64 2))), (some (8, false))⟩,
       ⟨some 12, .pick (.t 8) (.k (.sc (.bool true))) (.t 11), none⟩] [1, 12])
    (.cond (.t 12)
      (.seq (.reg [⟨some 2, .mv (.k (.sc (.int .i64 0))), none⟩,
          ⟨some 3, .mv (.k (.sc (.bool false))), none⟩] [2, 3])
       (.ret))
      (.skip)))
   (.seq (.reg [⟨some 13, .fldA 0 (.t 1), none⟩,
       ⟨some 14, .ld 1 false (.t 13), none⟩,
       ⟨some 15, .bin .mul (.t 14) (.k (.sc (.int .i64 1125899906842624))), none⟩,
       ⟨some 16, .fldA 1 (.t 1), none⟩,
       ⟨some 17, .ld 1 false (.t 16), none⟩,
       ⟨some 18, .bin .add (.t 15) (.t 17), none⟩,
       ⟨some 4, .mv (.t 18), none⟩] [4])
    (.seq (.reg [⟨some 19, .mv (.t 4), none⟩,
        ⟨some 20, .mv (.t 4), none⟩,
        ⟨some 21, .bin .geq (.t 20) (.k (.sc (.int .i64 (-1125899906842624)))), none⟩,
        ⟨some 22, .mv (.t 21), none⟩,
        ⟨some 23, .mv (.t 4), (some (22, true))⟩,
        ⟨some 24, .bin .leq (.t 23) (.k (.sc (.int .i64 1125899906842624))), (some (22, true))⟩,
        ⟨some 25, .pick (.t 22) (.t 24) (.k (.sc (.bool false))), none⟩,
        ⟨some 2, .mv (.t 19), none⟩,
        ⟨some 3, .mv (.t 25), none⟩] [2, 3])
     (.ret))))
def a96 : AFun := ⟨1, b96, [.t 2, .t 3]⟩

/-- math/bits.Len64 -/
def b103 : AC :=
  .seq (.reg [⟨some 2, .mv (.k (.sc (.int .i64 0))), none⟩] [0, 2])
  (.seq (.seq (.reg [⟨some 3, .mv (.t 0), none⟩,
       ⟨some 4, .bin .geq (.t 3) (.k (.sc (.int .u64 4294967296))), none⟩] [0, 2, 4])
    (.cond (.t 4)
      (.seq (.reg [⟨some 5, .mv (.t 0), none⟩,
          ⟨some 6, .bin .shr (.t 5) (.k (.sc (.int .u64 32))), none⟩,
          ⟨some 0, .mv (.t 6), none⟩] [0])
       (.reg [⟨some 2, .mv (.k (.sc (.int .i64 32))), none⟩] [0, 2]))
      (.skip)))
   (.seq (.seq (.reg [⟨some 7, .mv (.t 0), none⟩,
        ⟨some 8, .bin .geq (.t 7) (.k (.sc (.int .u64 65536))), none⟩] [0, 2, 8])
     (.cond (.t 8)
       (.seq (.reg [⟨some 9, .mv (.t 0), none⟩,
           ⟨some 10, .bin .shr (.t 9) (.k (.sc (.int .u64 16))), none⟩,
           ⟨some 0, .mv (.t 10), none⟩] [0, 2])
        (.reg [⟨some 11, .mv (.t 2), none⟩,
           ⟨some 12, .bin .add (.t 11) (.k (.sc (.int .i64 16))), none⟩,
           ⟨some 2, .mv (.t 12), none⟩] [0, 2]))
       (.skip)))
    (.seq (.seq (.reg [⟨some 13, .mv (.t 0), none⟩,
         ⟨some 14, .bin .geq (.t 13) (.k (.sc (.int .u64 256))), none⟩] [0, 2, 14])
      (.cond (.t 14)
        (.seq (.reg [⟨some 15, .mv (.t 0), none⟩,
            ⟨some 16, .bin .shr (.t 15) (.k (.sc (.int .u64 8))), none⟩,
            ⟨some 0, .mv (.t 16), none⟩] [0, 2])
         (.reg [⟨some 17, .mv (.t 2), none⟩,
            ⟨some 18, .bin .add (.t 17) (.k (.sc (.int .i64 8))), none⟩,
            ⟨some 2, .mv (.t 18), none⟩] [0, 2]))
        (.skip)))
     (.seq (.reg [⟨some 19, .mv (.t 2), none⟩,
         ⟨some 20, .mv (.t 0), none⟩,
         ⟨some 21, .conv .u8 (.t 20), none⟩,
         ⟨some 22, .idxS (.k (.sc (.str ⟨#[0, 1, 2, 2, 3, 3, 3, 3, 4, 4, 4, 4, 4, 4, 4, 4, 5, 5, 5, 5, 5, 5, 5, 5, 5, 5, 5, 5, 5, 5, 5, 5, 6, 6, 6, 6, 6, 6, 6, 6, 6, 6, 6, 6, 6, 6, 6, 6, 6, 6, 6, 6, 6, 6, 6, 6, 6, 6, 6, 6, 6, 6, 6, 6, 7, 7, 7, 7, 7, 7, 7, 7, 7, 7, 7, 7, 7, 7, 7, 7, 7, 7, 7, 7, 7, 7, 7, 7, 7, 7, 7, 7, 7, 7, 7, 7, 7, 7, 7, 7, 7, 7, 7, 7, 7, 7, 7, 7, 7, 7, 7, 7, 7, 7, 7, 7, 7, 7, 7, 7, 7, 7, 7, 7, 7, 7, 7, 7, 8, 8, 8, 8, 8, 8, 8, 8, 8, 8, 8, 8, 8, 8, 8, 8, 8, 8, 8, 8, 8, 8, 8, 8, 8, 8, 8, 8, 8, 8, 8, 8, 8, 8, 8, 8, 8, 8, 8, 8, 8, 8, 8, 8, 8, 8, 8, 8, 8, 8, 8, 8, 8, 8, 8, 8, 8, 8, 8, 8, 8, 8, 8, 8, 8, 8, 8, 8, 8, 8, 8, 8, 8, 8, 8, 8, 8, 8, 8, 8, 8, 8, 8, 8, 8, 8, 8, 8, 8, 8, 8, 8, 8, 8, 8, 8, 8, 8, 8, 8, 8, 8, 8, 8, 8, 8, 8, 8, 8, 8, 8, 8, 8, 8, 8, 8, 8, 8, 8, 8, 8, 8, 8, 8, 8, 8, 8, 8]⟩))) (.t 21), none⟩,
         ⟨some 23, .conv .i64 (.t 22), none⟩,
         ⟨some 24, .bin .add (.t 19) (.t 23), none⟩,
         ⟨some 2, .mv (.t 24), none⟩] [2])
      (.ret)))))
def a103 : AFun := ⟨1, b103, [.t 2]⟩

def b105L0 : AC :=
  .block 1 (.seq (.reg [⟨some 19, .mv (.t 2), none⟩,
      ⟨some 20, .mv (.t 1), none⟩,
      ⟨some 21, .bin .sub (.t 19) (.t 20), none⟩,
      ⟨some 10, .mv (.t 21), none⟩] [0, 1, 2, 3, 8, 9, 10])
   (.seq (.seq (.reg [⟨some 22, .mv (.t 10), none⟩,
        ⟨some 23, .bin .leq (.t 22) (.k (.sc (.int .i64 12))), none⟩] [0, 1, 2, 3, 8, 9, 10, 23])
     (.cond (.t 23)
       (.seq (.reg [⟨some 24, .mv (.t 0), none⟩,
           ⟨some 25, .mv (.t 1), none⟩,
           ⟨some 26, .mv (.t 2), none⟩,
           ⟨some 27, .call 112 [(.t 24), (.t 25), (.t 26)], none⟩] [])
        (.ret))
       (.skip)))
    (.seq (.seq (.reg [⟨some 28, .mv (.t 3), none⟩,
         ⟨some 29, .bin .eql (.t 28) (.k (.sc (.int .i64 0))), none⟩] [0, 1, 2, 3, 8, 9, 10, 29])
      (.cond (.t 29)
        (.seq (.reg [⟨some 30, .mv (.t 0), none⟩,
            ⟨some 31, .mv (.t 1), none⟩,
            ⟨some 32, .mv (.t 2), none⟩,
            ⟨some 33, .call 113 [(.t 30), (.t 31), (.t 32)], none⟩] [])
         (.ret))
        (.skip)))
     (.seq (.seq (.reg [⟨some 34, .mv (.t 8), none⟩,
          ⟨some 35, .un .not (.t 34), none⟩] [0, 1, 2, 3, 8, 9, 10, 35])
       (.cond (.t 35)
         (.seq (.reg [⟨some 36, .mv (.t 0), none⟩,
             ⟨some 37, .mv (.t 1), none⟩,
             ⟨some 38, .mv (.t 2), none⟩,
             ⟨some 39, .call 114 [(.t 36), (.t 37), (.t 38)], none⟩] [0, 1, 2, 3, 8, 9, 10])
          (.reg [⟨some 40, .mv (.t 3), none⟩,
             ⟨some 41, .bin .sub (.t 40) (.k (.sc (.int .i64 1))), none⟩,
             ⟨some 3, .mv (.t 41), none⟩] [0, 1, 2, 3, 8, 9, 10]))
         (.skip)))
      (.seq (.reg [⟨some 43, .mv (.t 0), none⟩,
          ⟨some 44, .mv (.t 1), none⟩,
          ⟨some 45, .mv (.t 2), none⟩,
          ⟨some 46, .call 115 [(.t 43), (.t 44), (.t 45)], none⟩,
          ⟨some 42, .mv (.t 46), none⟩,
          ⟨some 47, .ext (.t 42) 0, none⟩,
          ⟨some 48, .ext (.t 42) 1, none⟩,
          ⟨some 11, .mv (.t 47), none⟩,
          ⟨some 12, .mv (.t 48), none⟩] [0, 1, 2, 3, 8, 9, 10, 11, 12])
       (.seq (.seq (.reg [⟨some 49, .mv (.t 12), none⟩,
            ⟨some 50, .bin .eql (.t 49) (.k (.sc (.int .i64 2))), none⟩] [0, 1, 2, 3, 8, 9, 10, 11, 12, 50])
         (.cond (.t 50)
           (.seq (.reg [⟨some 51, .mv (.t 0), none⟩,
               ⟨some 52, .mv (.t 1), none⟩,
               ⟨some 53, .mv (.t 2), none⟩,
               ⟨some 54, .call 116 [(.t 51), (.t 52), (.t 53)], none⟩] [0, 1, 2, 3, 8, 9, 10, 11])
            (.seq (.reg [⟨some 55, .mv (.t 2), none⟩,
                ⟨some 56, .bin .sub (.t 55) (.k (.sc (.int .i64 1))), none⟩,
                ⟨some 57, .mv (.t 11), none⟩,
                ⟨some 58, .mv (.t 1), none⟩,
                ⟨some 59, .bin .sub (.t 57) (.t 58), none⟩,
                ⟨some 60, .bin .sub (.t 56) (.t 59), none⟩,
                ⟨some 11, .mv (.t 60), none⟩] [0, 1, 2, 3, 8, 9, 10, 11])
             (.reg [⟨some 12, .mv (.k (.sc (.int .i64 1))), none⟩] [0, 1, 2, 3, 8, 9, 10, 11, 12])))
           (.skip)))
        (.seq (.seq (.reg [⟨some 61, .mv (.t 8), none⟩,
             ⟨some 62, .mv (.t 61), none⟩,
             ⟨some 63, .mv (.t 9), (some (62, true))⟩,
             ⟨some 64, .pick (.t 62) (.t 63) (.k (.sc (.bool false))), none⟩,
             ⟨some 65, .mv (.t 64), none⟩,
             ⟨some 66, .mv (.t 12), (some (65, true))⟩,
             ⟨some 67, .bin .eql (.t 66) (.k (.sc (.int .i64 1))), (some (65, true))⟩,
             ⟨some 68, .pick (.t 65) (.t 67) (.k (.sc (.bool false))), none⟩] [0, 1, 2, 3, 8, 9, 10, 11, 68])
          (.cond (.t 68)
            (.seq (.reg [⟨some 69, .mv (.t 0), none⟩,
                ⟨some 70, .mv (.t 1), none⟩,
                ⟨some 71, .mv (.t 2), none⟩,
                ⟨some 72, .call 117 [(.t 69), (.t 70), (.t 71)], none⟩] [0, 1, 2, 3, 8, 9, 10, 11, 72])
             (.cond (.t 72)
               (.ret)
               (.skip)))
            (.skip)))
         (.seq (.seq (.regd [(⟨some 73, .mv (.t 1), none⟩, 0, false),
              (⟨some 74, .bin .gtr (.t 73) (.k (.sc (.int .i64 0))), none⟩, 1, false),
              (⟨some 75, .mv (.t 74), none⟩, 2, false),
              (⟨some 76, .mv (.t 0), (some (75, true))⟩, 3, false),
              (⟨some 77, .mv (.t 1), (some (75, true))⟩, 4, false),
              (⟨some 78, .bin .sub (.t 77) (.k (.sc (.int .i64 1))), (some (75, true))⟩, 5, false),
              (⟨some 79, .idxA 1 (.t 76) (.t 78), (some (75, true))⟩, 6, false),
              (⟨some 80, .ld 1 false (.t 79), (some (75, true))⟩, 7, false),
              (⟨some 81, .mv (.t 0), (some (75, true))⟩, 8, false),
              (⟨some 82, .mv (.t 11), (some (75, true))⟩, 9, false),
              (⟨some 83, .idxA 1 (.t 81) (.t 82), (some (75, true))⟩, 10, false),
              (⟨some 84, .ld 1 false (.t 83), (some (75, true))⟩, 11, false),
              (⟨some 85, .call 118 [(.t 80), (.t 84)], (some (75, true))⟩, 12, true),
              (⟨some 86, .un .not (.t 85), (some (75, true))⟩, 13, false),
              (⟨some 87, .pick (.t 75) (.t 86) (.k (.sc (.bool false))), none⟩, 14, false)] [0, 1, 2, 3, 8, 9, 10, 11, 87])
           (.cond (.t 87)
             (.seq (.reg [⟨some 88, .mv (.t 0), none⟩,
                 ⟨some 89, .mv (.t 1), none⟩,
                 ⟨some 90, .mv (.t 2), none⟩,
                 ⟨some 91, .mv (.t 11), none⟩,
                 ⟨some 92, .call 119 [(.t 88), (.t 89), (.t 90), (.t 91)], none⟩,
                 ⟨some 13, .mv (.t 92), none⟩] [0, 2, 3, 8, 9, 13])
              (.seq (.reg [⟨some 93, .mv (.t 13), none⟩,
                  ⟨some 1, .mv (.t 93), none⟩] [0, 1, 2, 3, 8, 9])
               (.exit 1)))
             (.skip)))
          (.seq (.reg [⟨some 95, .mv (.t 0), none⟩,
              ⟨some 96, .mv (.t 1), none⟩,
              ⟨some 97, .mv (.t 2), none⟩,
              ⟨some 98, .mv (.t 11), none⟩,
              ⟨some 99, .call 120 [(.t 95), (.t 96), (.t 97), (.t 98)], none⟩,
              ⟨some 94, .mv (.t 99), none⟩,
              ⟨some 100, .ext (.t 94) 0, none⟩,
              ⟨some 101, .ext (.t 94) 1, none⟩,
              ⟨some 14, .mv (.t 100), none⟩,
              ⟨some 15, .mv (.t 101), none⟩] [0, 1, 2, 3, 10, 14, 15])
           (.seq (.reg [⟨some 102, .mv (.t 15), none⟩,
               ⟨some 9, .mv (.t 102), none⟩] [0, 1, 2, 3, 9, 10, 14])
            (.seq (.reg [⟨some 103, .mv (.t 14), none⟩,
                ⟨some 104, .mv (.t 1), none⟩,
                ⟨some 105, .bin .sub (.t 103) (.t 104), none⟩,
                ⟨some 106, .mv (.t 2), none⟩,
                ⟨some 107, .mv (.t 14), none⟩,
                ⟨some 108, .bin .sub (.t 106) (.t 107), none⟩,
                ⟨some 16, .mv (.t 105), none⟩,
                ⟨some 17, .mv (.t 108), none⟩] [0, 1, 2, 3, 9, 10, 14, 16, 17])
             (.seq (.reg [⟨some 109, .mv (.t 10), none⟩,
                 ⟨some 110, .bin .quo (.t 109) (.k (.sc (.int .i64 8))), none⟩,
                 ⟨some 18, .mv (.t 110), none⟩] [0, 1, 2, 3, 9, 14, 16, 17, 18])
              (.seq (.reg [⟨some 111, .mv (.t 16), none⟩,
                  ⟨some 112, .mv (.t 17), none⟩,
                  ⟨some 113, .bin .lss (.t 111) (.t 112), none⟩] [0, 1, 2, 3, 9, 14, 16, 17, 18, 113])
               (.cond (.t 113)
                 (.seq (.reg [⟨some 114, .mv (.t 16), none⟩,
                     ⟨some 115, .mv (.t 18), none⟩,
                     ⟨some 116, .bin .geq (.t 114) (.t 115), none⟩,
                     ⟨some 8, .mv (.t 116), none⟩] [0, 1, 2, 3, 8, 9, 14])
                  (.seq (.reg [⟨some 117, .mv (.t 0), none⟩,
                      ⟨some 118, .mv (.t 1), none⟩,
                      ⟨some 119, .mv (.t 14), none⟩,
                      ⟨some 120, .mv (.t 3), none⟩,
                      ⟨some 121, .call 105 [(.t 117), (.t 118), (.t 119), (.t 120)], none⟩] [0, 2, 3, 8, 9, 14])
                   (.reg [⟨some 122, .mv (.t 14), none⟩,
                      ⟨some 123, .bin .add (.t 122) (.k (.sc (.int .i64 1))), none⟩,
                      ⟨some 1, .mv (.t 123), none⟩] [0, 1, 2, 3, 8, 9])))
                 (.seq (.reg [⟨some 124, .mv (.t 17), none⟩,
                     ⟨some 125, .mv (.t 18), none⟩,
                     ⟨some 126, .bin .geq (.t 124) (.t 125), none⟩,
                     ⟨some 8, .mv (.t 126), none⟩] [0, 1, 2, 3, 8, 9, 14])
                  (.seq (.reg [⟨some 127, .mv (.t 0), none⟩,
                      ⟨some 128, .mv (.t 14), none⟩,
                      ⟨some 129, .bin .add (.t 128) (.k (.sc (.int .i64 1))), none⟩,
                      ⟨some 130, .mv (.t 2), none⟩,
                      ⟨some 131, .mv (.t 3), none⟩,
                      ⟨some 132, .call 105 [(.t 127), (.t 129), (.t 130), (.t 131)], none⟩] [0, 1, 3, 8, 9, 14])
                   (.reg [⟨some 133, .mv (.t 14), none⟩,
                      ⟨some 2, .mv (.t 133), none⟩] [0, 1, 2, 3, 8, 9])))))))))))))))))
/-- slices.pdqsortOrdered[int] -/
def b105 : AC :=
  .seq (.reg [⟨some 8, .mv (.k (.sc (.bool true))), none⟩] [0, 1, 2, 3, 8])
  (.seq (.reg [⟨some 9, .mv (.k (.sc (.bool true))), none⟩] [0, 1, 2, 3, 8, 9])
   (.block 0 (.loop [0, 1, 2, 3, 8, 9] b105L0)))
def a105 : AFun := ⟨4, b105, []⟩

/-- math/bits.Len -/
def b106 : AC :=
  .seq (.reg [⟨some 2, .mv (.k (.sc (.int .i64 0))), none⟩] [0])
  (.seq (.cond (.k (.sc (.bool false)))
     (.seq (.reg [⟨some 3, .mv (.t 0), none⟩,
         ⟨some 4, .conv .u32 (.t 3), none⟩,
         ⟨some 5, .call 121 [(.t 4)], none⟩,
         ⟨some 2, .mv (.t 5), none⟩] [2])
      (.ret))
     (.skip))
   (.seq (.reg [⟨some 6, .mv (.t 0), none⟩,
       ⟨some 7, .call 103 [(.t 6)], none⟩,
       ⟨some 2, .mv (.t 7), none⟩] [2])
    (.ret)))
def a106 : AFun := ⟨1, b106, [.t 2]⟩

def b112L1 : AC :=
  .seq (.seq (.regd [(⟨some 16, .mv (.t 7), none⟩, 0, false),
      (⟨some 17, .mv (.t 1), none⟩, 1, false),
      (⟨some 18, .bin .gtr (.t 16) (.t 17), none⟩, 2, false),
      (⟨some 19, .mv (.t 18), none⟩, 3, false),
      (⟨some 20, .mv (.t 0), (some (19, true))⟩, 4, false),
      (⟨some 21, .mv (.t 7), (some (19, true))⟩, 5, false),
      (⟨some 22, .idxA 1 (.t 20) (.t 21), (some (19, true))⟩, 6, false),
      (⟨some 23, .ld 1 false (.t 22), (some (19, true))⟩, 7, false),
      (⟨some 24, .mv (.t 0), (some (19, true))⟩, 8, false),
      (⟨some 25, .mv (.t 7), (some (19, true))⟩, 9, false),
      (⟨some 26, .bin .sub (.t 25) (.k (.sc (.int .i64 1))), (some (19, true))⟩, 10, false),
      (⟨some 27, .idxA 1 (.t 24) (.t 26), (some (19, true))⟩, 11, false),
      (⟨some 28, .ld 1 false (.t 27), (some (19, true))⟩, 12, false),
      (⟨some 29, .call 118 [(.t 23), (.t 28)], (some (19, true))⟩, 13, true),
      (⟨some 30, .pick (.t 19) (.t 29) (.k (.sc (.bool false))), none⟩, 14, false)] [0, 1, 2, 6, 7, 30])
   (.cond (.t 30)
     (.skip)
     (.exit 2)))
  (.seq (.block 3 (.regd [(⟨some 33, .mv (.t 0), none⟩, 0, false),
       (⟨some 34, .mv (.t 7), none⟩, 1, false),
       (⟨some 35, .mv (.t 0), none⟩, 2, false),
       (⟨some 36, .mv (.t 7), none⟩, 3, false),
       (⟨some 37, .bin .sub (.t 36) (.k (.sc (.int .i64 1))), none⟩, 4, false),
       (⟨some 38, .mv (.t 0), none⟩, 5, false),
       (⟨some 39, .mv (.t 7), none⟩, 6, false),
       (⟨some 40, .bin .sub (.t 39) (.k (.sc (.int .i64 1))), none⟩, 7, false),
       (⟨some 41, .idxA 1 (.t 38) (.t 40), none⟩, 8, false),
       (⟨some 42, .ld 1 false (.t 41), none⟩, 9, false),
       (⟨some 43, .mv (.t 0), none⟩, 10, false),
       (⟨some 44, .mv (.t 7), none⟩, 11, false),
       (⟨some 45, .idxA 1 (.t 43) (.t 44), none⟩, 12, false),
       (⟨some 46, .ld 1 false (.t 45), none⟩, 13, false),
       (⟨some 47, .idxA 1 (.t 33) (.t 34), none⟩, 14, false),
       (⟨none, .st 1 (.t 47) (.t 42), none⟩, 15, true),
       (⟨some 48, .idxA 1 (.t 35) (.t 37), none⟩, 16, false),
       (⟨none, .st 1 (.t 48) (.t 46), none⟩, 17, true)] [0, 1, 2, 6, 7]))
   (.reg [⟨some 31, .mv (.t 7), none⟩,
      ⟨some 32, .bin .sub (.t 31) (.k (.sc (.int .i64 1))), none⟩,
      ⟨some 7, .mv (.t 32), none⟩] [0, 1, 2, 6, 7]))
def b112L0 : AC :=
  .seq (.seq (.reg [⟨some 10, .mv (.t 6), none⟩,
      ⟨some 11, .mv (.t 2), none⟩,
      ⟨some 12, .bin .lss (.t 10) (.t 11), none⟩] [0, 1, 2, 6, 12])
   (.cond (.t 12)
     (.skip)
     (.exit 0)))
  (.seq (.block 1 (.seq (.reg [⟨some 15, .mv (.t 6), none⟩,
        ⟨some 7, .mv (.t 15), none⟩] [0, 1, 2, 6, 7])
     (.block 2 (.loop [0, 1, 2, 6, 7] b112L1))))
   (.reg [⟨some 13, .mv (.t 6), none⟩,
      ⟨some 14, .bin .add (.t 13) (.k (.sc (.int .i64 1))), none⟩,
      ⟨some 6, .mv (.t 14), none⟩] [0, 1, 2, 6]))
/-- slices.insertionSortOrdered[int] -/
def b112 : AC :=
  .seq (.reg [⟨some 8, .mv (.t 1), none⟩,
     ⟨some 9, .bin .add (.t 8) (.k (.sc (.int .i64 1))), none⟩,
     ⟨some 6, .mv (.t 9), none⟩] [0, 1, 2, 6])
  (.block 0 (.loop [0, 1, 2, 6] b112L0))
def a112 : AFun := ⟨3, b112, []⟩

def b113L0 : AC :=
  .seq (.seq (.reg [⟨some 18, .mv (.t 9), none⟩,
      ⟨some 19, .bin .geq (.t 18) (.k (.sc (.int .i64 0))), none⟩] [0, 6, 7, 8, 9, 19])
   (.cond (.t 19)
     (.skip)
     (.exit 0)))
  (.seq (.block 1 (.reg [⟨some 22, .mv (.t 0), none⟩,
       ⟨some 23, .mv (.t 9), none⟩,
       ⟨some 24, .mv (.t 8), none⟩,
       ⟨some 25, .mv (.t 6), none⟩,
       ⟨some 26, .call 126 [(.t 22), (.t 23), (.t 24), (.t 25)], none⟩] [0, 6, 7, 8, 9]))
   (.reg [⟨some 20, .mv (.t 9), none⟩,
      ⟨some 21, .bin .sub (.t 20) (.k (.sc (.int .i64 1))), none⟩,
      ⟨some 9, .mv (.t 21), none⟩] [0, 6, 7, 8, 9]))
def b113L1 : AC :=
  .seq (.seq (.reg [⟨some 29, .mv (.t 10), none⟩,
      ⟨some 30, .bin .geq (.t 29) (.k (.sc (.int .i64 0))), none⟩] [0, 6, 7, 10, 30])
   (.cond (.t 30)
     (.skip)
     (.exit 2)))
  (.seq (.block 3 (.seq (.regd [(⟨some 33, .mv (.t 0), none⟩, 0, false),
        (⟨some 34, .mv (.t 6), none⟩, 1, false),
        (⟨some 35, .mv (.t 0), none⟩, 2, false),
        (⟨some 36, .mv (.t 6), none⟩, 3, false),
        (⟨some 37, .mv (.t 10), none⟩, 4, false),
        (⟨some 38, .bin .add (.t 36) (.t 37), none⟩, 5, false),
        (⟨some 39, .mv (.t 0), none⟩, 6, false),
        (⟨some 40, .mv (.t 6), none⟩, 7, false),
        (⟨some 41, .mv (.t 10), none⟩, 8, false),
        (⟨some 42, .bin .add (.t 40) (.t 41), none⟩, 9, false),
        (⟨some 43, .idxA 1 (.t 39) (.t 42), none⟩, 10, false),
        (⟨some 44, .ld 1 false (.t 43), none⟩, 11, false),
        (⟨some 45, .mv (.t 0), none⟩, 12, false),
        (⟨some 46, .mv (.t 6), none⟩, 13, false),
        (⟨some 47, .idxA 1 (.t 45) (.t 46), none⟩, 14, false),
        (⟨some 48, .ld 1 false (.t 47), none⟩, 15, false),
        (⟨some 49, .idxA 1 (.t 33) (.t 34), none⟩, 16, false),
        (⟨none, .st 1 (.t 49) (.t 44), none⟩, 17, true),
        (⟨some 50, .idxA 1 (.t 35) (.t 38), none⟩, 18, false),
        (⟨none, .st 1 (.t 50) (.t 48), none⟩, 19, true)] [0, 6, 7, 10])
     (.reg [⟨some 51, .mv (.t 0), none⟩,
        ⟨some 52, .mv (.t 7), none⟩,
        ⟨some 53, .mv (.t 10), none⟩,
        ⟨some 54, .mv (.t 6), none⟩,
        ⟨some 55, .call 126 [(.t 51), (.t 52), (.t 53), (.t 54)], none⟩] [0, 6, 7, 10])))
   (.reg [⟨some 31, .mv (.t 10), none⟩,
      ⟨some 32, .bin .sub (.t 31) (.k (.sc (.int .i64 1))), none⟩,
      ⟨some 10, .mv (.t 32), none⟩] [0, 6, 7, 10]))
/-- slices.heapSortOrdered[int] -/
def b113 : AC :=
  .seq (.reg [⟨some 11, .mv (.t 1), none⟩,
     ⟨some 6, .mv (.t 11), none⟩] [0, 1, 2, 6])
  (.seq (.reg [⟨some 7, .mv (.k (.sc (.int .i64 0))), none⟩] [0, 1, 2, 6, 7])
   (.seq (.reg [⟨some 12, .mv (.t 2), none⟩,
       ⟨some 13, .mv (.t 1), none⟩,
       ⟨some 14, .bin .sub (.t 12) (.t 13), none⟩,
       ⟨some 8, .mv (.t 14), none⟩] [0, 6, 7, 8])
    (.seq (.seq (.reg [⟨some 15, .mv (.t 8), none⟩,
         ⟨some 16, .bin .sub (.t 15) (.k (.sc (.int .i64 1))), none⟩,
         ⟨some 17, .bin .quo (.t 16) (.k (.sc (.int .i64 2))), none⟩,
         ⟨some 9, .mv (.t 17), none⟩] [0, 6, 7, 8, 9])
      (.block 0 (.loop [0, 6, 7, 8, 9] b113L0)))
     (.seq (.reg [⟨some 27, .mv (.t 8), none⟩,
         ⟨some 28, .bin .sub (.t 27) (.k (.sc (.int .i64 1))), none⟩,
         ⟨some 10, .mv (.t 28), none⟩] [0, 6, 7, 10])
      (.block 2 (.loop [0, 6, 7, 10] b113L1))))))
def a113 : AFun := ⟨3, b113, []⟩

def b114L0 : AC :=
  .seq (.seq (.reg [⟨some 26, .mv (.t 9), none⟩,
      ⟨some 27, .mv (.t 1), none⟩,
      ⟨some 28, .mv (.t 6), none⟩,
      ⟨some 29, .bin .quo (.t 28) (.k (.sc (.int .i64 4))), none⟩,
      ⟨some 30, .bin .mul (.t 29) (.k (.sc (.int .i64 2))), none⟩,
      ⟨some 31, .bin .add (.t 27) (.t 30), none⟩,
      ⟨some 32, .bin .add (.t 31) (.k (.sc (.int .i64 1))), none⟩,
      ⟨some 33, .bin .leq (.t 26) (.t 32), none⟩] [0, 1, 6, 7, 8, 9, 33])
   (.cond (.t 33)
     (.skip)
     (.exit 0)))
  (.seq (.block 1 (.seq (.reg [⟨some 36, .call 128 [(.t 7)], none⟩,
        ⟨some 37, .mv (.t 8), none⟩,
        ⟨some 38, .bin .sub (.t 37) (.k (.sc (.int .u64 1))), none⟩,
        ⟨some 39, .bin .and (.t 36) (.t 38), none⟩,
        ⟨some 40, .conv .i64 (.t 39), none⟩,
        ⟨some 10, .mv (.t 40), none⟩] [0, 1, 6, 7, 8, 9, 10])
     (.seq (.seq (.reg [⟨some 41, .mv (.t 10), none⟩,
          ⟨some 42, .mv (.t 6), none⟩,
          ⟨some 43, .bin .geq (.t 41) (.t 42), none⟩] [0, 1, 6, 7, 8, 9, 10, 43])
       (.cond (.t 43)
         (.reg [⟨some 44, .mv (.t 10), none⟩,
            ⟨some 45, .mv (.t 6), none⟩,
            ⟨some 46, .bin .sub (.t 44) (.t 45), none⟩,
            ⟨some 10, .mv (.t 46), none⟩] [0, 1, 6, 7, 8, 9, 10])
         (.skip)))
      (.regd [(⟨some 47, .mv (.t 0), none⟩, 0, false),
         (⟨some 48, .mv (.t 9), none⟩, 1, false),
         (⟨some 49, .mv (.t 0), none⟩, 2, false),
         (⟨some 50, .mv (.t 1), none⟩, 3, false),
         (⟨some 51, .mv (.t 10), none⟩, 4, false),
         (⟨some 52, .bin .add (.t 50) (.t 51), none⟩, 5, false),
         (⟨some 53, .mv (.t 0), none⟩, 6, false),
         (⟨some 54, .mv (.t 1), none⟩, 7, false),
         (⟨some 55, .mv (.t 10), none⟩, 8, false),
         (⟨some 56, .bin .add (.t 54) (.t 55), none⟩, 9, false),
         (⟨some 57, .idxA 1 (.t 53) (.t 56), none⟩, 10, false),
         (⟨some 58, .ld 1 false (.t 57), none⟩, 11, false),
         (⟨some 59, .mv (.t 0), none⟩, 12, false),
         (⟨some 60, .mv (.t 9), none⟩, 13, false),
         (⟨some 61, .idxA 1 (.t 59) (.t 60), none⟩, 14, false),
         (⟨some 62, .ld 1 false (.t 61), none⟩, 15, false),
         (⟨some 63, .idxA 1 (.t 47) (.t 48), none⟩, 16, false),
         (⟨none, .st 1 (.t 63) (.t 58), none⟩, 17, true),
         (⟨some 64, .idxA 1 (.t 49) (.t 52), none⟩, 18, false),
         (⟨none, .st 1 (.t 64) (.t 62), none⟩, 19, true)] [0, 1, 6, 7, 8, 9]))))
   (.reg [⟨some 34, .mv (.t 9), none⟩,
      ⟨some 35, .bin .add (.t 34) (.k (.sc (.int .i64 1))), none⟩,
      ⟨some 9, .mv (.t 35), none⟩] [0, 1, 6, 7, 8, 9]))
/-- slices.breakPatternsOrdered[int] -/
def b114 : AC :=
  .seq (.reg [⟨some 11, .mv (.t 2), none⟩,
     ⟨some 12, .mv (.t 1), none⟩,
     ⟨some 13, .bin .sub (.t 11) (.t 12), none⟩,
     ⟨some 6, .mv (.t 13), none⟩] [0, 1, 6])
  (.seq (.reg [⟨some 14, .mv (.t 6), none⟩,
      ⟨some 15, .bin .geq (.t 14) (.k (.sc (.int .i64 8))), none⟩] [0, 1, 6, 15])
   (.cond (.t 15)
     (.seq (.reg [⟨some 16, .mv (.t 6), none⟩,
         ⟨some 17, .conv .u64 (.t 16), none⟩,
         ⟨some 7, .new [.int .u64 0], none⟩,
         ⟨none, .st 1 (.t 7) (.t 17), none⟩] [0, 1, 6, 7])
      (.seq (.reg [⟨some 18, .mv (.t 6), none⟩,
          ⟨some 19, .call 127 [(.t 18)], none⟩,
          ⟨some 8, .mv (.t 19), none⟩] [0, 1, 6, 7, 8])
       (.seq (.reg [⟨some 20, .mv (.t 1), none⟩,
           ⟨some 21, .mv (.t 6), none⟩,
           ⟨some 22, .bin .quo (.t 21) (.k (.sc (.int .i64 4))), none⟩,
           ⟨some 23, .bin .mul (.t 22) (.k (.sc (.int .i64 2))), none⟩,
           ⟨some 24, .bin .add (.t 20) (.t 23), none⟩,
           ⟨some 25, .bin .sub (.t 24) (.k (.sc (.int .i64 1))), none⟩,
           ⟨some 9, .mv (.t 25), none⟩] [0, 1, 6, 7, 8, 9])
        (.block 0 (.loop [0, 1, 6, 7, 8, 9] b114L0)))))
     (.skip)))
def a114 : AFun := ⟨3, b114, []⟩

/-- slices.choosePivotOrdered[int] -/
def b115 : AC :=
  .seq (.reg [⟨some 6, .mv (.k (.sc (.int .i64 0))), none⟩,
     ⟨some 7, .mv (.k (.sc (.int .i64 0))), none⟩] [0, 1, 2])
  (.seq (.reg [⟨some 13, .mv (.t 2), none⟩,
      ⟨some 14, .mv (.t 1), none⟩,
      ⟨some 15, .bin .sub (.t 13) (.t 14), none⟩,
      ⟨some 8, .mv (.t 15), none⟩] [0, 1, 8])
   (.seq (.reg [⟨some 9, .new [.int .i64 0], none⟩] [0, 1, 8, 9])
    (.seq (.reg [⟨some 16, .mv (.t 1), none⟩,
        ⟨some 17, .mv (.t 8), none⟩,
        ⟨some 18, .bin .quo (.t 17) (.k (.sc (.int .i64 4))), none⟩,
        ⟨some 19, .bin .mul (.t 18) (.k (.sc (.int .i64 1))), none⟩,
        ⟨some 20, .bin .add (.t 16) (.t 19), none⟩,
        ⟨some 10, .mv (.t 20), none⟩] [0, 1, 8, 9, 10])
     (.seq (.reg [⟨some 21, .mv (.t 1), none⟩,
         ⟨some 22, .mv (.t 8), none⟩,
         ⟨some 23, .bin .quo (.t 22) (.k (.sc (.int .i64 4))), none⟩,
         ⟨some 24, .bin .mul (.t 23) (.k (.sc (.int .i64 2))), none⟩,
         ⟨some 25, .bin .add (.t 21) (.t 24), none⟩,
         ⟨some 11, .mv (.t 25), none⟩] [0, 1, 8, 9, 10, 11])
      (.seq (.reg [⟨some 26, .mv (.t 1), none⟩,
          ⟨some 27, .mv (.t 8), none⟩,
          ⟨some 28, .bin .quo (.t 27) (.k (.sc (.int .i64 4))), none⟩,
          ⟨some 29, .bin .mul (.t 28) (.k (.sc (.int .i64 3))), none⟩,
          ⟨some 30, .bin .add (.t 26) (.t 29), none⟩,
          ⟨some 12, .mv (.t 30), none⟩] [0, 8, 9, 10, 11, 12])
       (.seq (.seq (.reg [⟨some 31, .mv (.t 8), none⟩,
            ⟨some 32, .bin .geq (.t 31) (.k (.sc (.int .i64 8))), none⟩] [0, 8, 9, 10, 11, 12, 32])
         (.cond (.t 32)
           (.seq (.seq (.reg [⟨some 33, .mv (.t 8), none⟩,
                ⟨some 34, .bin .geq (.t 33) (.k (.sc (.int .i64 50))), none⟩] [0, 9, 10, 11, 12, 34])
             (.cond (.t 34)
               (.seq (.reg [⟨some 35, .mv (.t 0), none⟩,
                   ⟨some 36, .mv (.t 10), none⟩,
                   ⟨some 37, .call 129 [(.t 35), (.t 36), (.t 9)], none⟩,
                   ⟨some 10, .mv (.t 37), none⟩] [0, 9, 10, 11, 12])
                (.seq (.reg [⟨some 38, .mv (.t 0), none⟩,
                    ⟨some 39, .mv (.t 11), none⟩,
                    ⟨some 40, .call 129 [(.t 38), (.t 39), (.t 9)], none⟩,
                    ⟨some 11, .mv (.t 40), none⟩] [0, 9, 10, 11, 12])
                 (.reg [⟨some 41, .mv (.t 0), none⟩,
                    ⟨some 42, .mv (.t 12), none⟩,
                    ⟨some 43, .call 129 [(.t 41), (.t 42), (.t 9)], none⟩,
                    ⟨some 12, .mv (.t 43), none⟩] [0, 9, 10, 11, 12])))
               (.skip)))
            (.reg [⟨some 44, .mv (.t 0), none⟩,
               ⟨some 45, .mv (.t 10), none⟩,
               ⟨some 46, .mv (.t 11), none⟩,
               ⟨some 47, .mv (.t 12), none⟩,
               ⟨some 48, .call 130 [(.t 44), (.t 45), (.t 46), (.t 47), (.t 9)], none⟩,
               ⟨some 11, .mv (.t 48), none⟩] [9, 11]))
           (.skip)))
        (.seq (.reg [⟨some 49, .ld 1 false (.t 9), none⟩] [11, 49])
         (.block 0 (.seq (.reg [⟨some 52, .bin .eql (.t 49) (.k (.sc (.int .i64 0))), none⟩,
              ⟨some 51, .mv (.t 52), none⟩] [11, 49, 51])
           (.cond (.t 51)
             (.seq (.reg [⟨some 53, .mv (.t 11), none⟩,
                 ⟨some 6, .mv (.t 53), none⟩,
                 ⟨some 7, .mv (.k (.sc (.int .i64 1))), none⟩] [6, 7])
              (.ret))
             (.seq (.reg [⟨some 55, .bin .eql (.t 49) (.k (.sc (.int .i64 12))), none⟩,
                 ⟨some 54, .mv (.t 55), none⟩] [11, 54])
              (.cond (.t 54)
                (.seq (.reg [⟨some 56, .mv (.t 11), none⟩,
                    ⟨some 6, .mv (.t 56), none⟩,
                    ⟨some 7, .mv (.k (.sc (.int .i64 2))), none⟩] [6, 7])
                 (.ret))
                (.seq (.reg [⟨some 50, .mv (.t 11), none⟩,
                    ⟨some 6, .mv (.t 50), none⟩,
                    ⟨some 7, .mv (.k (.sc (.int .i64 0))), none⟩] [6, 7])
                 (.ret))))))))))))))
def a115 : AFun := ⟨3, b115, [.t 6, .t 7]⟩

def b116L0 : AC :=
  .seq (.seq (.reg [⟨some 11, .mv (.t 6), none⟩,
      ⟨some 12, .mv (.t 7), none⟩,
      ⟨some 13, .bin .lss (.t 11) (.t 12), none⟩] [0, 6, 7, 13])
   (.cond (.t 13)
     (.skip)
     (.exit 0)))
  (.block 1 (.seq (.regd [(⟨some 14, .mv (.t 0), none⟩, 0, false),
       (⟨some 15, .mv (.t 6), none⟩, 1, false),
       (⟨some 16, .mv (.t 0), none⟩, 2, false),
       (⟨some 17, .mv (.t 7), none⟩, 3, false),
       (⟨some 18, .mv (.t 0), none⟩, 4, false),
       (⟨some 19, .mv (.t 7), none⟩, 5, false),
       (⟨some 20, .idxA 1 (.t 18) (.t 19), none⟩, 6, false),
       (⟨some 21, .ld 1 false (.t 20), none⟩, 7, false),
       (⟨some 22, .mv (.t 0), none⟩, 8, false),
       (⟨some 23, .mv (.t 6), none⟩, 9, false),
       (⟨some 24, .idxA 1 (.t 22) (.t 23), none⟩, 10, false),
       (⟨some 25, .ld 1 false (.t 24), none⟩, 11, false),
       (⟨some 26, .idxA 1 (.t 14) (.t 15), none⟩, 12, false),
       (⟨none, .st 1 (.t 26) (.t 21), none⟩, 13, true),
       (⟨some 27, .idxA 1 (.t 16) (.t 17), none⟩, 14, false),
       (⟨none, .st 1 (.t 27) (.t 25), none⟩, 15, true)] [0, 6, 7])
    (.seq (.reg [⟨some 28, .mv (.t 6), none⟩,
        ⟨some 29, .bin .add (.t 28) (.k (.sc (.int .i64 1))), none⟩,
        ⟨some 6, .mv (.t 29), none⟩] [0, 6, 7])
     (.reg [⟨some 30, .mv (.t 7), none⟩,
        ⟨some 31, .bin .sub (.t 30) (.k (.sc (.int .i64 1))), none⟩,
        ⟨some 7, .mv (.t 31), none⟩] [0, 6, 7]))))
/-- slices.reverseRangeOrdered[int] -/
def b116 : AC :=
  .seq (.reg [⟨some 8, .mv (.t 1), none⟩,
     ⟨some 6, .mv (.t 8), none⟩] [0, 2, 6])
  (.seq (.reg [⟨some 9, .mv (.t 2), none⟩,
      ⟨some 10, .bin .sub (.t 9) (.k (.sc (.int .i64 1))), none⟩,
      ⟨some 7, .mv (.t 10), none⟩] [0, 6, 7])
   (.block 0 (.loop [0, 6, 7] b116L0)))
def a116 : AFun := ⟨3, b116, []⟩

def b117L1 : AC :=
  .seq (.seq (.regd [(⟨some 17, .mv (.t 7), none⟩, 0, false),
      (⟨some 18, .mv (.t 2), none⟩, 1, false),
      (⟨some 19, .bin .lss (.t 17) (.t 18), none⟩, 2, false),
      (⟨some 20, .mv (.t 19), none⟩, 3, false),
      (⟨some 21, .mv (.t 0), (some (20, true))⟩, 4, false),
      (⟨some 22, .mv (.t 7), (some (20, true))⟩, 5, false),
      (⟨some 23, .idxA 1 (.t 21) (.t 22), (some (20, true))⟩, 6, false),
      (⟨some 24, .ld 1 false (.t 23), (some (20, true))⟩, 7, false),
      (⟨some 25, .mv (.t 0), (some (20, true))⟩, 8, false),
      (⟨some 26, .mv (.t 7), (some (20, true))⟩, 9, false),
      (⟨some 27, .bin .sub (.t 26) (.k (.sc (.int .i64 1))), (some (20, true))⟩, 10, false),
      (⟨some 28, .idxA 1 (.t 25) (.t 27), (some (20, true))⟩, 11, false),
      (⟨some 29, .ld 1 false (.t 28), (some (20, true))⟩, 12, false),
      (⟨some 30, .call 118 [(.t 24), (.t 29)], (some (20, true))⟩, 13, true),
      (⟨some 31, .un .not (.t 30), (some (20, true))⟩, 14, false),
      (⟨some 32, .pick (.t 20) (.t 31) (.k (.sc (.bool false))), none⟩, 15, false)] [0, 1, 2, 7, 8, 32])
   (.cond (.t 32)
     (.skip)
     (.exit 2)))
  (.block 3 (.reg [⟨some 33, .mv (.t 7), none⟩,
      ⟨some 34, .bin .add (.t 33) (.k (.sc (.int .i64 1))), none⟩,
      ⟨some 7, .mv (.t 34), none⟩] [0, 1, 2, 7, 8]))
def b117L2 : AC :=
  .seq (.seq (.reg [⟨some 64, .mv (.t 9), none⟩,
      ⟨some 65, .bin .geq (.t 64) (.k (.sc (.int .i64 1))), none⟩] [0, 1, 2, 7, 8, 9, 65])
   (.cond (.t 65)
     (.skip)
     (.exit 4)))
  (.seq (.block 5 (.seq (.seq (.regd [(⟨some 68, .mv (.t 0), none⟩, 0, false),
         (⟨some 69, .mv (.t 9), none⟩, 1, false),
         (⟨some 70, .idxA 1 (.t 68) (.t 69), none⟩, 2, false),
         (⟨some 71, .ld 1 false (.t 70), none⟩, 3, false),
         (⟨some 72, .mv (.t 0), none⟩, 4, false),
         (⟨some 73, .mv (.t 9), none⟩, 5, false),
         (⟨some 74, .bin .sub (.t 73) (.k (.sc (.int .i64 1))), none⟩, 6, false),
         (⟨some 75, .idxA 1 (.t 72) (.t 74), none⟩, 7, false),
         (⟨some 76, .ld 1 false (.t 75), none⟩, 8, false),
         (⟨some 77, .call 118 [(.t 71), (.t 76)], none⟩, 9, true),
         (⟨some 78, .un .not (.t 77), none⟩, 10, false)] [0, 1, 2, 7, 8, 9, 78])
      (.cond (.t 78)
        (.exit 4)
        (.skip)))
     (.regd [(⟨some 79, .mv (.t 0), none⟩, 0, false),
        (⟨some 80, .mv (.t 9), none⟩, 1, false),
        (⟨some 81, .mv (.t 0), none⟩, 2, false),
        (⟨some 82, .mv (.t 9), none⟩, 3, false),
        (⟨some 83, .bin .sub (.t 82) (.k (.sc (.int .i64 1))), none⟩, 4, false),
        (⟨some 84, .mv (.t 0), none⟩, 5, false),
        (⟨some 85, .mv (.t 9), none⟩, 6, false),
        (⟨some 86, .bin .sub (.t 85) (.k (.sc (.int .i64 1))), none⟩, 7, false),
        (⟨some 87, .idxA 1 (.t 84) (.t 86), none⟩, 8, false),
        (⟨some 88, .ld 1 false (.t 87), none⟩, 9, false),
        (⟨some 89, .mv (.t 0), none⟩, 10, false),
        (⟨some 90, .mv (.t 9), none⟩, 11, false),
        (⟨some 91, .idxA 1 (.t 89) (.t 90), none⟩, 12, false),
        (⟨some 92, .ld 1 false (.t 91), none⟩, 13, false),
        (⟨some 93, .idxA 1 (.t 79) (.t 80), none⟩, 14, false),
        (⟨none, .st 1 (.t 93) (.t 88), none⟩, 15, true),
        (⟨some 94, .idxA 1 (.t 81) (.t 83), none⟩, 16, false),
        (⟨none, .st 1 (.t 94) (.t 92), none⟩, 17, true)] [0, 1, 2, 7, 8, 9])))
   (.reg [⟨some 66, .mv (.t 9), none⟩,
      ⟨some 67, .bin .sub (.t 66) (.k (.sc (.int .i64 1))), none⟩,
      ⟨some 9, .mv (.t 67), none⟩] [0, 1, 2, 7, 8, 9]))
def b117L3 : AC :=
  .seq (.seq (.reg [⟨some 101, .mv (.t 10), none⟩,
      ⟨some 102, .mv (.t 2), none⟩,
      ⟨some 103, .bin .lss (.t 101) (.t 102), none⟩] [0, 1, 2, 7, 8, 10, 103])
   (.cond (.t 103)
     (.skip)
     (.exit 6)))
  (.seq (.block 7 (.seq (.seq (.regd [(⟨some 106, .mv (.t 0), none⟩, 0, false),
         (⟨some 107, .mv (.t 10), none⟩, 1, false),
         (⟨some 108, .idxA 1 (.t 106) (.t 107), none⟩, 2, false),
         (⟨some 109, .ld 1 false (.t 108), none⟩, 3, false),
         (⟨some 110, .mv (.t 0), none⟩, 4, false),
         (⟨some 111, .mv (.t 10), none⟩, 5, false),
         (⟨some 112, .bin .sub (.t 111) (.k (.sc (.int .i64 1))), none⟩, 6, false),
         (⟨some 113, .idxA 1 (.t 110) (.t 112), none⟩, 7, false),
         (⟨some 114, .ld 1 false (.t 113), none⟩, 8, false),
         (⟨some 115, .call 118 [(.t 109), (.t 114)], none⟩, 9, true),
         (⟨some 116, .un .not (.t 115), none⟩, 10, false)] [0, 1, 2, 7, 8, 10, 116])
      (.cond (.t 116)
        (.exit 6)
        (.skip)))
     (.regd [(⟨some 117, .mv (.t 0), none⟩, 0, false),
        (⟨some 118, .mv (.t 10), none⟩, 1, false),
        (⟨some 119, .mv (.t 0), none⟩, 2, false),
        (⟨some 120, .mv (.t 10), none⟩, 3, false),
        (⟨some 121, .bin .sub (.t 120) (.k (.sc (.int .i64 1))), none⟩, 4, false),
        (⟨some 122, .mv (.t 0), none⟩, 5, false),
        (⟨some 123, .mv (.t 10), none⟩, 6, false),
        (⟨some 124, .bin .sub (.t 123) (.k (.sc (.int .i64 1))), none⟩, 7, false),
        (⟨some 125, .idxA 1 (.t 122) (.t 124), none⟩, 8, false),
        (⟨some 126, .ld 1 false (.t 125), none⟩, 9, false),
        (⟨some 127, .mv (.t 0), none⟩, 10, false),
        (⟨some 128, .mv (.t 10), none⟩, 11, false),
        (⟨some 129, .idxA 1 (.t 127) (.t 128), none⟩, 12, false),
        (⟨some 130, .ld 1 false (.t 129), none⟩, 13, false),
        (⟨some 131, .idxA 1 (.t 117) (.t 118), none⟩, 14, false),
        (⟨none, .st 1 (.t 131) (.t 126), none⟩, 15, true),
        (⟨some 132, .idxA 1 (.t 119) (.t 121), none⟩, 16, false),
        (⟨none, .st 1 (.t 132) (.t 130), none⟩, 17, true)] [0, 1, 2, 7, 8, 10])))
   (.reg [⟨some 104, .mv (.t 10), none⟩,
      ⟨some 105, .bin .add (.t 104) (.k (.sc (.int .i64 1))), none⟩,
      ⟨some 10, .mv (.t 105), none⟩] [0, 1, 2, 7, 8, 10]))
def b117L0 : AC :=
  .seq (.seq (.reg [⟨some 13, .mv (.t 8), none⟩,
      ⟨some 14, .bin .lss (.t 13) (.k (.sc (.int .i64 5))), none⟩] [0, 1, 2, 7, 8, 14])
   (.cond (.t 14)
     (.skip)
     (.exit 0)))
  (.seq (.block 1 (.seq (.block 2 (.loop [0, 1, 2, 7, 8] b117L1))
     (.seq (.seq (.reg [⟨some 35, .mv (.t 7), none⟩,
          ⟨some 36, .mv (.t 2), none⟩,
          ⟨some 37, .bin .eql (.t 35) (.t 36), none⟩] [0, 1, 2, 7, 8, 37])
       (.cond (.t 37)
         (.seq (.reg [⟨some 6, .mv (.k (.sc (.bool true))), none⟩] [6])
          (.ret))
         (.skip)))
      (.seq (.seq (.reg [⟨some 38, .mv (.t 2), none⟩,
           ⟨some 39, .mv (.t 1), none⟩,
           ⟨some 40, .bin .sub (.t 38) (.t 39), none⟩,
           ⟨some 41, .bin .lss (.t 40) (.k (.sc (.int .i64 50))), none⟩] [0, 1, 2, 7, 8, 41])
        (.cond (.t 41)
          (.seq (.reg [⟨some 6, .mv (.k (.sc (.bool false))), none⟩] [6])
           (.ret))
          (.skip)))
       (.seq (.regd [(⟨some 42, .mv (.t 0), none⟩, 0, false),
           (⟨some 43, .mv (.t 7), none⟩, 1, false),
           (⟨some 44, .mv (.t 0), none⟩, 2, false),
           (⟨some 45, .mv (.t 7), none⟩, 3, false),
           (⟨some 46, .bin .sub (.t 45) (.k (.sc (.int .i64 1))), none⟩, 4, false),
           (⟨some 47, .mv (.t 0), none⟩, 5, false),
           (⟨some 48, .mv (.t 7), none⟩, 6, false),
           (⟨some 49, .bin .sub (.t 48) (.k (.sc (.int .i64 1))), none⟩, 7, false),
           (⟨some 50, .idxA 1 (.t 47) (.t 49), none⟩, 8, false),
           (⟨some 51, .ld 1 false (.t 50), none⟩, 9, false),
           (⟨some 52, .mv (.t 0), none⟩, 10, false),
           (⟨some 53, .mv (.t 7), none⟩, 11, false),
           (⟨some 54, .idxA 1 (.t 52) (.t 53), none⟩, 12, false),
           (⟨some 55, .ld 1 false (.t 54), none⟩, 13, false),
           (⟨some 56, .idxA 1 (.t 42) (.t 43), none⟩, 14, false),
           (⟨none, .st 1 (.t 56) (.t 51), none⟩, 15, true),
           (⟨some 57, .idxA 1 (.t 44) (.t 46), none⟩, 16, false),
           (⟨none, .st 1 (.t 57) (.t 55), none⟩, 17, true)] [0, 1, 2, 7, 8])
        (.seq (.seq (.reg [⟨some 58, .mv (.t 7), none⟩,
             ⟨some 59, .mv (.t 1), none⟩,
             ⟨some 60, .bin .sub (.t 58) (.t 59), none⟩,
             ⟨some 61, .bin .geq (.t 60) (.k (.sc (.int .i64 2))), none⟩] [0, 1, 2, 7, 8, 61])
          (.cond (.t 61)
            (.seq (.reg [⟨some 62, .mv (.t 7), none⟩,
                ⟨some 63, .bin .sub (.t 62) (.k (.sc (.int .i64 1))), none⟩,
                ⟨some 9, .mv (.t 63), none⟩] [0, 1, 2, 7, 8, 9])
             (.block 4 (.loop [0, 1, 2, 7, 8, 9] b117L2)))
            (.skip)))
         (.seq (.reg [⟨some 95, .mv (.t 2), none⟩,
             ⟨some 96, .mv (.t 7), none⟩,
             ⟨some 97, .bin .sub (.t 95) (.t 96), none⟩,
             ⟨some 98, .bin .geq (.t 97) (.k (.sc (.int .i64 2))), none⟩] [0, 1, 2, 7, 8, 98])
          (.cond (.t 98)
            (.seq (.reg [⟨some 99, .mv (.t 7), none⟩,
                ⟨some 100, .bin .add (.t 99) (.k (.sc (.int .i64 1))), none⟩,
                ⟨some 10, .mv (.t 100), none⟩] [0, 1, 2, 7, 8, 10])
             (.block 6 (.loop [0, 1, 2, 7, 8, 10] b117L3)))
            (.skip)))))))))
   (.reg [⟨some 15, .mv (.t 8), none⟩,
      ⟨some 16, .bin .add (.t 15) (.k (.sc (.int .i64 1))), none⟩,
      ⟨some 8, .mv (.t 16), none⟩] [0, 1, 2, 7, 8]))
/-- slices.partialInsertionSortOrdered[int] -/
def b117 : AC :=
  .seq (.reg [⟨some 6, .mv (.k (.sc (.bool false))), none⟩] [0, 1, 2])
  (.seq (.reg [⟨some 11, .mv (.t 1), none⟩,
      ⟨some 12, .bin .add (.t 11) (.k (.sc (.int .i64 1))), none⟩,
      ⟨some 7, .mv (.t 12), none⟩] [0, 1, 2, 7])
   (.seq (.seq (.reg [⟨some 8, .mv (.k (.sc (.int .i64 0))), none⟩] [0, 1, 2, 7, 8])
     (.block 0 (.loop [0, 1, 2, 7, 8] b117L0)))
    (.seq (.reg [⟨some 6, .mv (.k (.sc (.bool false))), none⟩] [6])
     (.ret))))
def a117 : AFun := ⟨3, b117, [.t 6]⟩

/-- cmp.Less[int] -/
def b118 : AC :=
  .seq (.reg [⟨some 4, .mv (.k (.sc (.bool false))), none⟩] [0, 1])
  (.seq (.reg [⟨some 5, .mv (.t 0), none⟩,
      ⟨some 6, .call 84 [(.t 5)], none⟩,
      ⟨some 7, .mv (.t 6), none⟩,
      ⟨some 8, .mv (.t 1), (some (7, true))⟩,
      ⟨some 9, .call 84 [(.t 8)], (some (7, true))⟩,
      ⟨some 10, .un .not (.t 9), (some (7, true))⟩,
      ⟨some 11, .pick (.t 7) (.t 10) (.k (.sc (.bool false))), none⟩,
      ⟨some 12, .mv (.t 11), none⟩,
      ⟨some 13, .mv (.t 0), (some (12, false))⟩,
      ⟨some 14, .mv (.t 1), (some (12, false))⟩,
      ⟨some 15, .bin .lss (.t 13) (.t 14), (some (12, false))⟩,
      ⟨some 16, .pick (.t 12) (.k (.sc (.bool true))) (.t 15), none⟩,
      ⟨some 4, .mv (.t 16), none⟩] [4])
   (.ret))
def a118 : AFun := ⟨2, b118, [.t 4]⟩

def b119L1 : AC :=
  .seq (.seq (.regd [(⟨some 29, .mv (.t 9), none⟩, 0, false),
      (⟨some 30, .mv (.t 10), none⟩, 1, false),
      (⟨some 31, .bin .leq (.t 29) (.t 30), none⟩, 2, false),
      (⟨some 32, .mv (.t 31), none⟩, 3, false),
      (⟨some 33, .mv (.t 0), (some (32, true))⟩, 4, false),
      (⟨some 34, .mv (.t 1), (some (32, true))⟩, 5, false),
      (⟨some 35, .idxA 1 (.t 33) (.t 34), (some (32, true))⟩, 6, false),
      (⟨some 36, .ld 1 false (.t 35), (some (32, true))⟩, 7, false),
      (⟨some 37, .mv (.t 0), (some (32, true))⟩, 8, false),
      (⟨some 38, .mv (.t 9), (some (32, true))⟩, 9, false),
      (⟨some 39, .idxA 1 (.t 37) (.t 38), (some (32, true))⟩, 10, false),
      (⟨some 40, .ld 1 false (.t 39), (some (32, true))⟩, 11, false),
      (⟨some 41, .call 118 [(.t 36), (.t 40)], (some (32, true))⟩, 12, true),
      (⟨some 42, .un .not (.t 41), (some (32, true))⟩, 13, false),
      (⟨some 43, .pick (.t 32) (.t 42) (.k (.sc (.bool false))), none⟩, 14, false)] [0, 1, 9, 10, 43])
   (.cond (.t 43)
     (.skip)
     (.exit 2)))
  (.block 3 (.reg [⟨some 44, .mv (.t 9), none⟩,
      ⟨some 45, .bin .add (.t 44) (.k (.sc (.int .i64 1))), none⟩,
      ⟨some 9, .mv (.t 45), none⟩] [0, 1, 9, 10]))
def b119L2 : AC :=
  .seq (.seq (.regd [(⟨some 46, .mv (.t 9), none⟩, 0, false),
      (⟨some 47, .mv (.t 10), none⟩, 1, false),
      (⟨some 48, .bin .leq (.t 46) (.t 47), none⟩, 2, false),
      (⟨some 49, .mv (.t 48), none⟩, 3, false),
      (⟨some 50, .mv (.t 0), (some (49, true))⟩, 4, false),
      (⟨some 51, .mv (.t 1), (some (49, true))⟩, 5, false),
      (⟨some 52, .idxA 1 (.t 50) (.t 51), (some (49, true))⟩, 6, false),
      (⟨some 53, .ld 1 false (.t 52), (some (49, true))⟩, 7, false),
      (⟨some 54, .mv (.t 0), (some (49, true))⟩, 8, false),
      (⟨some 55, .mv (.t 10), (some (49, true))⟩, 9, false),
      (⟨some 56, .idxA 1 (.t 54) (.t 55), (some (49, true))⟩, 10, false),
      (⟨some 57, .ld 1 false (.t 56), (some (49, true))⟩, 11, false),
      (⟨some 58, .call 118 [(.t 53), (.t 57)], (some (49, true))⟩, 12, true),
      (⟨some 59, .pick (.t 49) (.t 58) (.k (.sc (.bool false))), none⟩, 13, false)] [0, 1, 9, 10, 59])
   (.cond (.t 59)
     (.skip)
     (.exit 4)))
  (.block 5 (.reg [⟨some 60, .mv (.t 10), none⟩,
      ⟨some 61, .bin .sub (.t 60) (.k (.sc (.int .i64 1))), none⟩,
      ⟨some 10, .mv (.t 61), none⟩] [0, 1, 9, 10]))
def b119L0 : AC :=
  .block 1 (.seq (.block 2 (.loop [0, 1, 9, 10] b119L1))
   (.seq (.block 4 (.loop [0, 1, 9, 10] b119L2))
    (.seq (.seq (.reg [⟨some 62, .mv (.t 9), none⟩,
         ⟨some 63, .mv (.t 10), none⟩,
         ⟨some 64, .bin .gtr (.t 62) (.t 63), none⟩] [0, 1, 9, 10, 64])
      (.cond (.t 64)
        (.exit 0)
        (.skip)))
     (.seq (.regd [(⟨some 65, .mv (.t 0), none⟩, 0, false),
         (⟨some 66, .mv (.t 9), none⟩, 1, false),
         (⟨some 67, .mv (.t 0), none⟩, 2, false),
         (⟨some 68, .mv (.t 10), none⟩, 3, false),
         (⟨some 69, .mv (.t 0), none⟩, 4, false),
         (⟨some 70, .mv (.t 10), none⟩, 5, false),
         (⟨some 71, .idxA 1 (.t 69) (.t 70), none⟩, 6, false),
         (⟨some 72, .ld 1 false (.t 71), none⟩, 7, false),
         (⟨some 73, .mv (.t 0), none⟩, 8, false),
         (⟨some 74, .mv (.t 9), none⟩, 9, false),
         (⟨some 75, .idxA 1 (.t 73) (.t 74), none⟩, 10, false),
         (⟨some 76, .ld 1 false (.t 75), none⟩, 11, false),
         (⟨some 77, .idxA 1 (.t 65) (.t 66), none⟩, 12, false),
         (⟨none, .st 1 (.t 77) (.t 72), none⟩, 13, true),
         (⟨some 78, .idxA 1 (.t 67) (.t 68), none⟩, 14, false),
         (⟨none, .st 1 (.t 78) (.t 76), none⟩, 15, true)] [0, 1, 9, 10])
      (.seq (.reg [⟨some 79, .mv (.t 9), none⟩,
          ⟨some 80, .bin .add (.t 79) (.k (.sc (.int .i64 1))), none⟩,
          ⟨some 9, .mv (.t 80), none⟩] [0, 1, 9, 10])
       (.reg [⟨some 81, .mv (.t 10), none⟩,
          ⟨some 82, .bin .sub (.t 81) (.k (.sc (.int .i64 1))), none⟩,
          ⟨some 10, .mv (.t 82), none⟩] [0, 1, 9, 10]))))))
/-- slices.partitionEqualOrdered[int] -/
def b119 : AC :=
  .seq (.reg [⟨some 8, .mv (.k (.sc (.int .i64 0))), none⟩] [0, 1, 2, 3])
  (.seq (.regd [(⟨some 11, .mv (.t 0), none⟩, 0, false),
      (⟨some 12, .mv (.t 1), none⟩, 1, false),
      (⟨some 13, .mv (.t 0), none⟩, 2, false),
      (⟨some 14, .mv (.t 3), none⟩, 3, false),
      (⟨some 15, .mv (.t 0), none⟩, 4, false),
      (⟨some 16, .mv (.t 3), none⟩, 5, false),
      (⟨some 17, .idxA 1 (.t 15) (.t 16), none⟩, 6, false),
      (⟨some 18, .ld 1 false (.t 17), none⟩, 7, false),
      (⟨some 19, .mv (.t 0), none⟩, 8, false),
      (⟨some 20, .mv (.t 1), none⟩, 9, false),
      (⟨some 21, .idxA 1 (.t 19) (.t 20), none⟩, 10, false),
      (⟨some 22, .ld 1 false (.t 21), none⟩, 11, false),
      (⟨some 23, .idxA 1 (.t 11) (.t 12), none⟩, 12, false),
      (⟨none, .st 1 (.t 23) (.t 18), none⟩, 13, true),
      (⟨some 24, .idxA 1 (.t 13) (.t 14), none⟩, 14, false),
      (⟨none, .st 1 (.t 24) (.t 22), none⟩, 15, true)] [0, 1, 2])
   (.seq (.reg [⟨some 25, .mv (.t 1), none⟩,
       ⟨some 26, .bin .add (.t 25) (.k (.sc (.int .i64 1))), none⟩,
       ⟨some 27, .mv (.t 2), none⟩,
       ⟨some 28, .bin .sub (.t 27) (.k (.sc (.int .i64 1))), none⟩,
       ⟨some 9, .mv (.t 26), none⟩,
       ⟨some 10, .mv (.t 28), none⟩] [0, 1, 9, 10])
    (.seq (.block 0 (.loop [0, 1, 9, 10] b119L0))
     (.seq (.reg [⟨some 83, .mv (.t 9), none⟩,
         ⟨some 8, .mv (.t 83), none⟩] [8])
      (.ret)))))
def a119 : AFun := ⟨4, b119, [.t 8]⟩

def b120L0 : AC :=
  .seq (.seq (.regd [(⟨some 30, .mv (.t 10), none⟩, 0, false),
      (⟨some 31, .mv (.t 11), none⟩, 1, false),
      (⟨some 32, .bin .leq (.t 30) (.t 31), none⟩, 2, false),
      (⟨some 33, .mv (.t 32), none⟩, 3, false),
      (⟨some 34, .mv (.t 0), (some (33, true))⟩, 4, false),
      (⟨some 35, .mv (.t 10), (some (33, true))⟩, 5, false),
      (⟨some 36, .idxA 1 (.t 34) (.t 35), (some (33, true))⟩, 6, false),
      (⟨some 37, .ld 1 false (.t 36), (some (33, true))⟩, 7, false),
      (⟨some 38, .mv (.t 0), (some (33, true))⟩, 8, false),
      (⟨some 39, .mv (.t 1), (some (33, true))⟩, 9, false),
      (⟨some 40, .idxA 1 (.t 38) (.t 39), (some (33, true))⟩, 10, false),
      (⟨some 41, .ld 1 false (.t 40), (some (33, true))⟩, 11, false),
      (⟨some 42, .call 118 [(.t 37), (.t 41)], (some (33, true))⟩, 12, true),
      (⟨some 43, .pick (.t 33) (.t 42) (.k (.sc (.bool false))), none⟩, 13, false)] [0, 1, 10, 11, 43])
   (.cond (.t 43)
     (.skip)
     (.exit 0)))
  (.block 1 (.reg [⟨some 44, .mv (.t 10), none⟩,
      ⟨some 45, .bin .add (.t 44) (.k (.sc (.int .i64 1))), none⟩,
      ⟨some 10, .mv (.t 45), none⟩] [0, 1, 10, 11]))
def b120L1 : AC :=
  .seq (.seq (.regd [(⟨some 46, .mv (.t 10), none⟩, 0, false),
      (⟨some 47, .mv (.t 11), none⟩, 1, false),
      (⟨some 48, .bin .leq (.t 46) (.t 47), none⟩, 2, false),
      (⟨some 49, .mv (.t 48), none⟩, 3, false),
      (⟨some 50, .mv (.t 0), (some (49, true))⟩, 4, false),
      (⟨some 51, .mv (.t 11), (some (49, true))⟩, 5, false),
      (⟨some 52, .idxA 1 (.t 50) (.t 51), (some (49, true))⟩, 6, false),
      (⟨some 53, .ld 1 false (.t 52), (some (49, true))⟩, 7, false),
      (⟨some 54, .mv (.t 0), (some (49, true))⟩, 8, false),
      (⟨some 55, .mv (.t 1), (some (49, true))⟩, 9, false),
      (⟨some 56, .idxA 1 (.t 54) (.t 55), (some (49, true))⟩, 10, false),
      (⟨some 57, .ld 1 false (.t 56), (some (49, true))⟩, 11, false),
      (⟨some 58, .call 118 [(.t 53), (.t 57)], (some (49, true))⟩, 12, true),
      (⟨some 59, .un .not (.t 58), (some (49, true))⟩, 13, false),
      (⟨some 60, .pick (.t 49) (.t 59) (.k (.sc (.bool false))), none⟩, 14, false)] [0, 1, 10, 11, 60])
   (.cond (.t 60)
     (.skip)
     (.exit 2)))
  (.block 3 (.reg [⟨some 61, .mv (.t 11), none⟩,
      ⟨some 62, .bin .sub (.t 61) (.k (.sc (.int .i64 1))), none⟩,
      ⟨some 11, .mv (.t 62), none⟩] [0, 1, 10, 11]))
def b120L3 : AC :=
  .seq (.seq (.regd [(⟨some 99, .mv (.t 10), none⟩, 0, false),
      (⟨some 100, .mv (.t 11), none⟩, 1, false),
      (⟨some 101, .bin .leq (.t 99) (.t 100), none⟩, 2, false),
      (⟨some 102, .mv (.t 101), none⟩, 3, false),
      (⟨some 103, .mv (.t 0), (some (102, true))⟩, 4, false),
      (⟨some 104, .mv (.t 10), (some (102, true))⟩, 5, false),
      (⟨some 105, .idxA 1 (.t 103) (.t 104), (some (102, true))⟩, 6, false),
      (⟨some 106, .ld 1 false (.t 105), (some (102, true))⟩, 7, false),
      (⟨some 107, .mv (.t 0), (some (102, true))⟩, 8, false),
      (⟨some 108, .mv (.t 1), (some (102, true))⟩, 9, false),
      (⟨some 109, .idxA 1 (.t 107) (.t 108), (some (102, true))⟩, 10, false),
      (⟨some 110, .ld 1 false (.t 109), (some (102, true))⟩, 11, false),
      (⟨some 111, .call 118 [(.t 106), (.t 110)], (some (102, true))⟩, 12, true),
      (⟨some 112, .pick (.t 102) (.t 111) (.k (.sc (.bool false))), none⟩, 13, false)] [0, 1, 10, 11, 112])
   (.cond (.t 112)
     (.skip)
     (.exit 6)))
  (.block 7 (.reg [⟨some 113, .mv (.t 10), none⟩,
      ⟨some 114, .bin .add (.t 113) (.k (.sc (.int .i64 1))), none⟩,
      ⟨some 10, .mv (.t 114), none⟩] [0, 1, 10, 11]))
def b120L4 : AC :=
  .seq (.seq (.regd [(⟨some 115, .mv (.t 10), none⟩, 0, false),
      (⟨some 116, .mv (.t 11), none⟩, 1, false),
      (⟨some 117, .bin .leq (.t 115) (.t 116), none⟩, 2, false),
      (⟨some 118, .mv (.t 117), none⟩, 3, false),
      (⟨some 119, .mv (.t 0), (some (118, true))⟩, 4, false),
      (⟨some 120, .mv (.t 11), (some (118, true))⟩, 5, false),
      (⟨some 121, .idxA 1 (.t 119) (.t 120), (some (118, true))⟩, 6, false),
      (⟨some 122, .ld 1 false (.t 121), (some (118, true))⟩, 7, false),
      (⟨some 123, .mv (.t 0), (some (118, true))⟩, 8, false),
      (⟨some 124, .mv (.t 1), (some (118, true))⟩, 9, false),
      (⟨some 125, .idxA 1 (.t 123) (.t 124), (some (118, true))⟩, 10, false),
      (⟨some 126, .ld 1 false (.t 125), (some (118, true))⟩, 11, false),
      (⟨some 127, .call 118 [(.t 122), (.t 126)], (some (118, true))⟩, 12, true),
      (⟨some 128, .un .not (.t 127), (some (118, true))⟩, 13, false),
      (⟨some 129, .pick (.t 118) (.t 128) (.k (.sc (.bool false))), none⟩, 14, false)] [0, 1, 10, 11, 129])
   (.cond (.t 129)
     (.skip)
     (.exit 8)))
  (.block 9 (.reg [⟨some 130, .mv (.t 11), none⟩,
      ⟨some 131, .bin .sub (.t 130) (.k (.sc (.int .i64 1))), none⟩,
      ⟨some 11, .mv (.t 131), none⟩] [0, 1, 10, 11]))
def b120L2 : AC :=
  .block 5 (.seq (.block 6 (.loop [0, 1, 10, 11] b120L3))
   (.seq (.block 8 (.loop [0, 1, 10, 11] b120L4))
    (.seq (.seq (.reg [⟨some 132, .mv (.t 10), none⟩,
         ⟨some 133, .mv (.t 11), none⟩,
         ⟨some 134, .bin .gtr (.t 132) (.t 133), none⟩] [0, 1, 10, 11, 134])
      (.cond (.t 134)
        (.exit 4)
        (.skip)))
     (.seq (.regd [(⟨some 135, .mv (.t 0), none⟩, 0, false),
         (⟨some 136, .mv (.t 10), none⟩, 1, false),
         (⟨some 137, .mv (.t 0), none⟩, 2, false),
         (⟨some 138, .mv (.t 11), none⟩, 3, false),
         (⟨some 139, .mv (.t 0), none⟩, 4, false),
         (⟨some 140, .mv (.t 11), none⟩, 5, false),
         (⟨some 141, .idxA 1 (.t 139) (.t 140), none⟩, 6, false),
         (⟨some 142, .ld 1 false (.t 141), none⟩, 7, false),
         (⟨some 143, .mv (.t 0), none⟩, 8, false),
         (⟨some 144, .mv (.t 10), none⟩, 9, false),
         (⟨some 145, .idxA 1 (.t 143) (.t 144), none⟩, 10, false),
         (⟨some 146, .ld 1 false (.t 145), none⟩, 11, false),
         (⟨some 147, .idxA 1 (.t 135) (.t 136), none⟩, 12, false),
         (⟨none, .st 1 (.t 147) (.t 142), none⟩, 13, true),
         (⟨some 148, .idxA 1 (.t 137) (.t 138), none⟩, 14, false),
         (⟨none, .st 1 (.t 148) (.t 146), none⟩, 15, true)] [0, 1, 10, 11])
      (.seq (.reg [⟨some 149, .mv (.t 10), none⟩,
          ⟨some 150, .bin .add (.t 149) (.k (.sc (.int .i64 1))), none⟩,
          ⟨some 10, .mv (.t 150), none⟩] [0, 1, 10, 11])
       (.reg [⟨some 151, .mv (.t 11), none⟩,
          ⟨some 152, .bin .sub (.t 151) (.k (.sc (.int .i64 1))), none⟩,
          ⟨some 11, .mv (.t 152), none⟩] [0, 1, 10, 11]))))))
/-- slices.partitionOrdered[int] -/
def b120 : AC :=
  .seq (.reg [⟨some 8, .mv (.k (.sc (.int .i64 0))), none⟩,
     ⟨some 9, .mv (.k (.sc (.bool false))), none⟩] [0, 1, 2, 3])
  (.seq (.regd [(⟨some 12, .mv (.t 0), none⟩, 0, false),
      (⟨some 13, .mv (.t 1), none⟩, 1, false),
      (⟨some 14, .mv (.t 0), none⟩, 2, false),
      (⟨some 15, .mv (.t 3), none⟩, 3, false),
      (⟨some 16, .mv (.t 0), none⟩, 4, false),
      (⟨some 17, .mv (.t 3), none⟩, 5, false),
      (⟨some 18, .idxA 1 (.t 16) (.t 17), none⟩, 6, false),
      (⟨some 19, .ld 1 false (.t 18), none⟩, 7, false),
      (⟨some 20, .mv (.t 0), none⟩, 8, false),
      (⟨some 21, .mv (.t 1), none⟩, 9, false),
      (⟨some 22, .idxA 1 (.t 20) (.t 21), none⟩, 10, false),
      (⟨some 23, .ld 1 false (.t 22), none⟩, 11, false),
      (⟨some 24, .idxA 1 (.t 12) (.t 13), none⟩, 12, false),
      (⟨none, .st 1 (.t 24) (.t 19), none⟩, 13, true),
      (⟨some 25, .idxA 1 (.t 14) (.t 15), none⟩, 14, false),
      (⟨none, .st 1 (.t 25) (.t 23), none⟩, 15, true)] [0, 1, 2])
   (.seq (.reg [⟨some 26, .mv (.t 1), none⟩,
       ⟨some 27, .bin .add (.t 26) (.k (.sc (.int .i64 1))), none⟩,
       ⟨some 28, .mv (.t 2), none⟩,
       ⟨some 29, .bin .sub (.t 28) (.k (.sc (.int .i64 1))), none⟩,
       ⟨some 10, .mv (.t 27), none⟩,
       ⟨some 11, .mv (.t 29), none⟩] [0, 1, 10, 11])
    (.seq (.block 0 (.loop [0, 1, 10, 11] b120L0))
     (.seq (.block 2 (.loop [0, 1, 10, 11] b120L1))
      (.seq (.seq (.reg [⟨some 63, .mv (.t 10), none⟩,
           ⟨some 64, .mv (.t 11), none⟩,
           ⟨some 65, .bin .gtr (.t 63) (.t 64), none⟩] [0, 1, 10, 11, 65])
        (.cond (.t 65)
          (.seq (.regd [(⟨some 66, .mv (.t 0), none⟩, 0, false),
              (⟨some 67, .mv (.t 11), none⟩, 1, false),
              (⟨some 68, .mv (.t 0), none⟩, 2, false),
              (⟨some 69, .mv (.t 1), none⟩, 3, false),
              (⟨some 70, .mv (.t 0), none⟩, 4, false),
              (⟨some 71, .mv (.t 1), none⟩, 5, false),
              (⟨some 72, .idxA 1 (.t 70) (.t 71), none⟩, 6, false),
              (⟨some 73, .ld 1 false (.t 72), none⟩, 7, false),
              (⟨some 74, .mv (.t 0), none⟩, 8, false),
              (⟨some 75, .mv (.t 11), none⟩, 9, false),
              (⟨some 76, .idxA 1 (.t 74) (.t 75), none⟩, 10, false),
              (⟨some 77, .ld 1 false (.t 76), none⟩, 11, false),
              (⟨some 78, .idxA 1 (.t 66) (.t 67), none⟩, 12, false),
              (⟨none, .st 1 (.t 78) (.t 73), none⟩, 13, true),
              (⟨some 79, .idxA 1 (.t 68) (.t 69), none⟩, 14, false),
              (⟨none, .st 1 (.t 79) (.t 77), none⟩, 15, true)] [11])
           (.seq (.reg [⟨some 80, .mv (.t 11), none⟩,
               ⟨some 8, .mv (.t 80), none⟩,
               ⟨some 9, .mv (.k (.sc (.bool true))), none⟩] [8, 9])
            (.ret)))
          (.skip)))
       (.seq (.regd [(⟨some 81, .mv (.t 0), none⟩, 0, false),
           (⟨some 82, .mv (.t 10), none⟩, 1, false),
           (⟨some 83, .mv (.t 0), none⟩, 2, false),
           (⟨some 84, .mv (.t 11), none⟩, 3, false),
           (⟨some 85, .mv (.t 0), none⟩, 4, false),
           (⟨some 86, .mv (.t 11), none⟩, 5, false),
           (⟨some 87, .idxA 1 (.t 85) (.t 86), none⟩, 6, false),
           (⟨some 88, .ld 1 false (.t 87), none⟩, 7, false),
           (⟨some 89, .mv (.t 0), none⟩, 8, false),
           (⟨some 90, .mv (.t 10), none⟩, 9, false),
           (⟨some 91, .idxA 1 (.t 89) (.t 90), none⟩, 10, false),
           (⟨some 92, .ld 1 false (.t 91), none⟩, 11, false),
           (⟨some 93, .idxA 1 (.t 81) (.t 82), none⟩, 12, false),
           (⟨none, .st 1 (.t 93) (.t 88), none⟩, 13, true),
           (⟨some 94, .idxA 1 (.t 83) (.t 84), none⟩, 14, false),
           (⟨none, .st 1 (.t 94) (.t 92), none⟩, 15, true)] [0, 1, 10, 11])
        (.seq (.reg [⟨some 95, .mv (.t 10), none⟩,
            ⟨some 96, .bin .add (.t 95) (.k (.sc (.int .i64 1))), none⟩,
            ⟨some 10, .mv (.t 96), none⟩] [0, 1, 10, 11])
         (.seq (.reg [⟨some 97, .mv (.t 11), none⟩,
             ⟨some 98, .bin .sub (.t 97) (.k (.sc (.int .i64 1))), none⟩,
             ⟨some 11, .mv (.t 98), none⟩] [0, 1, 10, 11])
          (.seq (.block 4 (.loop [0, 1, 10, 11] b120L2))
           (.seq (.regd [(⟨some 153, .mv (.t 0), none⟩, 0, false),
               (⟨some 154, .mv (.t 11), none⟩, 1, false),
               (⟨some 155, .mv (.t 0), none⟩, 2, false),
               (⟨some 156, .mv (.t 1), none⟩, 3, false),
               (⟨some 157, .mv (.t 0), none⟩, 4, false),
               (⟨some 158, .mv (.t 1), none⟩, 5, false),
               (⟨some 159, .idxA 1 (.t 157) (.t 158), none⟩, 6, false),
               (⟨some 160, .ld 1 false (.t 159), none⟩, 7, false),
               (⟨some 161, .mv (.t 0), none⟩, 8, false),
               (⟨some 162, .mv (.t 11), none⟩, 9, false),
               (⟨some 163, .idxA 1 (.t 161) (.t 162), none⟩, 10, false),
               (⟨some 164, .ld 1 false (.t 163), none⟩, 11, false),
               (⟨some 165, .idxA 1 (.t 153) (.t 154), none⟩, 12, false),
               (⟨none, .st 1 (.t 165) (.t 160), none⟩, 13, true),
               (⟨some 166, .idxA 1 (.t 155) (.t 156), none⟩, 14, false),
               (⟨none, .st 1 (.t 166) (.t 164), none⟩, 15, true)] [11])
            (.seq (.reg [⟨some 167, .mv (.t 11), none⟩,
                ⟨some 8, .mv (.t 167), none⟩,
                ⟨some 9, .mv (.k (.sc (.bool false))), none⟩] [8, 9])
             (.ret))))))))))))
def a120 : AFun := ⟨4, b120, [.t 8, .t 9]⟩

/-- math/bits.Len32 -/
def b121 : AC :=
  .seq (.reg [⟨some 2, .mv (.k (.sc (.int .i64 0))), none⟩] [0, 2])
  (.seq (.seq (.reg [⟨some 3, .mv (.t 0), none⟩,
       ⟨some 4, .bin .geq (.t 3) (.k (.sc (.int .u32 65536))), none⟩] [0, 2, 4])
    (.cond (.t 4)
      (.seq (.reg [⟨some 5, .mv (.t 0), none⟩,
          ⟨some 6, .bin .shr (.t 5) (.k (.sc (.int .u64 16))), none⟩,
          ⟨some 0, .mv (.t 6), none⟩] [0])
       (.reg [⟨some 2, .mv (.k (.sc (.int .i64 16))), none⟩] [0, 2]))
      (.skip)))
   (.seq (.seq (.reg [⟨some 7, .mv (.t 0), none⟩,
        ⟨some 8, .bin .geq (.t 7) (.k (.sc (.int .u32 256))), none⟩] [0, 2, 8])
     (.cond (.t 8)
       (.seq (.reg [⟨some 9, .mv (.t 0), none⟩,
           ⟨some 10, .bin .shr (.t 9) (.k (.sc (.int .u64 8))), none⟩,
           ⟨some 0, .mv (.t 10), none⟩] [0, 2])
        (.reg [⟨some 11, .mv (.t 2), none⟩,
           ⟨some 12, .bin .add (.t 11) (.k (.sc (.int .i64 8))), none⟩,
           ⟨some 2, .mv (.t 12), none⟩] [0, 2]))
       (.skip)))
    (.seq (.reg [⟨some 13, .mv (.t 2), none⟩,
        ⟨some 14, .mv (.t 0), none⟩,
        ⟨some 15, .conv .u8 (.t 14), none⟩,
        ⟨some 16, .idxS (.k (.sc (.str ⟨#[0, 1, 2, 2, 3, 3, 3, 3, 4, 4, 4, 4, 4, 4, 4, 4, 5, 5, 5, 5, 5, 5, 5, 5, 5, 5, 5, 5, 5, 5, 5, 5, 6, 6, 6, 6, 6, 6, 6, 6, 6, 6, 6, 6, 6, 6, 6, 6, 6, 6, 6, 6, 6, 6, 6, 6, 6, 6, 6, 6, 6, 6, 6, 6, 7, 7, 7, 7, 7, 7, 7, 7, 7, 7, 7, 7, 7, 7, 7, 7, 7, 7, 7, 7, 7, 7, 7, 7, 7, 7, 7, 7, 7, 7, 7, 7, 7, 7, 7, 7, 7, 7, 7, 7, 7, 7, 7, 7, 7, 7, 7, 7, 7, 7, 7, 7, 7, 7, 7, 7, 7, 7, 7, 7, 7, 7, 7, 7, 8, 8, 8, 8, 8, 8, 8, 8, 8, 8, 8, 8, 8, 8, 8, 8, 8, 8, 8, 8, 8, 8, 8, 8, 8, 8, 8, 8, 8, 8, 8, 8, 8, 8, 8, 8, 8, 8, 8, 8, 8, 8, 8, 8, 8, 8, 8, 8, 8, 8, 8, 8, 8, 8, 8, 8, 8, 8, 8, 8, 8, 8, 8, 8, 8, 8, 8, 8, 8, 8, 8, 8, 8, 8, 8, 8, 8, 8, 8, 8, 8, 8, 8, 8, 8, 8, 8, 8, 8, 8, 8, 8, 8, 8, 8, 8, 8, 8, 8, 8, 8, 8, 8, 8, 8, 8, 8, 8, 8, 8, 8, 8, 8, 8, 8, 8, 8, 8, 8, 8, 8, 8, 8, 8, 8, 8, 8, 8]⟩))) (.t 15), none⟩,
        ⟨some 17, .conv .i64 (.t 16), none⟩,
        ⟨some 18, .bin .add (.t 13) (.t 17), none⟩,
        ⟨some 2, .mv (.t 18), none⟩] [2])
     (.ret))))
def a121 : AFun := ⟨1, b121, [.t 2]⟩

def b126L0 : AC :=
  .block 1 (.seq (.reg [⟨some 11, .mv (.t 8), none⟩,
      ⟨some 12, .bin .mul (.k (.sc (.int .i64 2))) (.t 11), none⟩,
      ⟨some 13, .bin .add (.t 12) (.k (.sc (.int .i64 1))), none⟩,
      ⟨some 9, .mv (.t 13), none⟩] [0, 2, 3, 8, 9])
   (.seq (.seq (.reg [⟨some 14, .mv (.t 9), none⟩,
        ⟨some 15, .mv (.t 2), none⟩,
        ⟨some 16, .bin .geq (.t 14) (.t 15), none⟩] [0, 2, 3, 8, 9, 16])
     (.cond (.t 16)
       (.exit 0)
       (.skip)))
    (.seq (.seq (.regd [(⟨some 17, .mv (.t 9), none⟩, 0, false),
         (⟨some 18, .bin .add (.t 17) (.k (.sc (.int .i64 1))), none⟩, 1, false),
         (⟨some 19, .mv (.t 2), none⟩, 2, false),
         (⟨some 20, .bin .lss (.t 18) (.t 19), none⟩, 3, false),
         (⟨some 21, .mv (.t 20), none⟩, 4, false),
         (⟨some 22, .mv (.t 0), (some (21, true))⟩, 5, false),
         (⟨some 23, .mv (.t 3), (some (21, true))⟩, 6, false),
         (⟨some 24, .mv (.t 9), (some (21, true))⟩, 7, false),
         (⟨some 25, .bin .add (.t 23) (.t 24), (some (21, true))⟩, 8, false),
         (⟨some 26, .idxA 1 (.t 22) (.t 25), (some (21, true))⟩, 9, false),
         (⟨some 27, .ld 1 false (.t 26), (some (21, true))⟩, 10, false),
         (⟨some 28, .mv (.t 0), (some (21, true))⟩, 11, false),
         (⟨some 29, .mv (.t 3), (some (21, true))⟩, 12, false),
         (⟨some 30, .mv (.t 9), (some (21, true))⟩, 13, false),
         (⟨some 31, .bin .add (.t 29) (.t 30), (some (21, true))⟩, 14, false),
         (⟨some 32, .bin .add (.t 31) (.k (.sc (.int .i64 1))), (some (21, true))⟩, 15, false),
         (⟨some 33, .idxA 1 (.t 28) (.t 32), (some (21, true))⟩, 16, false),
         (⟨some 34, .ld 1 false (.t 33), (some (21, true))⟩, 17, false),
         (⟨some 35, .call 118 [(.t 27), (.t 34)], (some (21, true))⟩, 18, true),
         (⟨some 36, .pick (.t 21) (.t 35) (.k (.sc (.bool false))), none⟩, 19, false)] [0, 2, 3, 8, 9, 36])
      (.cond (.t 36)
        (.reg [⟨some 37, .mv (.t 9), none⟩,
           ⟨some 38, .bin .add (.t 37) (.k (.sc (.int .i64 1))), none⟩,
           ⟨some 9, .mv (.t 38), none⟩] [0, 2, 3, 8, 9])
        (.skip)))
     (.seq (.seq (.regd [(⟨some 39, .mv (.t 0), none⟩, 0, false),
          (⟨some 40, .mv (.t 3), none⟩, 1, false),
          (⟨some 41, .mv (.t 8), none⟩, 2, false),
          (⟨some 42, .bin .add (.t 40) (.t 41), none⟩, 3, false),
          (⟨some 43, .idxA 1 (.t 39) (.t 42), none⟩, 4, false),
          (⟨some 44, .ld 1 false (.t 43), none⟩, 5, false),
          (⟨some 45, .mv (.t 0), none⟩, 6, false),
          (⟨some 46, .mv (.t 3), none⟩, 7, false),
          (⟨some 47, .mv (.t 9), none⟩, 8, false),
          (⟨some 48, .bin .add (.t 46) (.t 47), none⟩, 9, false),
          (⟨some 49, .idxA 1 (.t 45) (.t 48), none⟩, 10, false),
          (⟨some 50, .ld 1 false (.t 49), none⟩, 11, false),
          (⟨some 51, .call 118 [(.t 44), (.t 50)], none⟩, 12, true),
          (⟨some 52, .un .not (.t 51), none⟩, 13, false)] [0, 2, 3, 8, 9, 52])
       (.cond (.t 52)
         (.ret)
         (.skip)))
      (.seq (.regd [(⟨some 53, .mv (.t 0), none⟩, 0, false),
          (⟨some 54, .mv (.t 3), none⟩, 1, false),
          (⟨some 55, .mv (.t 8), none⟩, 2, false),
          (⟨some 56, .bin .add (.t 54) (.t 55), none⟩, 3, false),
          (⟨some 57, .mv (.t 0), none⟩, 4, false),
          (⟨some 58, .mv (.t 3), none⟩, 5, false),
          (⟨some 59, .mv (.t 9), none⟩, 6, false),
          (⟨some 60, .bin .add (.t 58) (.t 59), none⟩, 7, false),
          (⟨some 61, .mv (.t 0), none⟩, 8, false),
          (⟨some 62, .mv (.t 3), none⟩, 9, false),
          (⟨some 63, .mv (.t 9), none⟩, 10, false),
          (⟨some 64, .bin .add (.t 62) (.t 63), none⟩, 11, false),
          (⟨some 65, .idxA 1 (.t 61) (.t 64), none⟩, 12, false),
          (⟨some 66, .ld 1 false (.t 65), none⟩, 13, false),
          (⟨some 67, .mv (.t 0), none⟩, 14, false),
          (⟨some 68, .mv (.t 3), none⟩, 15, false),
          (⟨some 69, .mv (.t 8), none⟩, 16, false),
          (⟨some 70, .bin .add (.t 68) (.t 69), none⟩, 17, false),
          (⟨some 71, .idxA 1 (.t 67) (.t 70), none⟩, 18, false),
          (⟨some 72, .ld 1 false (.t 71), none⟩, 19, false),
          (⟨some 73, .idxA 1 (.t 53) (.t 56), none⟩, 20, false),
          (⟨none, .st 1 (.t 73) (.t 66), none⟩, 21, true),
          (⟨some 74, .idxA 1 (.t 57) (.t 60), none⟩, 22, false),
          (⟨none, .st 1 (.t 74) (.t 72), none⟩, 23, true)] [0, 2, 3, 9])
       (.reg [⟨some 75, .mv (.t 9), none⟩,
          ⟨some 8, .mv (.t 75), none⟩] [0, 2, 3, 8]))))))
/-- slices.siftDownOrdered[int] -/
def b126 : AC :=
  .seq (.reg [⟨some 10, .mv (.t 1), none⟩,
     ⟨some 8, .mv (.t 10), none⟩] [0, 2, 3, 8])
  (.block 0 (.loop [0, 2, 3, 8] b126L0))
def a126 : AFun := ⟨4, b126, []⟩

/-- slices.nextPowerOfTwo -/
def b127 : AC :=
  .seq (.reg [⟨some 2, .mv (.k (.sc (.int .u64 0))), none⟩] [0])
  (.seq (.reg [⟨some 3, .mv (.t 0), none⟩,
      ⟨some 4, .conv .u64 (.t 3), none⟩,
      ⟨some 5, .call 106 [(.t 4)], none⟩,
      ⟨some 6, .bin .shl (.k (.sc (.int .u64 1))) (.t 5), none⟩,
      ⟨some 2, .mv (.t 6), none⟩] [2])
   (.ret))
def a127 : AFun := ⟨1, b127, [.t 2]⟩

/-- (*slices.xorshift).Next -/
def b128 : AC :=
  .seq (.reg [⟨some 2, .mv (.k (.sc (.int .u64 0))), none⟩] [0])
  (.seq (.regd [(⟨some 3, .mv (.t 0), none⟩, 0, false),
      (⟨some 4, .nilc (.t 3), none⟩, 1, false),
      (⟨some 5, .ld 1 false (.t 4), none⟩, 2, false),
      (⟨some 6, .mv (.t 0), none⟩, 3, false),
      (⟨some 7, .nilc (.t 6), none⟩, 4, false),
      (⟨some 8, .ld 1 false (.t 7), none⟩, 5, false),
      (⟨some 9, .bin .shl (.t 8) (.k (.sc (.int .u64 13))), none⟩, 6, false),
      (⟨some 10, .bin .xor (.t 5) (.t 9), none⟩, 7, false),
      (⟨some 11, .nilc (.t 3), none⟩, 8, false),
      (⟨none, .st 1 (.t 11) (.t 10), none⟩, 9, true)] [0])
   (.seq (.regd [(⟨some 12, .mv (.t 0), none⟩, 0, false),
       (⟨some 13, .nilc (.t 12), none⟩, 1, false),
       (⟨some 14, .ld 1 false (.t 13), none⟩, 2, false),
       (⟨some 15, .mv (.t 0), none⟩, 3, false),
       (⟨some 16, .nilc (.t 15), none⟩, 4, false),
       (⟨some 17, .ld 1 false (.t 16), none⟩, 5, false),
       (⟨some 18, .bin .shr (.t 17) (.k (.sc (.int .u64 7))), none⟩, 6, false),
       (⟨some 19, .bin .xor (.t 14) (.t 18), none⟩, 7, false),
       (⟨some 20, .nilc (.t 12), none⟩, 8, false),
       (⟨none, .st 1 (.t 20) (.t 19), none⟩, 9, true)] [0])
    (.seq (.regd [(⟨some 21, .mv (.t 0), none⟩, 0, false),
        (⟨some 22, .nilc (.t 21), none⟩, 1, false),
        (⟨some 23, .ld 1 false (.t 22), none⟩, 2, false),
        (⟨some 24, .mv (.t 0), none⟩, 3, false),
        (⟨some 25, .nilc (.t 24), none⟩, 4, false),
        (⟨some 26, .ld 1 false (.t 25), none⟩, 5, false),
        (⟨some 27, .bin .shl (.t 26) (.k (.sc (.int .u64 17))), none⟩, 6, false),
        (⟨some 28, .bin .xor (.t 23) (.t 27), none⟩, 7, false),
        (⟨some 29, .nilc (.t 21), none⟩, 8, false),
        (⟨none, .st 1 (.t 29) (.t 28), none⟩, 9, true)] [0])
     (.seq (.reg [⟨some 30, .mv (.t 0), none⟩,
         ⟨some 31, .nilc (.t 30), none⟩,
         ⟨some 32, .ld 1 false (.t 31), none⟩,
         ⟨some 2, .mv (.t 32), none⟩] [2])
      (.ret)))))
def a128 : AFun := ⟨1, b128, [.t 2]⟩

/-- slices.medianAdjacentOrdered[int] -/
def b129 : AC :=
  .seq (.reg [⟨some 6, .mv (.k (.sc (.int .i64 0))), none⟩] [0, 1, 2])
  (.seq (.reg [⟨some 7, .mv (.t 0), none⟩,
      ⟨some 8, .mv (.t 1), none⟩,
      ⟨some 9, .bin .sub (.t 8) (.k (.sc (.int .i64 1))), none⟩,
      ⟨some 10, .mv (.t 1), none⟩,
      ⟨some 11, .mv (.t 1), none⟩,
      ⟨some 12, .bin .add (.t 11) (.k (.sc (.int .i64 1))), none⟩,
      ⟨some 13, .mv (.t 2), none⟩,
      ⟨some 14, .call 130 [(.t 7), (.t 9), (.t 10), (.t 12), (.t 13)], none⟩,
      ⟨some 6, .mv (.t 14), none⟩] [6])
   (.ret))
def a129 : AFun := ⟨3, b129, [.t 6]⟩

/-- slices.medianOrdered[int] -/
def b130 : AC :=
  .seq (.reg [⟨some 10, .mv (.k (.sc (.int .i64 0))), none⟩] [0, 1, 2, 3, 4])
  (.seq (.reg [⟨some 12, .mv (.t 0), none⟩,
      ⟨some 13, .mv (.t 1), none⟩,
      ⟨some 14, .mv (.t 2), none⟩,
      ⟨some 15, .mv (.t 4), none⟩,
      ⟨some 16, .call 133 [(.t 12), (.t 13), (.t 14), (.t 15)], none⟩,
      ⟨some 11, .mv (.t 16), none⟩,
      ⟨some 17, .ext (.t 11) 0, none⟩,
      ⟨some 18, .ext (.t 11) 1, none⟩,
      ⟨some 1, .mv (.t 17), none⟩,
      ⟨some 2, .mv (.t 18), none⟩] [0, 1, 2, 3, 4])
   (.seq (.reg [⟨some 20, .mv (.t 0), none⟩,
       ⟨some 21, .mv (.t 2), none⟩,
       ⟨some 22, .mv (.t 3), none⟩,
       ⟨some 23, .mv (.t 4), none⟩,
       ⟨some 24, .call 133 [(.t 20), (.t 21), (.t 22), (.t 23)], none⟩,
       ⟨some 19, .mv (.t 24), none⟩,
       ⟨some 25, .ext (.t 19) 0, none⟩,
       ⟨some 26, .ext (.t 19) 1, none⟩,
       ⟨some 2, .mv (.t 25), none⟩,
       ⟨some 3, .mv (.t 26), none⟩] [0, 1, 2, 4])
    (.seq (.reg [⟨some 28, .mv (.t 0), none⟩,
        ⟨some 29, .mv (.t 1), none⟩,
        ⟨some 30, .mv (.t 2), none⟩,
        ⟨some 31, .mv (.t 4), none⟩,
        ⟨some 32, .call 133 [(.t 28), (.t 29), (.t 30), (.t 31)], none⟩,
        ⟨some 27, .mv (.t 32), none⟩,
        ⟨some 33, .ext (.t 27) 0, none⟩,
        ⟨some 34, .ext (.t 27) 1, none⟩,
        ⟨some 1, .mv (.t 33), none⟩,
        ⟨some 2, .mv (.t 34), none⟩] [2])
     (.seq (.reg [⟨some 35, .mv (.t 2), none⟩,
         ⟨some 10, .mv (.t 35), none⟩] [10])
      (.ret)))))
def a130 : AFun := ⟨5, b130, [.t 10]⟩

/-- slices.order2Ordered[int] -/
def b133 : AC :=
  .seq (.reg [⟨some 8, .mv (.k (.sc (.int .i64 0))), none⟩,
     ⟨some 9, .mv (.k (.sc (.int .i64 0))), none⟩] [0, 1, 2, 3])
  (.seq (.seq (.regd [(⟨some 10, .mv (.t 0), none⟩, 0, false),
       (⟨some 11, .mv (.t 2), none⟩, 1, false),
       (⟨some 12, .idxA 1 (.t 10) (.t 11), none⟩, 2, false),
       (⟨some 13, .ld 1 false (.t 12), none⟩, 3, false),
       (⟨some 14, .mv (.t 0), none⟩, 4, false),
       (⟨some 15, .mv (.t 1), none⟩, 5, false),
       (⟨some 16, .idxA 1 (.t 14) (.t 15), none⟩, 6, false),
       (⟨some 17, .ld 1 false (.t 16), none⟩, 7, false),
       (⟨some 18, .call 118 [(.t 13), (.t 17)], none⟩, 8, true)] [1, 2, 3, 18])
    (.cond (.t 18)
      (.seq (.reg [⟨some 19, .mv (.t 3), none⟩,
          ⟨some 20, .nilc (.t 19), none⟩,
          ⟨some 21, .ld 1 false (.t 20), none⟩,
          ⟨some 22, .bin .add (.t 21) (.k (.sc (.int .i64 1))), none⟩,
          ⟨some 23, .nilc (.t 19), none⟩,
          ⟨none, .st 1 (.t 23) (.t 22), none⟩] [1, 2])
       (.seq (.reg [⟨some 24, .mv (.t 2), none⟩,
           ⟨some 25, .mv (.t 1), none⟩,
           ⟨some 8, .mv (.t 24), none⟩,
           ⟨some 9, .mv (.t 25), none⟩] [8, 9])
        (.ret)))
      (.skip)))
   (.seq (.reg [⟨some 26, .mv (.t 1), none⟩,
       ⟨some 27, .mv (.t 2), none⟩,
       ⟨some 8, .mv (.t 26), none⟩,
       ⟨some 9, .mv (.t 27), none⟩] [8, 9])
    (.ret)))
def a133 : AFun := ⟨4, b133, [.t 8, .t 9]⟩

def FT : FuncId → Option AFun
  | 4 => some a4
  | 10 => some a10
  | 11 => some a11
  | 12 => some a12
  | 13 => some a13
  | 14 => some a14
  | 15 => some a15
  | 16 => some a16
  | 18 => some a18
  | 19 => some a19
  | 20 => some a20
  | 27 => some a27
  | 28 => some a28
  | 29 => some a29
  | 34 => some a34
  | 35 => some a35
  | 36 => some a36
  | 37 => some a37
  | 38 => some a38
  | 39 => some a39
  | 40 => some a40
  | 41 => some a41
  | 42 => some a42
  | 43 => some a43
  | 44 => some a44
  | 45 => some a45
  | 47 => some a47
  | 48 => some a48
  | 49 => some a49
  | 50 => some a50
  | 51 => some a51
  | 52 => some a52
  | 61 => some a61
  | 62 => some a62
  | 63 => some a63
  | 65 => some a65
  | 66 => some a66
  | 68 => some a68
  | 69 => some a69
  | 70 => some a70
  | 71 => some a71
  | 73 => some a73
  | 74 => some a74
  | 75 => some a75
  | 76 => some a76
  | 77 => some a77
  | 78 => some a78
  | 79 => some a79
  | 80 => some a80
  | 81 => some a81
  | 84 => some a84
  | 89 => some a89
  | 91 => some a91
  | 92 => some a92
  | 93 => some a93
  | 94 => some a94
  | 95 => some a95
  | 96 => some a96
  | 103 => some a103
  | 105 => some a105
  | 106 => some a106
  | 112 => some a112
  | 113 => some a113
  | 114 => some a114
  | 115 => some a115
  | 116 => some a116
  | 117 => some a117
  | 118 => some a118
  | 119 => some a119
  | 120 => some a120
  | 121 => some a121
  | 126 => some a126
  | 127 => some a127
  | 128 => some a128
  | 129 => some a129
  | 130 => some a130
  | 133 => some a133
  | _ => none

theorem ok4 : okFun Tryd.prog a4 Tryd.f4 = true := by kernel_rfl
theorem ok10 : okFun Tryd.prog a10 Tryd.f10 = true := by kernel_rfl
theorem ok11 : okFun Tryd.prog a11 Tryd.f11 = true := by kernel_rfl
theorem ok12 : okFun Tryd.prog a12 Tryd.f12 = true := by kernel_rfl
theorem ok13 : okFun Tryd.prog a13 Tryd.f13 = true := by kernel_rfl
theorem ok14 : okFun Tryd.prog a14 Tryd.f14 = true := by kernel_rfl
theorem ok15 : okFun Tryd.prog a15 Tryd.f15 = true := by kernel_rfl
theorem ok16 : okFun Tryd.prog a16 Tryd.f16 = true := by kernel_rfl
theorem ok18 : okFun Tryd.prog a18 Tryd.f18 = true := by kernel_rfl
theorem ok19 : okFun Tryd.prog a19 Tryd.f19 = true := by kernel_rfl
theorem ok20 : okFun Tryd.prog a20 Tryd.f20 = true := by kernel_rfl
theorem ok27 : okFun Tryd.prog a27 Tryd.f27 = true := by kernel_rfl
theorem ok28 : okFun Tryd.prog a28 Tryd.f28 = true := by kernel_rfl
theorem ok29 : okFun Tryd.prog a29 Tryd.f29 = true := by kernel_rfl
theorem ok34 : okFun Tryd.prog a34 Tryd.f34 = true := by kernel_rfl
theorem ok35 : okFun Tryd.prog a35 Tryd.f35 = true := by kernel_rfl
theorem ok36 : okFun Tryd.prog a36 Tryd.f36 = true := by kernel_rfl
theorem ok37 : okFun Tryd.prog a37 Tryd.f37 = true := by kernel_rfl
theorem ok38 : okFun Tryd.prog a38 Tryd.f38 = true := by kernel_rfl
theorem ok39 : okFun Tryd.prog a39 Tryd.f39 = true := by kernel_rfl
theorem ok40 : okFun Tryd.prog a40 Tryd.f40 = true := by kernel_rfl
theorem ok41 : okFun Tryd.prog a41 Tryd.f41 = true := by kernel_rfl
theorem ok42 : okFun Tryd.prog a42 Tryd.f42 = true := by kernel_rfl
theorem ok43 : okFun Tryd.prog a43 Tryd.f43 = true := by kernel_rfl
theorem ok44 : okFun Tryd.prog a44 Tryd.f44 = true := by kernel_rfl
theorem ok45 : okFun Tryd.prog a45 Tryd.f45 = true := by kernel_rfl
theorem ok47 : okFun Tryd.prog a47 Tryd.f47 = true := by kernel_rfl
theorem ok48 : okFun Tryd.prog a48 Tryd.f48 = true := by kernel_rfl
theorem ok49 : okFun Tryd.prog a49 Tryd.f49 = true := by kernel_rfl
theorem ok50 : okFun Tryd.prog a50 Tryd.f50 = true := by kernel_rfl
theorem ok51 : okFun Tryd.prog a51 Tryd.f51 = true := by kernel_rfl
theorem ok52 : okFun Tryd.prog a52 Tryd.f52 = true := by kernel_rfl
theorem ok61 : okFun Tryd.prog a61 Tryd.f61 = true := by kernel_rfl
theorem ok62 : okFun Tryd.prog a62 Tryd.f62 = true := by kernel_rfl
theorem ok63 : okFun Tryd.prog a63 Tryd.f63 = true := by kernel_rfl
theorem ok65 : okFun Tryd.prog a65 Tryd.f65 = true := by kernel_rfl
theorem ok66 : okFun Tryd.prog a66 Tryd.f66 = true := by kernel_rfl
theorem ok68 : okFun Tryd.prog a68 Tryd.f68 = true := by kernel_rfl
theorem ok69 : okFun Tryd.prog a69 Tryd.f69 = true := by kernel_rfl
theorem ok70 : okFun Tryd.prog a70 Tryd.f70 = true := by kernel_rfl
theorem ok71 : okFun Tryd.prog a71 Tryd.f71 = true := by kernel_rfl
theorem ok73 : okFun Tryd.prog a73 Tryd.f73 = true := by kernel_rfl
theorem ok74 : okFun Tryd.prog a74 Tryd.f74 = true := by kernel_rfl
theorem ok75 : okFun Tryd.prog a75 Tryd.f75 = true := by kernel_rfl
theorem ok76 : okFun Tryd.prog a76 Tryd.f76 = true := by kernel_rfl
theorem ok77 : okFun Tryd.prog a77 Tryd.f77 = true := by kernel_rfl
theorem ok78 : okFun Tryd.prog a78 Tryd.f78 = true := by kernel_rfl
theorem ok79 : okFun Tryd.prog a79 Tryd.f79 = true := by kernel_rfl
theorem ok80 : okFun Tryd.prog a80 Tryd.f80 = true := by kernel_rfl
theorem ok81 : okFun Tryd.prog a81 Tryd.f81 = true := by kernel_rfl
theorem ok84 : okFun Tryd.prog a84 Tryd.f84 = true := by kernel_rfl
theorem ok89 : okFun Tryd.prog a89 Tryd.f89 = true := by kernel_rfl
theorem ok91 : okFun Tryd.prog a91 Tryd.f91 = true := by kernel_rfl
theorem ok92 : okFun Tryd.prog a92 Tryd.f92 = true := by kernel_rfl
theorem ok93 : okFun Tryd.prog a93 Tryd.f93 = true := by kernel_rfl
theorem ok94 : okFun Tryd.prog a94 Tryd.f94 = true := by kernel_rfl
theorem ok95 : okFun Tryd.prog a95 Tryd.f95 = true := by kernel_rfl
theorem ok96 : okFun Tryd.prog a96 Tryd.f96 = true := by kernel_rfl
theorem ok103 : okFun Tryd.prog a103 Tryd.f103 = true := by kernel_rfl
theorem ok105 : okFun Tryd.prog a105 Tryd.f105 = true := by kernel_rfl
theorem ok106 : okFun Tryd.prog a106 Tryd.f106 = true := by kernel_rfl
theorem ok112 : okFun Tryd.prog a112 Tryd.f112 = true := by kernel_rfl
theorem ok113 : okFun Tryd.prog a113 Tryd.f113 = true := by kernel_rfl
theorem ok114 : okFun Tryd.prog a114 Tryd.f114 = true := by kernel_rfl
theorem ok115 : okFun Tryd.prog a115 Tryd.f115 = true := by kernel_rfl
theorem ok116 : okFun Tryd.prog a116 Tryd.f116 = true := by kernel_rfl
theorem ok117 : okFun Tryd.prog a117 Tryd.f117 = true := by kernel_rfl
theorem ok118 : okFun Tryd.prog a118 Tryd.f118 = true := by kernel_rfl
theorem ok119 : okFun Tryd.prog a119 Tryd.f119 = true := by kernel_rfl
theorem ok120 : okFun Tryd.prog a120 Tryd.f120 = true := by kernel_rfl
theorem ok121 : okFun Tryd.prog a121 Tryd.f121 = true := by kernel_rfl
theorem ok126 : okFun Tryd.prog a126 Tryd.f126 = true := by kernel_rfl
theorem ok127 : okFun Tryd.prog a127 Tryd.f127 = true := by kernel_rfl
theorem ok128 : okFun Tryd.prog a128 Tryd.f128 = true := by kernel_rfl
theorem ok129 : okFun Tryd.prog a129 Tryd.f129 = true := by kernel_rfl
theorem ok130 : okFun Tryd.prog a130 Tryd.f130 = true := by kernel_rfl
theorem ok133 : okFun Tryd.prog a133 Tryd.f133 = true := by kernel_rfl
theorem mixed : Tryd.prog.follows .mixedOrders = true := by kernel_rfl
theorem ft_ok : FTok Tryd.prog FT := by
  refine ⟨mixed, fun f F h => ?_⟩
  unfold FT at h
  split at h
  · simp at h; subst h; exact ⟨_, Tryd.func4, ok4⟩
  · simp at h; subst h; exact ⟨_, Tryd.func10, ok10⟩
  · simp at h; subst h; exact ⟨_, Tryd.func11, ok11⟩
  · simp at h; subst h; exact ⟨_, Tryd.func12, ok12⟩
  · simp at h; subst h; exact ⟨_, Tryd.func13, ok13⟩
  · simp at h; subst h; exact ⟨_, Tryd.func14, ok14⟩
  · simp at h; subst h; exact ⟨_, Tryd.func15, ok15⟩
  · simp at h; subst h; exact ⟨_, Tryd.func16, ok16⟩
  · simp at h; subst h; exact ⟨_, Tryd.func18, ok18⟩
  · simp at h; subst h; exact ⟨_, Tryd.func19, ok19⟩
  · simp at h; subst h; exact ⟨_, Tryd.func20, ok20⟩
  · simp at h; subst h; exact ⟨_, Tryd.func27, ok27⟩
  · simp at h; subst h; exact ⟨_, Tryd.func28, ok28⟩
  · simp at h; subst h; exact ⟨_, Tryd.func29, ok29⟩
  · simp at h; subst h; exact ⟨_, Tryd.func34, ok34⟩
  · simp at h; subst h; exact ⟨_, Tryd.func35, ok35⟩
  · simp at h; subst h; exact ⟨_, Tryd.func36, ok36⟩
  · simp at h; subst h; exact ⟨_, Tryd.func37, ok37⟩
  · simp at h; subst h; exact ⟨_, Tryd.func38, ok38⟩
  · simp at h; subst h; exact ⟨_, Tryd.func39, ok39⟩
  · simp at h; subst h; exact ⟨_, Tryd.func40, ok40⟩
  · simp at h; subst h; exact ⟨_, Tryd.func41, ok41⟩
  · simp at h; subst h; exact ⟨_, Tryd.func42, ok42⟩
  · simp at h; subst h; exact ⟨_, Tryd.func43, ok43⟩
  · simp at h; subst h; exact ⟨_, Tryd.func44, ok44⟩
  · simp at h; subst h; exact ⟨_, Tryd.func45, ok45⟩
  · simp at h; subst h; exact ⟨_, Tryd.func47, ok47⟩
  · simp at h; subst h; exact ⟨_, Tryd.func48, ok48⟩
  · simp at h; subst h; exact ⟨_, Tryd.func49, ok49⟩
  · simp at h; subst h; exact ⟨_, Tryd.func50, ok50⟩
  · simp at h; subst h; exact ⟨_, Tryd.func51, ok51⟩
  · simp at h; subst h; exact ⟨_, Tryd.func52, ok52⟩
  · simp at h; subst h; exact ⟨_, Tryd.func61, ok61⟩
  · simp at h; subst h; exact ⟨_, Tryd.func62, ok62⟩
  · simp at h; subst h; exact ⟨_, Tryd.func63, ok63⟩
  · simp at h; subst h; exact ⟨_, Tryd.func65, ok65⟩
  · simp at h; subst h; exact ⟨_, Tryd.func66, ok66⟩
  · simp at h; subst h; exact ⟨_, Tryd.func68, ok68⟩
  · simp at h; subst h; exact ⟨_, Tryd.func69, ok69⟩
  · simp at h; subst h; exact ⟨_, Tryd.func70, ok70⟩
  · simp at h; subst h; exact ⟨_, Tryd.func71, ok71⟩
  · simp at h; subst h; exact ⟨_, Tryd.func73, ok73⟩
  · simp at h; subst h; exact ⟨_, Tryd.func74, ok74⟩
  · simp at h; subst h; exact ⟨_, Tryd.func75, ok75⟩
  · simp at h; subst h; exact ⟨_, Tryd.func76, ok76⟩
  · simp at h; subst h; exact ⟨_, Tryd.func77, ok77⟩
  · simp at h; subst h; exact ⟨_, Tryd.func78, ok78⟩
  · simp at h; subst h; exact ⟨_, Tryd.func79, ok79⟩
  · simp at h; subst h; exact ⟨_, Tryd.func80, ok80⟩
  · simp at h; subst h; exact ⟨_, Tryd.func81, ok81⟩
  · simp at h; subst h; exact ⟨_, Tryd.func84, ok84⟩
  · simp at h; subst h; exact ⟨_, Tryd.func89, ok89⟩
  · simp at h; subst h; exact ⟨_, Tryd.func91, ok91⟩
  · simp at h; subst h; exact ⟨_, Tryd.func92, ok92⟩
  · simp at h; subst h; exact ⟨_, Tryd.func93, ok93⟩
  · simp at h; subst h; exact ⟨_, Tryd.func94, ok94⟩
  · simp at h; subst h; exact ⟨_, Tryd.func95, ok95⟩
  · simp at h; subst h; exact ⟨_, Tryd.func96, ok96⟩
  · simp at h; subst h; exact ⟨_, Tryd.func103, ok103⟩
  · simp at h; subst h; exact ⟨_, Tryd.func105, ok105⟩
  · simp at h; subst h; exact ⟨_, Tryd.func106, ok106⟩
  · simp at h; subst h; exact ⟨_, Tryd.func112, ok112⟩
  · simp at h; subst h; exact ⟨_, Tryd.func113, ok113⟩
  · simp at h; subst h; exact ⟨_, Tryd.func114, ok114⟩
  · simp at h; subst h; exact ⟨_, Tryd.func115, ok115⟩
  · simp at h; subst h; exact ⟨_, Tryd.func116, ok116⟩
  · simp at h; subst h; exact ⟨_, Tryd.func117, ok117⟩
  · simp at h; subst h; exact ⟨_, Tryd.func118, ok118⟩
  · simp at h; subst h; exact ⟨_, Tryd.func119, ok119⟩
  · simp at h; subst h; exact ⟨_, Tryd.func120, ok120⟩
  · simp at h; subst h; exact ⟨_, Tryd.func121, ok121⟩
  · simp at h; subst h; exact ⟨_, Tryd.func126, ok126⟩
  · simp at h; subst h; exact ⟨_, Tryd.func127, ok127⟩
  · simp at h; subst h; exact ⟨_, Tryd.func128, ok128⟩
  · simp at h; subst h; exact ⟨_, Tryd.func129, ok129⟩
  · simp at h; subst h; exact ⟨_, Tryd.func130, ok130⟩
  · simp at h; subst h; exact ⟨_, Tryd.func133, ok133⟩
  · simp at h
end Go.Proofs.YtlnjddjobbhcaaaDoor
