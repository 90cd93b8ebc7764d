/- The annotated code of this seat, printed by program (mkseat.py). -/
import Derived.Test.YtooafhbjbpaacaaDoorProg
import Derived.KernelRfl
import Derived.Test.YtooafhbjbpaacaaDoorAb17
namespace Go.Proofs.YtooafhbjbpaacaaDoor
open Go.Ab

def b3L0 : AC :=
  .seq (.seq (.reg [⟨some 23, .mv (.t 5), none⟩,
      ⟨some 24, .mv (.t 0), none⟩,
      ⟨some 25, .len false (.t 24), none⟩,
      ⟨some 26, .bin .lss (.t 23) (.t 25), none⟩] [0, 1, 5, 26])
   (.cond (.t 26)
     (.skip)
     (.exit 0)))
  (.seq (.block 1 (.seq (.reg [⟨some 29, .mv (.t 0), none⟩,
        ⟨some 30, .mv (.t 5), none⟩,
        ⟨some 31, .idxA 1 (.t 29) (.t 30), none⟩,
        ⟨some 32, .ld 1 false (.t 31), none⟩,
        ⟨some 33, .bin .lss (.t 32) (.k (.sc (.int .i64 (-2305843009213693952)))), none⟩,
        ⟨some 34, .mv (.t 33), none⟩,
        ⟨some 35, .mv (.t 0), (some (34, false))⟩,
        ⟨some 36, .mv (.t 5), (some (34, false))⟩,
        ⟨some 37, .idxA 1 (.t 35) (.t 36), (some (34, false))⟩,
        ⟨some 38, .ld 1 false (.t 37), (some (34, false))⟩,
        ⟨some 39, .bin .gtr (.t 38) (.k (.sc (.int .i64 2305843009213693952))), (some (34, false))⟩,
        ⟨some 40, .pick (.t 34) (.k (.sc (.bool true))) (.t 39), none⟩] [0, 1, 5, 40])
     (.cond (.t 40)
       (.seq (.reg [⟨some 4, .mv (.k (.sc (.bool true))), none⟩] [4])
        (.ret))
       (.skip))))
   (.reg [⟨some 27, .mv (.t 5), none⟩,
      ⟨some 28, .bin .add (.t 27) (.k (.sc (.int .i64 1))), none⟩,
      ⟨some 5, .mv (.t 28), none⟩] [0, 1, 5]))
/-- unravel/unravellaw04.DowkerText -/
def b3 : AC :=
  .seq (.reg [⟨some 4, .mv (.k (.sc (.bool false))), none⟩] [0, 1])
  (.seq (.seq (.reg [⟨some 13, .call 5 [], none⟩,
       ⟨some 14, .un .not (.t 13), none⟩] [0, 1, 14])
    (.cond (.t 14)
      (.seq (.reg [⟨some 4, .mv (.k (.sc (.bool false))), none⟩] [4])
       (.ret))
      (.skip)))
   (.seq (.seq (.reg [⟨some 15, .mv (.t 0), none⟩,
        ⟨some 16, .len false (.t 15), none⟩,
        ⟨some 17, .bin .gtr (.t 16) (.k (.sc (.int .i64 80))), none⟩,
        ⟨some 18, .mv (.t 17), none⟩,
        ⟨some 19, .mv (.t 1), (some (18, false))⟩,
        ⟨some 20, .len true (.t 19), (some (18, false))⟩,
        ⟨some 21, .bin .gtr (.t 20) (.k (.sc (.int .i64 300))), (some (18, false))⟩,
        ⟨some 22, .pick (.t 18) (.k (.sc (.bool true))) (.t 21), none⟩] [0, 1, 22])
     (.cond (.t 22)
       (.seq (.reg [⟨some 4, .mv (.k (.sc (.bool true))), none⟩] [4])
        (.ret))
       (.skip)))
    (.seq (.seq (.reg [⟨some 5, .mv (.k (.sc (.int .i64 0))), none⟩] [0, 1, 5])
      (.block 0 (.loop [0, 1, 5] b3L0)))
     (.seq (.reg [⟨some 41, .mv (.t 0), none⟩,
         ⟨some 42, .call 6 [(.t 41)], none⟩,
         ⟨some 6, .mv (.t 42), none⟩] [0, 1, 6])
      (.seq (.reg [⟨some 44, .mv (.t 6), none⟩,
          ⟨some 45, .call 7 [(.t 44)], none⟩,
          ⟨some 43, .mv (.t 45), none⟩,
          ⟨some 46, .ext (.t 43) 0, none⟩,
          ⟨some 47, .ext (.t 43) 1, none⟩,
          ⟨some 7, .mv (.t 46), none⟩,
          ⟨some 8, .mv (.t 47), none⟩] [0, 1, 6, 7, 8])
       (.seq (.seq (.reg [⟨some 48, .mv (.t 6), none⟩,
            ⟨some 49, .mv (.t 0), none⟩,
            ⟨some 50, .call 8 [(.t 49)], none⟩,
            ⟨some 51, .bin .neq (.t 48) (.t 50), none⟩,
            ⟨some 52, .mv (.t 51), none⟩,
            ⟨some 53, .mv (.t 0), (some (52, false))⟩,
            ⟨some 54, .call 9 [(.t 53)], (some (52, false))⟩,
            ⟨some 55, .mv (.t 8), (some (52, false))⟩,
            ⟨some 56, .bin .eql (.t 55) (.k (.sc (.int .i64 0))), (some (52, false))⟩,
            ⟨some 57, .beq true (.t 54) (.t 56), (some (52, false))⟩,
            ⟨some 58, .pick (.t 52) (.k (.sc (.bool true))) (.t 57), none⟩,
            ⟨some 59, .mv (.t 58), none⟩,
            ⟨some 60, .mv (.t 8), (some (59, false))⟩,
            ⟨some 61, .bin .eql (.t 60) (.k (.sc (.int .i64 0))), (some (59, false))⟩,
            ⟨some 62, .mv (.t 61), (some (59, false))⟩,
            ⟨some 63, .mv (.t 7), (some (62, true))⟩,
            ⟨some 64, .mv (.t 0), (some (62, true))⟩,
            ⟨some 65, .call 10 [(.t 63), (.t 64)], (some (62, true))⟩,
            ⟨some 66, .un .not (.t 65), (some (62, true))⟩,
            ⟨some 67, .pick (.t 62) (.t 66) (.k (.sc (.bool false))), (some (59, false))⟩,
            ⟨some 68, .pick (.t 59) (.k (.sc (.bool true))) (.t 67), none⟩] [1, 68])
         (.cond (.t 68)
           (.seq (.reg [⟨some 4, .mv (.k (.sc (.bool false))), none⟩] [4])
            (.ret))
           (.skip)))
        (.seq (.reg [⟨some 70, .mv (.t 1), none⟩,
            ⟨some 71, .call 7 [(.t 70)], none⟩,
            ⟨some 69, .mv (.t 71), none⟩,
            ⟨some 72, .ext (.t 69) 0, none⟩,
            ⟨some 73, .ext (.t 69) 1, none⟩,
            ⟨some 9, .mv (.t 72), none⟩,
            ⟨some 10, .mv (.t 73), none⟩] [1, 9, 10])
         (.seq (.reg [⟨some 75, .mv (.t 1), none⟩,
             ⟨some 76, .call 11 [(.t 75)], none⟩,
             ⟨some 74, .mv (.t 76), none⟩,
             ⟨some 77, .ext (.t 74) 0, none⟩,
             ⟨some 78, .ext (.t 74) 1, none⟩,
             ⟨some 11, .mv (.t 77), none⟩,
             ⟨some 12, .mv (.t 78), none⟩] [9, 10, 11, 12])
          (.seq (.seq (.reg [⟨some 79, .mv (.t 12), none⟩,
               ⟨some 80, .un .not (.t 79), none⟩] [9, 10, 11, 80])
            (.cond (.t 80)
              (.seq (.reg [⟨some 81, .mv (.t 10), none⟩,
                  ⟨some 82, .bin .eql (.t 81) (.k (.sc (.int .i64 3))), none⟩,
                  ⟨some 83, .mv (.t 82), none⟩,
                  ⟨some 84, .mv (.t 9), (some (83, true))⟩,
                  ⟨some 85, .len false (.t 84), (some (83, true))⟩,
                  ⟨some 86, .bin .eql (.t 85) (.k (.sc (.int .i64 0))), (some (83, true))⟩,
                  ⟨some 87, .pick (.t 83) (.t 86) (.k (.sc (.bool false))), none⟩,
                  ⟨some 4, .mv (.t 87), none⟩] [4])
               (.ret))
              (.skip)))
           (.seq (.reg [⟨some 88, .mv (.t 10), none⟩,
               ⟨some 89, .bin .eql (.t 88) (.k (.sc (.int .i64 0))), none⟩,
               ⟨some 90, .mv (.t 89), none⟩,
               ⟨some 91, .mv (.t 9), (some (90, true))⟩,
               ⟨some 92, .mv (.t 11), (some (90, true))⟩,
               ⟨some 93, .call 10 [(.t 91), (.t 92)], (some (90, true))⟩,
               ⟨some 94, .pick (.t 90) (.t 93) (.k (.sc (.bool false))), none⟩,
               ⟨some 4, .mv (.t 94), none⟩] [4])
            (.ret)))))))))))
def a3 : AFun := ⟨2, b3, [.t 4]⟩

def b4L0 : AC :=
  .seq (.seq (.reg [⟨some 22, .mv (.t 5), none⟩,
      ⟨some 23, .mv (.t 4), none⟩,
      ⟨some 24, .bin .leq (.t 22) (.t 23), none⟩] [3, 4, 5, 24])
   (.cond (.t 24)
     (.skip)
     (.exit 0)))
  (.seq (.block 1 (.reg [⟨some 27, .mv (.t 3), none⟩,
       ⟨some 28, .mv (.t 5), none⟩,
       ⟨some 29, .bin .mul (.k (.sc (.int .i64 2))) (.t 28), none⟩,
       ⟨some 30, .bsl 1 [.int .i64 0] 1 [(0, .t 29)], none⟩,
       ⟨some 31, .app 1 8 [.int .i64 0] (.t 27) (.t 30), none⟩,
       ⟨some 3, .mv (.t 31), none⟩] [3, 4, 5]))
   (.reg [⟨some 25, .mv (.t 5), none⟩,
      ⟨some 26, .bin .add (.t 25) (.k (.sc (.int .i64 1))), none⟩,
      ⟨some 5, .mv (.t 26), none⟩] [3, 4, 5]))
def b4L1 : AC :=
  .seq (.seq (.reg [⟨some 43, .mv (.t 11), none⟩,
      ⟨some 44, .mv (.t 10), none⟩,
      ⟨some 45, .len false (.t 44), none⟩,
      ⟨some 46, .bin .lss (.t 43) (.t 45), none⟩] [7, 9, 10, 11, 46])
   (.cond (.t 46)
     (.skip)
     (.exit 2)))
  (.seq (.block 3 (.reg [⟨some 49, .mv (.t 10), none⟩,
       ⟨some 50, .mv (.t 11), none⟩,
       ⟨some 51, .idxA 1 (.t 49) (.t 50), none⟩,
       ⟨none, .st 1 (.t 51) (.k (.sc (.int .u8 50))), none⟩] [7, 9, 10, 11]))
   (.reg [⟨some 47, .mv (.t 11), none⟩,
      ⟨some 48, .bin .add (.t 47) (.k (.sc (.int .i64 1))), none⟩,
      ⟨some 11, .mv (.t 48), none⟩] [7, 9, 10, 11]))
/-- unravel/unravellaw04.DowkerFull -/
def b4 : AC :=
  .seq (.reg [⟨some 2, .mv (.k (.sc (.bool false))), none⟩] [0])
  (.seq (.seq (.reg [⟨some 16, .call 5 [], none⟩,
       ⟨some 17, .un .not (.t 16), none⟩] [0, 17])
    (.cond (.t 17)
      (.seq (.reg [⟨some 2, .mv (.k (.sc (.bool false))), none⟩] [2])
       (.ret))
      (.skip)))
   (.seq (.reg [⟨some 3, .mv (.k (.sc .nilS)), none⟩] [0, 3])
    (.seq (.reg [⟨some 18, .mv (.t 0), none⟩,
        ⟨some 19, .conv .i64 (.t 18), none⟩,
        ⟨some 20, .bin .rem (.t 19) (.k (.sc (.int .i64 20))), none⟩,
        ⟨some 21, .bin .add (.k (.sc (.int .i64 15))) (.t 20), none⟩,
        ⟨some 4, .mv (.t 21), none⟩] [3, 4])
     (.seq (.seq (.reg [⟨some 5, .mv (.k (.sc (.int .i64 1))), none⟩] [3, 4, 5])
       (.block 0 (.loop [3, 4, 5] b4L0)))
      (.seq (.reg [⟨some 33, .mv (.t 3), none⟩,
          ⟨some 34, .call 12 [(.t 33)], none⟩,
          ⟨some 32, .mv (.t 34), none⟩,
          ⟨some 35, .ext (.t 32) 0, none⟩,
          ⟨some 36, .ext (.t 32) 1, none⟩,
          ⟨some 6, .mv (.t 35), none⟩,
          ⟨some 7, .mv (.t 36), none⟩] [3, 7])
       (.seq (.reg [⟨some 38, .mv (.t 3), none⟩,
           ⟨some 39, .call 13 [(.t 38)], none⟩,
           ⟨some 37, .mv (.t 39), none⟩,
           ⟨some 40, .ext (.t 37) 0, none⟩,
           ⟨some 41, .ext (.t 37) 1, none⟩,
           ⟨some 8, .new [.nilS, .nilS, .int .i64 0], none⟩,
           ⟨none, .st 3 (.t 8) (.t 40), none⟩,
           ⟨some 9, .mv (.t 41), none⟩] [7, 9])
        (.seq (.reg [⟨some 42, .mk ⟨1, some 5⟩ 1 [.int .u8 0] (.k (.sc (.int .i64 65537))) (.k (.sc (.int .i64 65537))), none⟩,
            ⟨some 10, .mv (.t 42), none⟩] [7, 9, 10])
         (.seq (.seq (.reg [⟨some 11, .mv (.k (.sc (.int .i64 0))), none⟩] [7, 9, 10, 11])
           (.block 2 (.loop [7, 9, 10, 11] b4L1)))
          (.seq (.reg [⟨some 53, .mv (.t 10), none⟩,
              ⟨some 54, .cbs (.t 53), none⟩,
              ⟨some 55, .call 7 [(.t 54)], none⟩,
              ⟨some 52, .mv (.t 55), none⟩,
              ⟨some 56, .ext (.t 52) 0, none⟩,
              ⟨some 57, .ext (.t 52) 1, none⟩,
              ⟨some 12, .mv (.t 56), none⟩,
              ⟨some 13, .mv (.t 57), none⟩] [7, 9, 10, 13])
           (.seq (.reg [⟨some 59, .mv (.t 10), none⟩,
               ⟨some 60, .sl1 (.t 59) none (some (.k (.sc (.int .i64 65536)))), none⟩,
               ⟨some 61, .cbs (.t 60), none⟩,
               ⟨some 62, .call 7 [(.t 61)], none⟩,
               ⟨some 58, .mv (.t 62), none⟩,
               ⟨some 63, .ext (.t 58) 0, none⟩,
               ⟨some 64, .ext (.t 58) 1, none⟩,
               ⟨some 14, .mv (.t 63), none⟩,
               ⟨some 15, .mv (.t 64), none⟩] [7, 9, 13, 15])
            (.seq (.reg [⟨some 65, .mv (.t 7), none⟩,
                ⟨some 66, .bin .eql (.t 65) (.k (.sc (.int .i64 5))), none⟩,
                ⟨some 67, .mv (.t 66), none⟩,
                ⟨some 68, .mv (.t 9), (some (67, true))⟩,
                ⟨some 69, .bin .eql (.t 68) (.k (.sc (.int .i64 5))), (some (67, true))⟩,
                ⟨some 70, .pick (.t 67) (.t 69) (.k (.sc (.bool false))), none⟩,
                ⟨some 71, .mv (.t 70), none⟩,
                ⟨some 72, .mv (.t 13), (some (71, true))⟩,
                ⟨some 73, .bin .eql (.t 72) (.k (.sc (.int .i64 5))), (some (71, true))⟩,
                ⟨some 74, .pick (.t 71) (.t 73) (.k (.sc (.bool false))), none⟩,
                ⟨some 75, .mv (.t 74), none⟩,
                ⟨some 76, .mv (.t 15), (some (75, true))⟩,
                ⟨some 77, .bin .eql (.t 76) (.k (.sc (.int .i64 3))), (some (75, true))⟩,
                ⟨some 78, .pick (.t 75) (.t 77) (.k (.sc (.bool false))), none⟩,
                ⟨some 2, .mv (.t 78), none⟩] [2])
             (.ret))))))))))))
def a4 : AFun := ⟨1, b4, [.t 2]⟩

/-- unravel/unravellaw04.awake -/
def b5 : AC :=
  .seq (.reg [⟨some 0, .mv (.k (.sc (.bool false))), none⟩] [])
  (.seq (.reg [⟨some 8, .bsl 1 [.int .i64 0] 3 [(0, .k (.sc (.int .i64 4))), (1, .k (.sc (.int .i64 6))), (2, .k (.sc (.int .i64 2)))], none⟩,
      ⟨some 9, .call 12 [(.t 8)], none⟩,
      ⟨some 7, .mv (.t 9), none⟩,
      ⟨some 10, .ext (.t 7) 0, none⟩,
      ⟨some 11, .ext (.t 7) 1, none⟩,
      ⟨some 1, .mv (.t 10), none⟩,
      ⟨some 2, .mv (.t 11), none⟩] [1, 2])
   (.seq (.reg [⟨some 13, .bsl 1 [.int .i64 0] 3 [(0, .k (.sc (.int .i64 4))), (1, .k (.sc (.int .i64 6))), (2, .k (.sc (.int .i64 2)))], none⟩,
       ⟨some 14, .call 13 [(.t 13)], none⟩,
       ⟨some 12, .mv (.t 14), none⟩,
       ⟨some 15, .ext (.t 12) 0, none⟩,
       ⟨some 16, .ext (.t 12) 1, none⟩,
       ⟨some 3, .new [.nilS, .nilS, .int .i64 0], none⟩,
       ⟨none, .st 3 (.t 3) (.t 15), none⟩,
       ⟨some 4, .mv (.t 16), none⟩] [1, 2, 3, 4])
    (.seq (.reg [⟨some 18, .ld 3 true (.t 3), none⟩,
        ⟨some 19, .call 14 [(.t 18)], none⟩,
        ⟨some 17, .mv (.t 19), none⟩,
        ⟨some 20, .ext (.t 17) 0, none⟩,
        ⟨some 21, .ext (.t 17) 1, none⟩,
        ⟨some 5, .mv (.t 20), none⟩,
        ⟨some 6, .mv (.t 21), none⟩] [1, 2, 4, 5, 6])
     (.seq (.reg [⟨some 22, .mv (.t 2), none⟩,
         ⟨some 23, .bin .eql (.t 22) (.k (.sc (.int .i64 0))), none⟩,
         ⟨some 24, .mv (.t 23), none⟩,
         ⟨some 25, .mv (.t 1), (some (24, true))⟩,
         ⟨some 26, .bsl 1 [.int .i64 0] 3 [(0, .k (.sc (.int .i64 1))), (1, .k (.sc (.int .i64 1))), (2, .k (.sc (.int .i64 1)))], (some (24, true))⟩,
         ⟨some 27, .call 10 [(.t 25), (.t 26)], (some (24, true))⟩,
         ⟨some 28, .pick (.t 24) (.t 27) (.k (.sc (.bool false))), none⟩,
         ⟨some 29, .mv (.t 28), none⟩,
         ⟨some 30, .mv (.t 4), (some (29, true))⟩,
         ⟨some 31, .bin .eql (.t 30) (.k (.sc (.int .i64 0))), (some (29, true))⟩,
         ⟨some 32, .pick (.t 29) (.t 31) (.k (.sc (.bool false))), none⟩,
         ⟨some 33, .mv (.t 32), none⟩,
         ⟨some 34, .mv (.t 6), (some (33, true))⟩,
         ⟨some 35, .bin .eql (.t 34) (.k (.sc (.int .i64 0))), (some (33, true))⟩,
         ⟨some 36, .pick (.t 33) (.t 35) (.k (.sc (.bool false))), none⟩,
         ⟨some 37, .mv (.t 36), none⟩,
         ⟨some 38, .mv (.t 5), (some (37, true))⟩,
         ⟨some 39, .bsl 1 [.int .i64 0] 3 [(0, .k (.sc (.int .i64 4))), (1, .k (.sc (.int .i64 6))), (2, .k (.sc (.int .i64 2)))], (some (37, true))⟩,
         ⟨some 40, .call 10 [(.t 38), (.t 39)], (some (37, true))⟩,
         ⟨some 41, .mv (.t 40), (some (37, true))⟩,
         ⟨some 42, .mv (.t 5), (some (41, false))⟩,
         ⟨some 43, .bsl 1 [.int .i64 0] 3 [(0, .k (.sc (.int .i64 (-4)))), (1, .k (.sc (.int .i64 (-6)))), (2, .k (.sc (.int .i64 (-2))))], (some (41, false))⟩,
         ⟨some 44, .call 10 [(.t 42), (.t 43)], (some (41, false))⟩,
         ⟨some 45, .pick (.t 41) (.k (.sc (.bool true))) (.t 44), (some (37, true))⟩,
         ⟨some 46, .pick (.t 37) (.t 45) (.k (.sc (.bool false))), none⟩,
         ⟨some 0, .mv (.t 46), none⟩] [0])
      (.ret)))))
def a5 : AFun := ⟨0, b5, [.t 0]⟩

def b6L0 : AC :=
  .seq (.reg [⟨some 12, .bin .lss (.t 11) (.t 10), none⟩] [3, 9, 10, 11, 12])
  (.seq (.cond (.t 12)
     (.skip)
     (.exit 0))
   (.seq (.block 1 (.seq (.reg [⟨some 13, .mv (.t 11), none⟩,
         ⟨some 14, .idxA 1 (.t 9) (.t 11), none⟩,
         ⟨some 15, .ld 1 false (.t 14), none⟩,
         ⟨some 4, .mv (.t 13), none⟩,
         ⟨some 5, .mv (.t 15), none⟩] [3, 4, 5, 9, 10, 11])
      (.reg [⟨some 16, .mv (.t 3), none⟩,
         ⟨some 17, .mv (.t 4), none⟩,
         ⟨some 18, .mv (.t 5), none⟩,
         ⟨some 19, .call 15 [(.t 18)], none⟩,
         ⟨some 20, .idxA 1 (.t 16) (.t 17), none⟩,
         ⟨none, .st 1 (.t 20) (.t 19), none⟩] [3, 9, 10, 11])))
    (.reg [⟨some 21, .bin .add (.t 11) (.k (.sc (.int .i64 1))), none⟩,
       ⟨some 11, .mv (.t 21), none⟩] [3, 9, 10, 11])))
/-- unravel/dowker.Format -/
def b6 : AC :=
  .seq (.reg [⟨some 2, .mv (.k (.sc (.str ⟨#[]⟩))), none⟩] [0])
  (.seq (.reg [⟨some 6, .mv (.t 0), none⟩,
      ⟨some 7, .len false (.t 6), none⟩,
      ⟨some 8, .mk 1 16 [.str ByteArray.empty] (.t 7) (.t 7), none⟩,
      ⟨some 3, .mv (.t 8), none⟩] [0, 3])
   (.seq (.seq (.reg [⟨some 9, .mv (.t 0), none⟩,
        ⟨some 10, .len false (.t 9), none⟩,
        ⟨some 11, .mv (.k (.sc (.int .i64 0))), none⟩] [3, 9, 10, 11])
     (.block 0 (.loop [3, 9, 10, 11] b6L0)))
    (.seq (.reg [⟨some 22, .mv (.t 3), none⟩,
        ⟨some 23, .call 16 [(.t 22), (.k (.sc (.str ⟨#[32]⟩)))], none⟩,
        ⟨some 2, .mv (.t 23), none⟩] [2])
     (.ret))))
def a6 : AFun := ⟨1, b6, [.t 2]⟩

def b7L0 : AC :=
  .seq (.reg [⟨some 16, .bin .lss (.t 15) (.t 14), none⟩] [0, 4, 13, 14, 15, 16])
  (.seq (.cond (.t 16)
     (.skip)
     (.exit 0))
   (.seq (.block 1 (.seq (.reg [⟨some 17, .idxA 1 (.t 13) (.t 15), none⟩,
         ⟨some 18, .ld 1 false (.t 17), none⟩,
         ⟨some 6, .mv (.t 18), none⟩] [0, 4, 6, 13, 14, 15])
      (.seq (.reg [⟨some 20, .mv (.t 6), none⟩,
          ⟨some 21, .call 18 [(.t 20)], none⟩,
          ⟨some 19, .mv (.t 21), none⟩,
          ⟨some 22, .ext (.t 19) 0, none⟩,
          ⟨some 23, .ext (.t 19) 1, none⟩,
          ⟨some 7, .mv (.t 22), none⟩,
          ⟨some 8, .mv (.t 23), none⟩] [0, 4, 7, 8, 13, 14, 15])
       (.seq (.seq (.reg [⟨some 24, .mv (.t 8), none⟩,
            ⟨some 25, .isnil 3 true (.t 24), none⟩] [0, 4, 7, 13, 14, 15, 25])
         (.cond (.t 25)
           (.seq (.reg [⟨some 2, .mv (.k (.sc .nilS)), none⟩,
               ⟨some 3, .mv (.k (.sc (.int .i64 3))), none⟩] [2, 3])
            (.ret))
           (.skip)))
        (.reg [⟨some 26, .mv (.t 4), none⟩,
           ⟨some 27, .mv (.t 7), none⟩,
           ⟨some 28, .bsl 1 [.int .i64 0] 1 [(0, .t 27)], none⟩,
           ⟨some 29, .app 1 8 [.int .i64 0] (.t 26) (.t 28), none⟩,
           ⟨some 4, .mv (.t 29), none⟩] [0, 4, 13, 14, 15])))))
    (.reg [⟨some 30, .bin .add (.t 15) (.k (.sc (.int .i64 1))), none⟩,
       ⟨some 15, .mv (.t 30), none⟩] [0, 4, 13, 14, 15])))
/-- unravel/dowker.Parse -/
def b7 : AC :=
  .seq (.reg [⟨some 2, .mv (.k (.sc .nilS)), none⟩,
     ⟨some 3, .mv (.k (.sc (.int .i64 0))), none⟩] [0])
  (.seq (.seq (.reg [⟨some 9, .mv (.t 0), none⟩,
       ⟨some 10, .len true (.t 9), none⟩,
       ⟨some 11, .bin .gtr (.t 10) (.k (.sc (.int .i64 65536))), none⟩] [0, 11])
    (.cond (.t 11)
      (.seq (.reg [⟨some 2, .mv (.k (.sc .nilS)), none⟩,
          ⟨some 3, .mv (.k (.sc (.int .i64 5))), none⟩] [2, 3])
       (.ret))
      (.skip)))
   (.seq (.reg [⟨some 4, .mv (.k (.sc .nilS)), none⟩] [0, 4])
    (.seq (.seq (.reg [⟨some 12, .mv (.t 0), none⟩,
         ⟨some 13, .call 17 [(.t 12)], none⟩,
         ⟨some 14, .len false (.t 13), none⟩,
         ⟨some 15, .mv (.k (.sc (.int .i64 0))), none⟩] [0, 4, 13, 14, 15])
      (.block 0 (.loop [0, 4, 13, 14, 15] b7L0)))
     (.seq (.seq (.reg [⟨some 31, .mv (.t 4), none⟩,
          ⟨some 32, .call 19 [(.t 31)], none⟩,
          ⟨some 33, .un .not (.t 32), none⟩,
          ⟨some 34, .mv (.t 33), none⟩,
          ⟨some 35, .mv (.t 4), (some (34, false))⟩,
          ⟨some 36, .call 6 [(.t 35)], (some (34, false))⟩,
          ⟨some 37, .mv (.t 0), (some (34, false))⟩,
          ⟨some 38, .bin .neq (.t 36) (.t 37), (some (34, false))⟩,
          ⟨some 39, .pick (.t 34) (.k (.sc (.bool true))) (.t 38), none⟩] [4, 39])
       (.cond (.t 39)
         (.seq (.reg [⟨some 2, .mv (.k (.sc .nilS)), none⟩,
             ⟨some 3, .mv (.k (.sc (.int .i64 3))), none⟩] [2, 3])
          (.ret))
         (.skip)))
      (.seq (.reg [⟨some 40, .mv (.t 4), none⟩,
          ⟨some 2, .mv (.t 40), none⟩,
          ⟨some 3, .mv (.k (.sc (.int .i64 0))), none⟩] [2, 3])
       (.ret))))))
def a7 : AFun := ⟨1, b7, [.t 2, .t 3]⟩

def b8L0 : AC :=
  .seq (.seq (.reg [⟨some 5, .mv (.t 4), none⟩,
      ⟨some 6, .mv (.t 0), none⟩,
      ⟨some 7, .len false (.t 6), none⟩,
      ⟨some 8, .bin .lss (.t 5) (.t 7), none⟩] [0, 3, 4, 8])
   (.cond (.t 8)
     (.skip)
     (.exit 0)))
  (.seq (.block 1 (.seq (.seq (.reg [⟨some 11, .mv (.t 4), none⟩,
         ⟨some 12, .bin .gtr (.t 11) (.k (.sc (.int .i64 0))), none⟩] [0, 3, 4, 12])
      (.cond (.t 12)
        (.reg [⟨some 13, .mv (.t 3), none⟩,
           ⟨some 14, .bin .add (.t 13) (.k (.sc (.str ⟨#[32]⟩))), none⟩,
           ⟨some 3, .mv (.t 14), none⟩] [0, 3, 4])
        (.skip)))
     (.reg [⟨some 15, .mv (.t 3), none⟩,
        ⟨some 16, .mv (.t 0), none⟩,
        ⟨some 17, .mv (.t 4), none⟩,
        ⟨some 18, .idxA 1 (.t 16) (.t 17), none⟩,
        ⟨some 19, .ld 1 false (.t 18), none⟩,
        ⟨some 20, .call 20 [(.t 19)], none⟩,
        ⟨some 21, .bin .add (.t 15) (.t 20), none⟩,
        ⟨some 3, .mv (.t 21), none⟩] [0, 3, 4])))
   (.reg [⟨some 9, .mv (.t 4), none⟩,
      ⟨some 10, .bin .add (.t 9) (.k (.sc (.int .i64 1))), none⟩,
      ⟨some 4, .mv (.t 10), none⟩] [0, 3, 4]))
/-- unravel/unravelref04.Format -/
def b8 : AC :=
  .seq (.reg [⟨some 2, .mv (.k (.sc (.str ⟨#[]⟩))), none⟩] [0])
  (.seq (.reg [⟨some 3, .mv (.k (.sc (.str ⟨#[]⟩))), none⟩] [0, 3])
   (.seq (.seq (.reg [⟨some 4, .mv (.k (.sc (.int .i64 0))), none⟩] [0, 3, 4])
     (.block 0 (.loop [0, 3, 4] b8L0)))
    (.seq (.reg [⟨some 22, .mv (.t 3), none⟩,
        ⟨some 2, .mv (.t 22), none⟩] [2])
     (.ret))))
def a8 : AFun := ⟨1, b8, [.t 2]⟩

def b9L1 : AC :=
  .seq (.seq (.reg [⟨some 21, .mv (.t 6), none⟩,
      ⟨some 22, .mv (.t 3), none⟩,
      ⟨some 23, .bin .lss (.t 21) (.t 22), none⟩] [0, 3, 4, 5, 6, 23])
   (.cond (.t 23)
     (.skip)
     (.exit 2)))
  (.seq (.block 3 (.seq (.reg [⟨some 26, .mv (.t 0), none⟩,
        ⟨some 27, .mv (.t 6), none⟩,
        ⟨some 28, .idxA 1 (.t 26) (.t 27), none⟩,
        ⟨some 29, .ld 1 false (.t 28), none⟩,
        ⟨some 30, .mv (.t 4), none⟩,
        ⟨some 31, .bin .eql (.t 29) (.t 30), none⟩,
        ⟨some 32, .mv (.t 31), none⟩,
        ⟨some 33, .mv (.t 0), (some (32, false))⟩,
        ⟨some 34, .mv (.t 6), (some (32, false))⟩,
        ⟨some 35, .idxA 1 (.t 33) (.t 34), (some (32, false))⟩,
        ⟨some 36, .ld 1 false (.t 35), (some (32, false))⟩,
        ⟨some 37, .mv (.t 4), (some (32, false))⟩,
        ⟨some 38, .un .neg (.t 37), (some (32, false))⟩,
        ⟨some 39, .bin .eql (.t 36) (.t 38), (some (32, false))⟩,
        ⟨some 40, .pick (.t 32) (.k (.sc (.bool true))) (.t 39), none⟩] [0, 3, 4, 5, 6, 40])
     (.cond (.t 40)
       (.reg [⟨some 41, .mv (.t 5), none⟩,
          ⟨some 42, .bin .add (.t 41) (.k (.sc (.int .i64 1))), none⟩,
          ⟨some 5, .mv (.t 42), none⟩] [0, 3, 4, 5, 6])
       (.skip))))
   (.reg [⟨some 24, .mv (.t 6), none⟩,
      ⟨some 25, .bin .add (.t 24) (.k (.sc (.int .i64 1))), none⟩,
      ⟨some 6, .mv (.t 25), none⟩] [0, 3, 4, 5, 6]))
def b9L0 : AC :=
  .seq (.seq (.reg [⟨some 15, .mv (.t 4), none⟩,
      ⟨some 16, .mv (.t 3), none⟩,
      ⟨some 17, .bin .mul (.k (.sc (.int .i64 2))) (.t 16), none⟩,
      ⟨some 18, .bin .leq (.t 15) (.t 17), none⟩] [0, 3, 4, 18])
   (.cond (.t 18)
     (.skip)
     (.exit 0)))
  (.seq (.block 1 (.seq (.reg [⟨some 5, .mv (.k (.sc (.int .i64 0))), none⟩] [0, 3, 4, 5])
     (.seq (.seq (.reg [⟨some 6, .mv (.k (.sc (.int .i64 0))), none⟩] [0, 3, 4, 5, 6])
       (.block 2 (.loop [0, 3, 4, 5, 6] b9L1)))
      (.seq (.reg [⟨some 43, .mv (.t 5), none⟩,
          ⟨some 44, .bin .neq (.t 43) (.k (.sc (.int .i64 1))), none⟩] [0, 3, 4, 44])
       (.cond (.t 44)
         (.seq (.reg [⟨some 2, .mv (.k (.sc (.bool false))), none⟩] [2])
          (.ret))
         (.skip))))))
   (.reg [⟨some 19, .mv (.t 4), none⟩,
      ⟨some 20, .bin .add (.t 19) (.k (.sc (.int .i64 2))), none⟩,
      ⟨some 4, .mv (.t 20), none⟩] [0, 3, 4]))
/-- unravel/unravelref04.Valid -/
def b9 : AC :=
  .seq (.reg [⟨some 2, .mv (.k (.sc (.bool false))), none⟩] [0])
  (.seq (.reg [⟨some 7, .mv (.t 0), none⟩,
      ⟨some 8, .len false (.t 7), none⟩,
      ⟨some 3, .mv (.t 8), none⟩] [0, 3])
   (.seq (.seq (.reg [⟨some 9, .mv (.t 3), none⟩,
        ⟨some 10, .bin .lss (.t 9) (.k (.sc (.int .i64 1))), none⟩,
        ⟨some 11, .mv (.t 10), none⟩,
        ⟨some 12, .mv (.t 3), (some (11, false))⟩,
        ⟨some 13, .bin .gtr (.t 12) (.k (.sc (.int .i64 64))), (some (11, false))⟩,
        ⟨some 14, .pick (.t 11) (.k (.sc (.bool true))) (.t 13), none⟩] [0, 3, 14])
     (.cond (.t 14)
       (.seq (.reg [⟨some 2, .mv (.k (.sc (.bool false))), none⟩] [2])
        (.ret))
       (.skip)))
    (.seq (.seq (.reg [⟨some 4, .mv (.k (.sc (.int .i64 2))), none⟩] [0, 3, 4])
      (.block 0 (.loop [0, 3, 4] b9L0)))
     (.seq (.reg [⟨some 2, .mv (.k (.sc (.bool true))), none⟩] [2])
      (.ret)))))
def a9 : AFun := ⟨1, b9, [.t 2]⟩

def b10L0 : AC :=
  .seq (.seq (.reg [⟨some 11, .mv (.t 5), none⟩,
      ⟨some 12, .mv (.t 0), none⟩,
      ⟨some 13, .len false (.t 12), none⟩,
      ⟨some 14, .bin .lss (.t 11) (.t 13), none⟩] [0, 1, 5, 14])
   (.cond (.t 14)
     (.skip)
     (.exit 0)))
  (.seq (.block 1 (.seq (.regd [(⟨some 17, .mv (.t 0), none⟩, 0, false),
        (⟨some 18, .mv (.t 5), none⟩, 1, false),
        (⟨some 19, .idxA 1 (.t 17) (.t 18), none⟩, 2, false),
        (⟨some 20, .ld 1 false (.t 19), none⟩, 3, false),
        (⟨some 21, .mv (.t 1), none⟩, 4, false),
        (⟨some 22, .mv (.t 5), none⟩, 5, false),
        (⟨some 23, .idxA 1 (.t 21) (.t 22), none⟩, 6, false),
        (⟨some 24, .ld 1 false (.t 23), none⟩, 7, false),
        (⟨some 25, .bin .neq (.t 20) (.t 24), none⟩, 8, false)] [0, 1, 5, 25])
     (.cond (.t 25)
       (.seq (.reg [⟨some 4, .mv (.k (.sc (.bool false))), none⟩] [4])
        (.ret))
       (.skip))))
   (.reg [⟨some 15, .mv (.t 5), none⟩,
      ⟨some 16, .bin .add (.t 15) (.k (.sc (.int .i64 1))), none⟩,
      ⟨some 5, .mv (.t 16), none⟩] [0, 1, 5]))
/-- unravel/unravelref01.Ints -/
def b10 : AC :=
  .seq (.reg [⟨some 4, .mv (.k (.sc (.bool false))), none⟩] [0, 1])
  (.seq (.seq (.reg [⟨some 6, .mv (.t 0), none⟩,
       ⟨some 7, .len false (.t 6), none⟩,
       ⟨some 8, .mv (.t 1), none⟩,
       ⟨some 9, .len false (.t 8), none⟩,
       ⟨some 10, .bin .neq (.t 7) (.t 9), none⟩] [0, 1, 10])
    (.cond (.t 10)
      (.seq (.reg [⟨some 4, .mv (.k (.sc (.bool false))), none⟩] [4])
       (.ret))
      (.skip)))
   (.seq (.seq (.reg [⟨some 5, .mv (.k (.sc (.int .i64 0))), none⟩] [0, 1, 5])
     (.block 0 (.loop [0, 1, 5] b10L0)))
    (.seq (.reg [⟨some 4, .mv (.k (.sc (.bool true))), none⟩] [4])
     (.ret))))
def a10 : AFun := ⟨2, b10, [.t 4]⟩

def b11L0 : AC :=
  .seq (.seq (.reg [⟨some 9, .mv (.t 8), none⟩,
      ⟨some 10, .mv (.t 0), none⟩,
      ⟨some 11, .len true (.t 10), none⟩,
      ⟨some 12, .bin .leq (.t 9) (.t 11), none⟩] [0, 4, 5, 6, 7, 8, 12])
   (.cond (.t 12)
     (.skip)
     (.exit 0)))
  (.seq (.block 1 (.seq (.seq (.reg [⟨some 15, .mv (.t 8), none⟩,
         ⟨some 16, .mv (.t 0), none⟩,
         ⟨some 17, .len true (.t 16), none⟩,
         ⟨some 18, .bin .eql (.t 15) (.t 17), none⟩,
         ⟨some 19, .mv (.t 18), none⟩,
         ⟨some 20, .mv (.t 0), (some (19, false))⟩,
         ⟨some 21, .mv (.t 8), (some (19, false))⟩,
         ⟨some 22, .idxS (.t 20) (.t 21), (some (19, false))⟩,
         ⟨some 23, .bin .eql (.t 22) (.k (.sc (.int .u8 32))), (some (19, false))⟩,
         ⟨some 24, .pick (.t 19) (.k (.sc (.bool true))) (.t 23), none⟩] [0, 4, 5, 6, 7, 8, 24])
      (.cond (.t 24)
        (.seq (.seq (.reg [⟨some 25, .mv (.t 7), none⟩,
             ⟨some 26, .bin .eql (.t 25) (.k (.sc (.int .i64 0))), none⟩] [0, 4, 5, 6, 8, 26])
          (.cond (.t 26)
            (.seq (.reg [⟨some 2, .mv (.k (.sc .nilS)), none⟩,
                ⟨some 3, .mv (.k (.sc (.bool false))), none⟩] [2, 3])
             (.ret))
            (.skip)))
         (.seq (.reg [⟨some 27, .mv (.t 4), none⟩,
             ⟨some 28, .mv (.t 6), none⟩,
             ⟨some 29, .mv (.t 5), none⟩,
             ⟨some 30, .bin .mul (.t 28) (.t 29), none⟩,
             ⟨some 31, .bsl 1 [.int .i64 0] 1 [(0, .t 30)], none⟩,
             ⟨some 32, .app 1 8 [.int .i64 0] (.t 27) (.t 31), none⟩,
             ⟨some 4, .mv (.t 32), none⟩] [0, 4, 8])
          (.seq (.reg [⟨some 5, .mv (.k (.sc (.int .i64 0))), none⟩,
              ⟨some 6, .mv (.k (.sc (.int .i64 1))), none⟩,
              ⟨some 7, .mv (.k (.sc (.int .i64 0))), none⟩] [0, 4, 5, 6, 7, 8])
           (.exit 1))))
        (.skip)))
     (.seq (.seq (.reg [⟨some 33, .mv (.t 0), none⟩,
          ⟨some 34, .mv (.t 8), none⟩,
          ⟨some 35, .idxS (.t 33) (.t 34), none⟩,
          ⟨some 36, .bin .eql (.t 35) (.k (.sc (.int .u8 45))), none⟩,
          ⟨some 37, .mv (.t 36), none⟩,
          ⟨some 38, .mv (.t 7), (some (37, true))⟩,
          ⟨some 39, .bin .eql (.t 38) (.k (.sc (.int .i64 0))), (some (37, true))⟩,
          ⟨some 40, .pick (.t 37) (.t 39) (.k (.sc (.bool false))), none⟩,
          ⟨some 41, .mv (.t 40), none⟩,
          ⟨some 42, .mv (.t 6), (some (41, true))⟩,
          ⟨some 43, .bin .eql (.t 42) (.k (.sc (.int .i64 1))), (some (41, true))⟩,
          ⟨some 44, .pick (.t 41) (.t 43) (.k (.sc (.bool false))), none⟩] [0, 4, 5, 6, 7, 8, 44])
       (.cond (.t 44)
         (.seq (.reg [⟨some 6, .mv (.k (.sc (.int .i64 (-1)))), none⟩] [0, 4, 5, 6, 7, 8])
          (.exit 1))
         (.skip)))
      (.seq (.seq (.reg [⟨some 45, .mv (.t 0), none⟩,
           ⟨some 46, .mv (.t 8), none⟩,
           ⟨some 47, .idxS (.t 45) (.t 46), none⟩,
           ⟨some 48, .bin .lss (.t 47) (.k (.sc (.int .u8 48))), none⟩,
           ⟨some 49, .mv (.t 48), none⟩,
           ⟨some 50, .mv (.t 0), (some (49, false))⟩,
           ⟨some 51, .mv (.t 8), (some (49, false))⟩,
           ⟨some 52, .idxS (.t 50) (.t 51), (some (49, false))⟩,
           ⟨some 53, .bin .gtr (.t 52) (.k (.sc (.int .u8 57))), (some (49, false))⟩,
           ⟨some 54, .pick (.t 49) (.k (.sc (.bool true))) (.t 53), none⟩,
           ⟨some 55, .mv (.t 54), none⟩,
           ⟨some 56, .mv (.t 7), (some (55, false))⟩,
           ⟨some 57, .bin .gtr (.t 56) (.k (.sc (.int .i64 3))), (some (55, false))⟩,
           ⟨some 58, .pick (.t 55) (.k (.sc (.bool true))) (.t 57), none⟩] [0, 4, 5, 6, 7, 8, 58])
        (.cond (.t 58)
          (.seq (.reg [⟨some 2, .mv (.k (.sc .nilS)), none⟩,
              ⟨some 3, .mv (.k (.sc (.bool false))), none⟩] [2, 3])
           (.ret))
          (.skip)))
       (.seq (.reg [⟨some 59, .mv (.t 5), none⟩,
           ⟨some 60, .bin .mul (.k (.sc (.int .i64 10))) (.t 59), none⟩,
           ⟨some 61, .mv (.t 0), none⟩,
           ⟨some 62, .mv (.t 8), none⟩,
           ⟨some 63, .idxS (.t 61) (.t 62), none⟩,
           ⟨some 64, .bin .sub (.t 63) (.k (.sc (.int .u8 48))), none⟩,
           ⟨some 65, .conv .i64 (.t 64), none⟩,
           ⟨some 66, .bin .add (.t 60) (.t 65), none⟩,
           ⟨some 5, .mv (.t 66), none⟩] [0, 4, 5, 6, 7, 8])
        (.reg [⟨some 67, .mv (.t 7), none⟩,
           ⟨some 68, .bin .add (.t 67) (.k (.sc (.int .i64 1))), none⟩,
           ⟨some 7, .mv (.t 68), none⟩] [0, 4, 5, 6, 7, 8]))))))
   (.reg [⟨some 13, .mv (.t 8), none⟩,
      ⟨some 14, .bin .add (.t 13) (.k (.sc (.int .i64 1))), none⟩,
      ⟨some 8, .mv (.t 14), none⟩] [0, 4, 5, 6, 7, 8]))
/-- unravel/unravelref04.Read -/
def b11 : AC :=
  .seq (.reg [⟨some 2, .mv (.k (.sc .nilS)), none⟩,
     ⟨some 3, .mv (.k (.sc (.bool false))), none⟩] [0])
  (.seq (.reg [⟨some 4, .mv (.k (.sc .nilS)), none⟩] [0, 4])
   (.seq (.reg [⟨some 5, .mv (.k (.sc (.int .i64 0))), none⟩,
       ⟨some 6, .mv (.k (.sc (.int .i64 1))), none⟩,
       ⟨some 7, .mv (.k (.sc (.int .i64 0))), none⟩] [0, 4, 5, 6, 7])
    (.seq (.seq (.reg [⟨some 8, .mv (.k (.sc (.int .i64 0))), none⟩] [0, 4, 5, 6, 7, 8])
      (.block 0 (.loop [0, 4, 5, 6, 7, 8] b11L0)))
     (.seq (.reg [⟨some 69, .mv (.t 4), none⟩,
         ⟨some 70, .mv (.t 4), none⟩,
         ⟨some 71, .call 9 [(.t 70)], none⟩,
         ⟨some 72, .mv (.t 71), none⟩,
         ⟨some 73, .mv (.t 4), (some (72, true))⟩,
         ⟨some 74, .call 8 [(.t 73)], (some (72, true))⟩,
         ⟨some 75, .mv (.t 0), (some (72, true))⟩,
         ⟨some 76, .bin .eql (.t 74) (.t 75), (some (72, true))⟩,
         ⟨some 77, .pick (.t 72) (.t 76) (.k (.sc (.bool false))), none⟩,
         ⟨some 2, .mv (.t 69), none⟩,
         ⟨some 3, .mv (.t 77), none⟩] [2, 3])
      (.ret)))))
def a11 : AFun := ⟨1, b11, [.t 2, .t 3]⟩

/-- unravel/dowker.Signs -/
def b12 : AC :=
  .seq (.reg [⟨some 1, .box (.t 0), none⟩,
     ⟨some 2, .mv (.k (.sc .nilS)), none⟩,
     ⟨some 3, .mv (.k (.sc (.int .i64 0))), none⟩] [1])
  (.seq (.seq (.reg [⟨some 6, .ld 1 false (.t 1), none⟩,
       ⟨some 7, .call 19 [(.t 6)], none⟩,
       ⟨some 8, .un .not (.t 7), none⟩] [1, 8])
    (.cond (.t 8)
      (.seq (.reg [⟨some 2, .mv (.k (.sc .nilS)), none⟩,
          ⟨some 3, .mv (.k (.sc (.int .i64 3))), none⟩] [2, 3])
       (.ret))
      (.skip)))
   (.seq (.seq (.reg [⟨some 9, .ld 1 false (.t 1), none⟩,
        ⟨some 10, .len false (.t 9), none⟩,
        ⟨some 11, .bin .gtr (.t 10) (.k (.sc (.int .i64 14))), none⟩] [1, 11])
     (.cond (.t 11)
       (.seq (.reg [⟨some 2, .mv (.k (.sc .nilS)), none⟩,
           ⟨some 3, .mv (.k (.sc (.int .i64 5))), none⟩] [2, 3])
        (.ret))
       (.skip)))
    (.seq (.reg [⟨some 12, .ld 1 false (.t 1), none⟩,
        ⟨some 13, .len false (.t 12), none⟩,
        ⟨some 14, .mk 1 8 [.int .i64 0] (.t 13) (.t 13), none⟩,
        ⟨some 4, .new [.nilS], none⟩,
        ⟨none, .st 1 (.t 4) (.t 14), none⟩] [1, 4])
     (.seq (.reg [⟨some 15, .ld 1 false (.t 4), none⟩,
         ⟨some 16, .idxA 1 (.t 15) (.k (.sc (.int .i64 0))), none⟩,
         ⟨none, .st 1 (.t 16) (.k (.sc (.int .i64 1))), none⟩] [1, 4])
      (.seq (.reg [⟨some 5, .new [.nilF], none⟩] [1, 4, 5])
       (.seq (.reg [⟨some 17, .mkf 21 [(.t 4), (.t 1), (.t 5)], none⟩,
           ⟨none, .st 1 (.t 5) (.t 17), none⟩] [4, 5])
        (.seq (.seq (.reg [⟨some 18, .ld 1 false (.t 5), none⟩,
             ⟨some 19, .callv (.t 18) [(.k (.sc (.int .i64 1)))], none⟩,
             ⟨some 20, .un .not (.t 19), none⟩] [4, 20])
          (.cond (.t 20)
            (.seq (.reg [⟨some 2, .mv (.k (.sc .nilS)), none⟩,
                ⟨some 3, .mv (.k (.sc (.int .i64 7))), none⟩] [2, 3])
             (.ret))
            (.skip)))
         (.seq (.reg [⟨some 21, .ld 1 false (.t 4), none⟩,
             ⟨some 2, .mv (.t 21), none⟩,
             ⟨some 3, .mv (.k (.sc (.int .i64 0))), none⟩] [2, 3])
          (.ret)))))))))
def a12 : AFun := ⟨1, b12, [.t 2, .t 3]⟩

/-- unravel/dowker.Diagram -/
def b13 : AC :=
  .seq (.reg [⟨some 2, .new [.nilS, .nilS, .int .i64 0], none⟩,
     ⟨some 3, .mv (.k (.sc (.int .i64 0))), none⟩] [0, 2])
  (.seq (.reg [⟨some 7, .mv (.t 0), none⟩,
      ⟨some 8, .call 12 [(.t 7)], none⟩,
      ⟨some 6, .mv (.t 8), none⟩,
      ⟨some 9, .ext (.t 6) 0, none⟩,
      ⟨some 10, .ext (.t 6) 1, none⟩,
      ⟨some 4, .mv (.t 9), none⟩,
      ⟨some 5, .mv (.t 10), none⟩] [0, 2, 4, 5])
   (.seq (.seq (.reg [⟨some 11, .mv (.t 5), none⟩,
        ⟨some 12, .bin .neq (.t 11) (.k (.sc (.int .i64 0))), none⟩] [0, 2, 4, 5, 12])
     (.cond (.t 12)
       (.seq (.reg [⟨some 13, .bld [.nilS, .nilS, .int .i64 0] [], none⟩,
           ⟨some 14, .mv (.t 5), none⟩,
           ⟨none, .st 3 (.t 2) (.t 13), none⟩,
           ⟨some 3, .mv (.t 14), none⟩] [2, 3])
        (.ret))
       (.skip)))
    (.seq (.reg [⟨some 15, .mv (.t 0), none⟩,
        ⟨some 16, .mv (.t 4), none⟩,
        ⟨some 17, .call 23 [(.t 15), (.t 16)], none⟩,
        ⟨none, .st 3 (.t 2) (.t 17), none⟩,
        ⟨some 3, .mv (.k (.sc (.int .i64 0))), none⟩] [2, 3])
     (.ret))))
def a13 : AFun := ⟨1, b13, [.cell 2 3 true, .t 3]⟩

def b14L0 : AC :=
  .seq (.reg [⟨some 36, .bin .lss (.t 35) (.t 34), none⟩] [4, 5, 6, 33, 34, 35, 36])
  (.seq (.cond (.t 36)
     (.skip)
     (.exit 0))
   (.seq (.block 1 (.seq (.reg [⟨some 37, .mv (.t 35), none⟩,
         ⟨some 38, .idxA 1 (.t 33) (.t 35), none⟩,
         ⟨some 39, .ld 1 false (.t 38), none⟩,
         ⟨some 7, .mv (.t 37), none⟩,
         ⟨some 8, .mv (.t 39), none⟩] [4, 5, 6, 7, 8, 33, 34, 35])
      (.seq (.reg [⟨some 40, .mv (.t 7), none⟩,
          ⟨some 41, .bin .add (.t 40) (.k (.sc (.int .i64 1))), none⟩,
          ⟨some 9, .mv (.t 41), none⟩] [4, 5, 6, 8, 9, 33, 34, 35])
       (.seq (.reg [⟨some 42, .mv (.t 9), none⟩,
           ⟨some 43, .bin .rem (.t 42) (.k (.sc (.int .i64 2))), none⟩,
           ⟨some 44, .bin .eql (.t 43) (.k (.sc (.int .i64 0))), none⟩] [4, 5, 6, 8, 9, 33, 34, 35, 44])
        (.cond (.t 44)
          (.seq (.reg [⟨some 45, .mv (.t 6), none⟩,
              ⟨some 46, .mv (.t 8), none⟩,
              ⟨some 47, .bin .quo (.t 46) (.k (.sc (.int .i64 4))), none⟩,
              ⟨some 48, .mv (.t 9), none⟩,
              ⟨some 49, .idxA 1 (.t 45) (.t 47), none⟩,
              ⟨none, .st 1 (.t 49) (.t 48), none⟩] [4, 5, 6, 8, 9, 33, 34, 35])
           (.seq (.reg [⟨some 50, .mv (.t 8), none⟩,
               ⟨some 51, .bin .rem (.t 50) (.k (.sc (.int .i64 2))), none⟩,
               ⟨some 52, .bin .eql (.t 51) (.k (.sc (.int .i64 1))), none⟩] [4, 5, 6, 8, 9, 33, 34, 35, 52])
            (.cond (.t 52)
              (.reg [⟨some 53, .mv (.t 6), none⟩,
                 ⟨some 54, .mv (.t 8), none⟩,
                 ⟨some 55, .bin .quo (.t 54) (.k (.sc (.int .i64 4))), none⟩,
                 ⟨some 56, .mv (.t 9), none⟩,
                 ⟨some 57, .un .neg (.t 56), none⟩,
                 ⟨some 58, .idxA 1 (.t 53) (.t 55), none⟩,
                 ⟨none, .st 1 (.t 58) (.t 57), none⟩] [4, 5, 6, 33, 34, 35])
              (.skip))))
          (.skip))))))
    (.reg [⟨some 59, .bin .add (.t 35) (.k (.sc (.int .i64 1))), none⟩,
       ⟨some 35, .mv (.t 59), none⟩] [4, 5, 6, 33, 34, 35])))
def b14L1 : AC :=
  .seq (.reg [⟨some 67, .bin .lss (.t 66) (.t 65), none⟩] [6, 10, 64, 65, 66, 67])
  (.seq (.cond (.t 67)
     (.skip)
     (.exit 2))
   (.seq (.block 3 (.seq (.reg [⟨some 68, .mv (.t 66), none⟩,
         ⟨some 69, .idxA 1 (.t 64) (.t 66), none⟩,
         ⟨some 70, .ld 1 false (.t 69), none⟩,
         ⟨some 11, .mv (.t 68), none⟩,
         ⟨some 12, .mv (.t 70), none⟩] [6, 10, 11, 12, 64, 65, 66])
      (.seq (.reg [⟨some 71, .mv (.t 11), none⟩,
          ⟨some 72, .bin .rem (.t 71) (.k (.sc (.int .i64 2))), none⟩,
          ⟨some 73, .bin .eql (.t 72) (.k (.sc (.int .i64 0))), none⟩] [6, 10, 12, 64, 65, 66, 73])
       (.cond (.t 73)
         (.reg [⟨some 74, .mv (.t 10), none⟩,
            ⟨some 75, .mv (.t 6), none⟩,
            ⟨some 76, .mv (.t 12), none⟩,
            ⟨some 77, .bin .quo (.t 76) (.k (.sc (.int .i64 4))), none⟩,
            ⟨some 78, .idxA 1 (.t 75) (.t 77), none⟩,
            ⟨some 79, .ld 1 false (.t 78), none⟩,
            ⟨some 80, .bsl 1 [.int .i64 0] 1 [(0, .t 79)], none⟩,
            ⟨some 81, .app 1 8 [.int .i64 0] (.t 74) (.t 80), none⟩,
            ⟨some 10, .mv (.t 81), none⟩] [6, 10, 64, 65, 66])
         (.skip)))))
    (.reg [⟨some 82, .bin .add (.t 66) (.k (.sc (.int .i64 1))), none⟩,
       ⟨some 66, .mv (.t 82), none⟩] [6, 10, 64, 65, 66])))
/-- unravel/dowker.Of -/
def b14 : AC :=
  .seq (.reg [⟨some 1, .box (.t 0), none⟩,
     ⟨some 2, .mv (.k (.sc .nilS)), none⟩,
     ⟨some 3, .mv (.k (.sc (.int .i64 0))), none⟩] [1])
  (.seq (.seq (.reg [⟨some 13, .ld 3 true (.t 1), none⟩,
       ⟨some 14, .call 22 [(.t 13)], none⟩,
       ⟨some 15, .un .not (.t 14), none⟩] [1, 15])
    (.cond (.t 15)
      (.seq (.reg [⟨some 2, .mv (.k (.sc .nilS)), none⟩,
          ⟨some 3, .mv (.k (.sc (.int .i64 1))), none⟩] [2, 3])
       (.ret))
      (.skip)))
   (.seq (.reg [⟨some 16, .fldA 0 (.t 1), none⟩,
       ⟨some 17, .ld 1 false (.t 16), none⟩,
       ⟨some 18, .len false (.t 17), none⟩,
       ⟨some 4, .mv (.t 18), none⟩] [1, 4])
    (.seq (.seq (.reg [⟨some 19, .mv (.t 4), none⟩,
         ⟨some 20, .bin .eql (.t 19) (.k (.sc (.int .i64 0))), none⟩] [1, 4, 20])
      (.cond (.t 20)
        (.seq (.reg [⟨some 2, .mv (.k (.sc .nilS)), none⟩,
            ⟨some 3, .mv (.k (.sc (.int .i64 8))), none⟩] [2, 3])
         (.ret))
        (.skip)))
     (.seq (.reg [⟨some 21, .ld 3 true (.t 1), none⟩,
         ⟨some 22, .call 24 [(.t 21)], none⟩,
         ⟨some 5, .mv (.t 22), none⟩] [1, 4, 5])
      (.seq (.seq (.reg [⟨some 23, .mv (.t 5), none⟩,
           ⟨some 24, .len false (.t 23), none⟩,
           ⟨some 25, .fldA 2 (.t 1), none⟩,
           ⟨some 26, .ld 1 false (.t 25), none⟩,
           ⟨some 27, .bin .add (.t 24) (.t 26), none⟩,
           ⟨some 28, .bin .gtr (.t 27) (.k (.sc (.int .i64 1))), none⟩] [4, 5, 28])
        (.cond (.t 28)
          (.seq (.reg [⟨some 2, .mv (.k (.sc .nilS)), none⟩,
              ⟨some 3, .mv (.k (.sc (.int .i64 16))), none⟩] [2, 3])
           (.ret))
          (.skip)))
       (.seq (.reg [⟨some 29, .mv (.t 4), none⟩,
           ⟨some 30, .mk 1 8 [.int .i64 0] (.t 29) (.t 29), none⟩,
           ⟨some 6, .mv (.t 30), none⟩] [4, 5, 6])
        (.seq (.seq (.reg [⟨some 31, .mv (.t 5), none⟩,
             ⟨some 32, .idxA 1 (.t 31) (.k (.sc (.int .i64 0))), none⟩,
             ⟨some 33, .ld 1 false (.t 32), none⟩,
             ⟨some 34, .len false (.t 33), none⟩,
             ⟨some 35, .mv (.k (.sc (.int .i64 0))), none⟩] [4, 5, 6, 33, 34, 35])
          (.block 0 (.loop [4, 5, 6, 33, 34, 35] b14L0)))
         (.seq (.reg [⟨some 60, .mv (.t 4), none⟩,
             ⟨some 61, .mk 1 8 [.int .i64 0] (.k (.sc (.int .i64 0))) (.t 60), none⟩,
             ⟨some 10, .mv (.t 61), none⟩] [5, 6, 10])
          (.seq (.seq (.reg [⟨some 62, .mv (.t 5), none⟩,
               ⟨some 63, .idxA 1 (.t 62) (.k (.sc (.int .i64 0))), none⟩,
               ⟨some 64, .ld 1 false (.t 63), none⟩,
               ⟨some 65, .len false (.t 64), none⟩,
               ⟨some 66, .mv (.k (.sc (.int .i64 0))), none⟩] [6, 10, 64, 65, 66])
            (.block 2 (.loop [6, 10, 64, 65, 66] b14L1)))
           (.seq (.reg [⟨some 83, .mv (.t 10), none⟩,
               ⟨some 2, .mv (.t 83), none⟩,
               ⟨some 3, .mv (.k (.sc (.int .i64 0))), none⟩] [2, 3])
            (.ret)))))))))))
def a14 : AFun := ⟨1, b14, [.t 2, .t 3]⟩

/-- strconv.Itoa -/
def b15 : AC :=
  .seq (.reg [⟨some 2, .mv (.k (.sc (.str ⟨#[]⟩))), none⟩] [0])
  (.seq (.reg [⟨some 3, .mv (.t 0), none⟩,
      ⟨some 4, .call 25 [(.t 3)], none⟩,
      ⟨some 2, .mv (.t 4), none⟩] [2])
   (.ret))
def a15 : AFun := ⟨1, b15, [.t 2]⟩

def b19L0 : AC :=
  .seq (.reg [⟨some 22, .bin .lss (.t 21) (.t 20), none⟩] [3, 4, 19, 20, 21, 22])
  (.seq (.cond (.t 22)
     (.skip)
     (.exit 0))
   (.seq (.block 1 (.seq (.reg [⟨some 23, .idxA 1 (.t 19) (.t 21), none⟩,
         ⟨some 24, .ld 1 false (.t 23), none⟩,
         ⟨some 6, .mv (.t 24), none⟩] [3, 4, 6, 19, 20, 21])
      (.seq (.seq (.reg [⟨some 25, .mv (.t 6), none⟩,
           ⟨some 26, .mv (.t 3), none⟩,
           ⟨some 27, .bin .mul (.k (.sc (.int .i64 (-2)))) (.t 26), none⟩,
           ⟨some 28, .bin .lss (.t 25) (.t 27), none⟩,
           ⟨some 29, .mv (.t 28), none⟩,
           ⟨some 30, .mv (.t 6), (some (29, false))⟩,
           ⟨some 31, .mv (.t 3), (some (29, false))⟩,
           ⟨some 32, .bin .mul (.k (.sc (.int .i64 2))) (.t 31), (some (29, false))⟩,
           ⟨some 33, .bin .gtr (.t 30) (.t 32), (some (29, false))⟩,
           ⟨some 34, .pick (.t 29) (.k (.sc (.bool true))) (.t 33), none⟩,
           ⟨some 35, .mv (.t 34), none⟩,
           ⟨some 36, .mv (.t 6), (some (35, false))⟩,
           ⟨some 37, .bin .eql (.t 36) (.k (.sc (.int .i64 0))), (some (35, false))⟩,
           ⟨some 38, .pick (.t 35) (.k (.sc (.bool true))) (.t 37), none⟩,
           ⟨some 39, .mv (.t 38), none⟩,
           ⟨some 40, .mv (.t 6), (some (39, false))⟩,
           ⟨some 41, .bin .rem (.t 40) (.k (.sc (.int .i64 2))), (some (39, false))⟩,
           ⟨some 42, .bin .neq (.t 41) (.k (.sc (.int .i64 0))), (some (39, false))⟩,
           ⟨some 43, .pick (.t 39) (.k (.sc (.bool true))) (.t 42), none⟩] [3, 4, 6, 19, 20, 21, 43])
        (.cond (.t 43)
          (.seq (.reg [⟨some 2, .mv (.k (.sc (.bool false))), none⟩] [2])
           (.ret))
          (.skip)))
       (.seq (.reg [⟨some 44, .mv (.t 6), none⟩,
           ⟨some 45, .mv (.t 6), none⟩,
           ⟨some 46, .un .neg (.t 45), none⟩,
           ⟨some 47, .mm true (.t 44) [(.t 46)], none⟩,
           ⟨some 48, .bin .quo (.t 47) (.k (.sc (.int .i64 2))), none⟩,
           ⟨some 7, .mv (.t 48), none⟩] [3, 4, 7, 19, 20, 21])
        (.seq (.seq (.reg [⟨some 49, .mv (.t 4), none⟩,
             ⟨some 50, .mv (.t 7), none⟩,
             ⟨some 51, .idxA 1 (.t 49) (.t 50), none⟩,
             ⟨some 52, .ld 1 false (.t 51), none⟩] [3, 4, 7, 19, 20, 21, 52])
          (.cond (.t 52)
            (.seq (.reg [⟨some 2, .mv (.k (.sc (.bool false))), none⟩] [2])
             (.ret))
            (.skip)))
         (.reg [⟨some 53, .mv (.t 4), none⟩,
            ⟨some 54, .mv (.t 7), none⟩,
            ⟨some 55, .idxA 1 (.t 53) (.t 54), none⟩,
            ⟨none, .st 1 (.t 55) (.k (.sc (.bool true))), none⟩] [3, 4, 19, 20, 21]))))))
    (.reg [⟨some 56, .bin .add (.t 21) (.k (.sc (.int .i64 1))), none⟩,
       ⟨some 21, .mv (.t 56), none⟩] [3, 4, 19, 20, 21])))
/-- unravel/dowker.Valid -/
def b19 : AC :=
  .seq (.reg [⟨some 2, .mv (.k (.sc (.bool false))), none⟩] [0])
  (.seq (.reg [⟨some 8, .mv (.t 0), none⟩,
      ⟨some 9, .len false (.t 8), none⟩,
      ⟨some 3, .mv (.t 9), none⟩] [0, 3])
   (.seq (.seq (.reg [⟨some 10, .mv (.t 3), none⟩,
        ⟨some 11, .bin .eql (.t 10) (.k (.sc (.int .i64 0))), none⟩,
        ⟨some 12, .mv (.t 11), none⟩,
        ⟨some 13, .mv (.t 3), (some (12, false))⟩,
        ⟨some 14, .bin .gtr (.t 13) (.k (.sc (.int .i64 64))), (some (12, false))⟩,
        ⟨some 15, .pick (.t 12) (.k (.sc (.bool true))) (.t 14), none⟩] [0, 3, 15])
     (.cond (.t 15)
       (.seq (.reg [⟨some 2, .mv (.k (.sc (.bool false))), none⟩] [2])
        (.ret))
       (.skip)))
    (.seq (.reg [⟨some 16, .mv (.t 3), none⟩,
        ⟨some 17, .bin .add (.t 16) (.k (.sc (.int .i64 1))), none⟩,
        ⟨some 18, .mk 1 1 [.bool false] (.t 17) (.t 17), none⟩,
        ⟨some 4, .mv (.t 18), none⟩] [0, 3, 4])
     (.seq (.seq (.reg [⟨some 19, .mv (.t 0), none⟩,
          ⟨some 20, .len false (.t 19), none⟩,
          ⟨some 21, .mv (.k (.sc (.int .i64 0))), none⟩] [3, 4, 19, 20, 21])
       (.block 0 (.loop [3, 4, 19, 20, 21] b19L0)))
      (.seq (.reg [⟨some 2, .mv (.k (.sc (.bool true))), none⟩] [2])
       (.ret))))))
def a19 : AFun := ⟨1, b19, [.t 2]⟩

/-- unravel/unravelref04.Decimal -/
def b20 : AC :=
  .seq (.reg [⟨some 2, .mv (.k (.sc (.str ⟨#[]⟩))), none⟩] [0])
  (.seq (.seq (.reg [⟨some 4, .mv (.t 0), none⟩,
       ⟨some 5, .bin .lss (.t 4) (.k (.sc (.int .i64 0))), none⟩] [0, 5])
    (.cond (.t 5)
      (.seq (.reg [⟨some 6, .mv (.t 0), none⟩,
          ⟨some 7, .un .neg (.t 6), none⟩,
          ⟨some 8, .call 20 [(.t 7)], none⟩,
          ⟨some 9, .bin .add (.k (.sc (.str ⟨#[45]⟩))) (.t 8), none⟩,
          ⟨some 2, .mv (.t 9), none⟩] [2])
       (.ret))
      (.skip)))
   (.seq (.reg [⟨some 10, .mv (.t 0), none⟩,
       ⟨some 11, .bin .rem (.t 10) (.k (.sc (.int .i64 10))), none⟩,
       ⟨some 12, .mv (.t 0), none⟩,
       ⟨some 13, .bin .rem (.t 12) (.k (.sc (.int .i64 10))), none⟩,
       ⟨some 14, .bin .add (.t 13) (.k (.sc (.int .i64 1))), none⟩,
       ⟨some 15, .slS (.k (.sc (.str ⟨#[48, 49, 50, 51, 52, 53, 54, 55, 56, 57]⟩))) (some (.t 11)) (some (.t 14)), none⟩,
       ⟨some 3, .mv (.t 15), none⟩] [0, 3])
    (.seq (.seq (.reg [⟨some 16, .mv (.t 0), none⟩,
         ⟨some 17, .bin .lss (.t 16) (.k (.sc (.int .i64 10))), none⟩] [0, 3, 17])
      (.cond (.t 17)
        (.seq (.reg [⟨some 18, .mv (.t 3), none⟩,
            ⟨some 2, .mv (.t 18), none⟩] [2])
         (.ret))
        (.skip)))
     (.seq (.reg [⟨some 19, .mv (.t 0), none⟩,
         ⟨some 20, .bin .quo (.t 19) (.k (.sc (.int .i64 10))), none⟩,
         ⟨some 21, .call 20 [(.t 20)], none⟩,
         ⟨some 22, .mv (.t 3), none⟩,
         ⟨some 23, .bin .add (.t 21) (.t 22), none⟩,
         ⟨some 2, .mv (.t 23), none⟩] [2])
      (.ret)))))
def a20 : AFun := ⟨1, b20, [.t 2]⟩

/-- unravel/dowker.Signs$1 -/
def b21 : AC :=
  .seq (.reg [⟨some 5, .mv (.k (.sc (.bool false))), none⟩] [0, 1, 2, 3])
  (.seq (.seq (.reg [⟨some 6, .mv (.t 0), none⟩,
       ⟨some 7, .ld 1 false (.t 1), none⟩,
       ⟨some 8, .len false (.t 7), none⟩,
       ⟨some 9, .bin .eql (.t 6) (.t 8), none⟩] [0, 1, 2, 3, 9])
    (.cond (.t 9)
      (.seq (.reg [⟨some 10, .ld 1 false (.t 2), none⟩,
          ⟨some 11, .ld 1 false (.t 1), none⟩,
          ⟨some 12, .call 23 [(.t 10), (.t 11)], none⟩,
          ⟨some 13, .call 22 [(.t 12)], none⟩,
          ⟨some 5, .mv (.t 13), none⟩] [5])
       (.ret))
      (.skip)))
   (.seq (.reg [⟨some 14, .ld 1 false (.t 1), none⟩,
       ⟨some 15, .mv (.t 0), none⟩,
       ⟨some 16, .idxA 1 (.t 14) (.t 15), none⟩,
       ⟨none, .st 1 (.t 16) (.k (.sc (.int .i64 1))), none⟩] [0, 1, 3])
    (.seq (.seq (.reg [⟨some 17, .ld 1 false (.t 3), none⟩,
         ⟨some 18, .mv (.t 0), none⟩,
         ⟨some 19, .bin .add (.t 18) (.k (.sc (.int .i64 1))), none⟩,
         ⟨some 20, .callv (.t 17) [(.t 19)], none⟩] [0, 1, 3, 20])
      (.cond (.t 20)
        (.seq (.reg [⟨some 5, .mv (.k (.sc (.bool true))), none⟩] [5])
         (.ret))
        (.skip)))
     (.seq (.reg [⟨some 21, .ld 1 false (.t 1), none⟩,
         ⟨some 22, .mv (.t 0), none⟩,
         ⟨some 23, .idxA 1 (.t 21) (.t 22), none⟩,
         ⟨none, .st 1 (.t 23) (.k (.sc (.int .i64 (-1)))), none⟩] [0, 3])
      (.seq (.reg [⟨some 24, .ld 1 false (.t 3), none⟩,
          ⟨some 25, .mv (.t 0), none⟩,
          ⟨some 26, .bin .add (.t 25) (.k (.sc (.int .i64 1))), none⟩,
          ⟨some 27, .callv (.t 24) [(.t 26)], none⟩,
          ⟨some 5, .mv (.t 27), none⟩] [5])
       (.ret))))))
def a21 : AFun := ⟨4, b21, [.t 5]⟩

def b22L0 : AC :=
  .seq (.reg [⟨some 35, .bin .lss (.t 34) (.t 33), none⟩] [1, 3, 32, 33, 34, 35])
  (.seq (.cond (.t 35)
     (.skip)
     (.exit 0))
   (.seq (.block 1 (.seq (.reg [⟨some 36, .idxA 1 (.t 32) (.t 34), none⟩,
         ⟨some 37, .ld 1 false (.t 36), none⟩,
         ⟨some 5, .mv (.t 37), none⟩] [1, 3, 5, 32, 33, 34])
      (.seq (.reg [⟨some 38, .mv (.t 5), none⟩,
          ⟨some 39, .bin .neq (.t 38) (.k (.sc (.int .i64 1))), none⟩,
          ⟨some 40, .mv (.t 39), none⟩,
          ⟨some 41, .mv (.t 5), (some (40, true))⟩,
          ⟨some 42, .bin .neq (.t 41) (.k (.sc (.int .i64 (-1)))), (some (40, true))⟩,
          ⟨some 43, .pick (.t 40) (.t 42) (.k (.sc (.bool false))), none⟩] [1, 3, 32, 33, 34, 43])
       (.cond (.t 43)
         (.seq (.reg [⟨some 2, .mv (.k (.sc (.bool false))), none⟩] [2])
          (.ret))
         (.skip)))))
    (.reg [⟨some 44, .bin .add (.t 34) (.k (.sc (.int .i64 1))), none⟩,
       ⟨some 34, .mv (.t 44), none⟩] [1, 3, 32, 33, 34])))
def b22L1 : AC :=
  .seq (.reg [⟨some 49, .bin .lss (.t 48) (.t 47), none⟩] [1, 3, 46, 47, 48, 49])
  (.seq (.cond (.t 49)
     (.skip)
     (.exit 2))
   (.seq (.block 3 (.seq (.reg [⟨some 50, .mv (.t 48), none⟩,
         ⟨some 51, .idxA 1 (.t 46) (.t 48), none⟩,
         ⟨some 52, .ld 1 false (.t 51), none⟩,
         ⟨some 6, .mv (.t 50), none⟩,
         ⟨some 7, .mv (.t 52), none⟩] [1, 3, 6, 7, 46, 47, 48])
      (.seq (.seq (.reg [⟨some 53, .mv (.t 7), none⟩,
           ⟨some 54, .bin .lss (.t 53) (.k (.sc (.int .i64 0))), none⟩,
           ⟨some 55, .mv (.t 54), none⟩,
           ⟨some 56, .mv (.t 7), (some (55, false))⟩,
           ⟨some 57, .mv (.t 3), (some (55, false))⟩,
           ⟨some 58, .bin .mul (.k (.sc (.int .i64 4))) (.t 57), (some (55, false))⟩,
           ⟨some 59, .bin .geq (.t 56) (.t 58), (some (55, false))⟩,
           ⟨some 60, .pick (.t 55) (.k (.sc (.bool true))) (.t 59), none⟩,
           ⟨some 61, .mv (.t 60), none⟩,
           ⟨some 62, .mv (.t 7), (some (61, false))⟩,
           ⟨some 63, .mv (.t 6), (some (61, false))⟩,
           ⟨some 64, .bin .eql (.t 62) (.t 63), (some (61, false))⟩,
           ⟨some 65, .pick (.t 61) (.k (.sc (.bool true))) (.t 64), none⟩,
           ⟨some 66, .mv (.t 65), none⟩,
           ⟨some 67, .fldA 1 (.t 1), (some (66, false))⟩,
           ⟨some 68, .ld 1 false (.t 67), (some (66, false))⟩,
           ⟨some 69, .mv (.t 7), (some (66, false))⟩,
           ⟨some 70, .idxA 1 (.t 68) (.t 69), (some (66, false))⟩,
           ⟨some 71, .ld 1 false (.t 70), (some (66, false))⟩,
           ⟨some 72, .mv (.t 6), (some (66, false))⟩,
           ⟨some 73, .bin .neq (.t 71) (.t 72), (some (66, false))⟩,
           ⟨some 74, .pick (.t 66) (.k (.sc (.bool true))) (.t 73), none⟩] [1, 3, 6, 7, 46, 47, 48, 74])
        (.cond (.t 74)
          (.seq (.reg [⟨some 2, .mv (.k (.sc (.bool false))), none⟩] [2])
           (.ret))
          (.skip)))
       (.seq (.regd [(⟨some 75, .ld 3 true (.t 1), none⟩, 0, false),
           (⟨some 76, .mv (.t 6), none⟩, 1, false),
           (⟨some 77, .call 33 [(.t 75), (.t 76)], none⟩, 2, false),
           (⟨some 78, .ld 3 true (.t 1), none⟩, 3, false),
           (⟨some 79, .mv (.t 7), none⟩, 4, false),
           (⟨some 80, .call 33 [(.t 78), (.t 79)], none⟩, 5, true),
           (⟨some 81, .beq false (.t 77) (.t 80), none⟩, 6, false)] [1, 3, 46, 47, 48, 81])
        (.cond (.t 81)
          (.seq (.reg [⟨some 2, .mv (.k (.sc (.bool false))), none⟩] [2])
           (.ret))
          (.skip))))))
    (.reg [⟨some 82, .bin .add (.t 48) (.k (.sc (.int .i64 1))), none⟩,
       ⟨some 48, .mv (.t 82), none⟩] [1, 3, 46, 47, 48])))
/-- unravel/diagram.Valid -/
def b22 : AC :=
  .seq (.reg [⟨some 1, .box (.t 0), none⟩,
     ⟨some 2, .mv (.k (.sc (.bool false))), none⟩] [1])
  (.seq (.reg [⟨some 8, .fldA 0 (.t 1), none⟩,
      ⟨some 9, .ld 1 false (.t 8), none⟩,
      ⟨some 10, .len false (.t 9), none⟩,
      ⟨some 3, .mv (.t 10), none⟩] [1, 3])
   (.seq (.seq (.reg [⟨some 11, .mv (.t 3), none⟩,
        ⟨some 12, .bin .gtr (.t 11) (.k (.sc (.int .i64 64))), none⟩,
        ⟨some 13, .mv (.t 12), none⟩,
        ⟨some 14, .fldA 1 (.t 1), (some (13, false))⟩,
        ⟨some 15, .ld 1 false (.t 14), (some (13, false))⟩,
        ⟨some 16, .len false (.t 15), (some (13, false))⟩,
        ⟨some 17, .mv (.t 3), (some (13, false))⟩,
        ⟨some 18, .bin .mul (.k (.sc (.int .i64 4))) (.t 17), (some (13, false))⟩,
        ⟨some 19, .bin .neq (.t 16) (.t 18), (some (13, false))⟩,
        ⟨some 20, .pick (.t 13) (.k (.sc (.bool true))) (.t 19), none⟩,
        ⟨some 21, .mv (.t 20), none⟩,
        ⟨some 22, .fldA 2 (.t 1), (some (21, false))⟩,
        ⟨some 23, .ld 1 false (.t 22), (some (21, false))⟩,
        ⟨some 24, .bin .lss (.t 23) (.k (.sc (.int .i64 0))), (some (21, false))⟩,
        ⟨some 25, .pick (.t 21) (.k (.sc (.bool true))) (.t 24), none⟩,
        ⟨some 26, .mv (.t 25), none⟩,
        ⟨some 27, .fldA 2 (.t 1), (some (26, false))⟩,
        ⟨some 28, .ld 1 false (.t 27), (some (26, false))⟩,
        ⟨some 29, .bin .gtr (.t 28) (.k (.sc (.int .i64 64))), (some (26, false))⟩,
        ⟨some 30, .pick (.t 26) (.k (.sc (.bool true))) (.t 29), none⟩] [1, 3, 30])
     (.cond (.t 30)
       (.seq (.reg [⟨some 2, .mv (.k (.sc (.bool false))), none⟩] [2])
        (.ret))
       (.skip)))
    (.seq (.seq (.reg [⟨some 31, .fldA 0 (.t 1), none⟩,
         ⟨some 32, .ld 1 false (.t 31), none⟩,
         ⟨some 33, .len false (.t 32), none⟩,
         ⟨some 34, .mv (.k (.sc (.int .i64 0))), none⟩] [1, 3, 32, 33, 34])
      (.block 0 (.loop [1, 3, 32, 33, 34] b22L0)))
     (.seq (.seq (.reg [⟨some 45, .fldA 1 (.t 1), none⟩,
          ⟨some 46, .ld 1 false (.t 45), none⟩,
          ⟨some 47, .len false (.t 46), none⟩,
          ⟨some 48, .mv (.k (.sc (.int .i64 0))), none⟩] [1, 3, 46, 47, 48])
       (.block 2 (.loop [1, 3, 46, 47, 48] b22L1)))
      (.seq (.reg [⟨some 83, .ld 3 true (.t 1), none⟩,
          ⟨some 84, .call 34 [(.t 83)], none⟩,
          ⟨some 2, .mv (.t 84), none⟩] [2])
       (.ret))))))
def a22 : AFun := ⟨1, b22, [.t 2]⟩

def b23L0 : AC :=
  .seq (.reg [⟨some 27, .bin .lss (.t 26) (.t 25), none⟩] [1, 4, 5, 6, 7, 24, 25, 26, 27])
  (.seq (.cond (.t 27)
     (.skip)
     (.exit 0))
   (.seq (.block 1 (.seq (.reg [⟨some 28, .mv (.t 26), none⟩,
         ⟨some 29, .idxA 1 (.t 24) (.t 26), none⟩,
         ⟨some 30, .ld 1 false (.t 29), none⟩,
         ⟨some 8, .mv (.t 28), none⟩,
         ⟨some 9, .mv (.t 30), none⟩] [1, 4, 5, 6, 7, 8, 9, 24, 25, 26])
      (.seq (.reg [⟨some 31, .mv (.t 8), none⟩,
          ⟨some 32, .bin .mul (.k (.sc (.int .i64 2))) (.t 31), none⟩,
          ⟨some 33, .mv (.t 9), none⟩,
          ⟨some 34, .mv (.t 9), none⟩,
          ⟨some 35, .un .neg (.t 34), none⟩,
          ⟨some 36, .mm true (.t 33) [(.t 35)], none⟩,
          ⟨some 37, .bin .sub (.t 36) (.k (.sc (.int .i64 1))), none⟩,
          ⟨some 10, .mv (.t 32), none⟩,
          ⟨some 11, .mv (.t 37), none⟩] [1, 4, 5, 6, 7, 8, 9, 10, 11, 24, 25, 26])
       (.seq (.seq (.reg [⟨some 38, .mv (.t 9), none⟩,
            ⟨some 39, .bin .lss (.t 38) (.k (.sc (.int .i64 0))), none⟩] [1, 4, 5, 6, 7, 8, 10, 11, 24, 25, 26, 39])
         (.cond (.t 39)
           (.reg [⟨some 40, .mv (.t 11), none⟩,
              ⟨some 41, .mv (.t 10), none⟩,
              ⟨some 10, .mv (.t 40), none⟩,
              ⟨some 11, .mv (.t 41), none⟩] [1, 4, 5, 6, 7, 8, 10, 11, 24, 25, 26])
           (.skip)))
        (.seq (.reg [⟨some 42, .mv (.t 6), none⟩,
            ⟨some 43, .mv (.t 11), none⟩,
            ⟨some 44, .mv (.t 7), none⟩,
            ⟨some 45, .mv (.t 11), none⟩,
            ⟨some 46, .mv (.t 8), none⟩,
            ⟨some 47, .bin .mul (.k (.sc (.int .i64 4))) (.t 46), none⟩,
            ⟨some 48, .mv (.t 8), none⟩,
            ⟨some 49, .bin .mul (.k (.sc (.int .i64 4))) (.t 48), none⟩,
            ⟨some 50, .bin .add (.t 49) (.k (.sc (.int .i64 2))), none⟩,
            ⟨some 51, .idxA 1 (.t 42) (.t 43), none⟩,
            ⟨none, .st 1 (.t 51) (.t 47), none⟩,
            ⟨some 52, .idxA 1 (.t 44) (.t 45), none⟩,
            ⟨none, .st 1 (.t 52) (.t 50), none⟩] [1, 4, 5, 6, 7, 8, 10, 24, 25, 26])
         (.seq (.reg [⟨some 53, .mv (.t 6), none⟩,
             ⟨some 54, .mv (.t 10), none⟩,
             ⟨some 55, .mv (.t 7), none⟩,
             ⟨some 56, .mv (.t 10), none⟩,
             ⟨some 57, .mv (.t 8), none⟩,
             ⟨some 58, .bin .mul (.k (.sc (.int .i64 4))) (.t 57), none⟩,
             ⟨some 59, .bin .add (.t 58) (.k (.sc (.int .i64 3))), none⟩,
             ⟨some 60, .mv (.t 8), none⟩,
             ⟨some 61, .bin .mul (.k (.sc (.int .i64 4))) (.t 60), none⟩,
             ⟨some 62, .bin .add (.t 61) (.k (.sc (.int .i64 1))), none⟩,
             ⟨some 63, .idxA 1 (.t 53) (.t 54), none⟩,
             ⟨none, .st 1 (.t 63) (.t 59), none⟩,
             ⟨some 64, .idxA 1 (.t 55) (.t 56), none⟩,
             ⟨none, .st 1 (.t 64) (.t 62), none⟩] [1, 4, 5, 6, 7, 8, 10, 24, 25, 26])
          (.seq (.reg [⟨some 65, .mv (.t 1), none⟩,
              ⟨some 66, .mv (.t 8), none⟩,
              ⟨some 67, .idxA 1 (.t 65) (.t 66), none⟩,
              ⟨some 68, .ld 1 false (.t 67), none⟩,
              ⟨some 69, .bin .eql (.t 68) (.k (.sc (.int .i64 (-1)))), none⟩] [1, 4, 5, 6, 7, 10, 24, 25, 26, 69])
           (.cond (.t 69)
             (.regd [(⟨some 70, .mv (.t 6), none⟩, 0, false),
                (⟨some 71, .mv (.t 10), none⟩, 1, false),
                (⟨some 72, .mv (.t 7), none⟩, 2, false),
                (⟨some 73, .mv (.t 10), none⟩, 3, false),
                (⟨some 74, .mv (.t 7), none⟩, 4, false),
                (⟨some 75, .mv (.t 10), none⟩, 5, false),
                (⟨some 76, .idxA 1 (.t 74) (.t 75), none⟩, 6, false),
                (⟨some 77, .ld 1 false (.t 76), none⟩, 7, false),
                (⟨some 78, .mv (.t 6), none⟩, 8, false),
                (⟨some 79, .mv (.t 10), none⟩, 9, false),
                (⟨some 80, .idxA 1 (.t 78) (.t 79), none⟩, 10, false),
                (⟨some 81, .ld 1 false (.t 80), none⟩, 11, false),
                (⟨some 82, .idxA 1 (.t 70) (.t 71), none⟩, 12, false),
                (⟨none, .st 1 (.t 82) (.t 77), none⟩, 13, true),
                (⟨some 83, .idxA 1 (.t 72) (.t 73), none⟩, 14, false),
                (⟨none, .st 1 (.t 83) (.t 81), none⟩, 15, true)] [1, 4, 5, 6, 7, 24, 25, 26])
             (.skip)))))))))
    (.reg [⟨some 84, .bin .add (.t 26) (.k (.sc (.int .i64 1))), none⟩,
       ⟨some 26, .mv (.t 84), none⟩] [1, 4, 5, 6, 7, 24, 25, 26])))
def b23L1 : AC :=
  .seq (.reg [⟨some 91, .bin .lss (.t 90) (.t 89), none⟩] [1, 4, 5, 6, 12, 88, 89, 90, 91])
  (.seq (.cond (.t 91)
     (.skip)
     (.exit 2))
   (.seq (.block 3 (.seq (.reg [⟨some 92, .mv (.t 90), none⟩,
         ⟨some 93, .idxA 1 (.t 88) (.t 90), none⟩,
         ⟨some 94, .ld 1 false (.t 93), none⟩,
         ⟨some 13, .mv (.t 92), none⟩,
         ⟨some 14, .mv (.t 94), none⟩] [1, 4, 5, 6, 12, 13, 14, 88, 89, 90])
      (.seq (.reg [⟨some 95, .mv (.t 6), none⟩,
          ⟨some 96, .mv (.t 13), none⟩,
          ⟨some 97, .bin .add (.t 96) (.k (.sc (.int .i64 1))), none⟩,
          ⟨some 98, .mv (.t 5), none⟩,
          ⟨some 99, .bin .mul (.k (.sc (.int .i64 2))) (.t 98), none⟩,
          ⟨some 100, .bin .rem (.t 97) (.t 99), none⟩,
          ⟨some 101, .idxA 1 (.t 95) (.t 100), none⟩,
          ⟨some 102, .ld 1 false (.t 101), none⟩,
          ⟨some 15, .mv (.t 102), none⟩] [1, 4, 5, 6, 12, 14, 15, 88, 89, 90])
       (.seq (.reg [⟨some 103, .mv (.t 12), none⟩,
           ⟨some 104, .mv (.t 14), none⟩,
           ⟨some 105, .mv (.t 15), none⟩,
           ⟨some 106, .idxA 1 (.t 103) (.t 104), none⟩,
           ⟨none, .st 1 (.t 106) (.t 105), none⟩] [1, 4, 5, 6, 12, 14, 15, 88, 89, 90])
        (.reg [⟨some 107, .mv (.t 12), none⟩,
           ⟨some 108, .mv (.t 15), none⟩,
           ⟨some 109, .mv (.t 14), none⟩,
           ⟨some 110, .idxA 1 (.t 107) (.t 108), none⟩,
           ⟨none, .st 1 (.t 110) (.t 109), none⟩] [1, 4, 5, 6, 12, 88, 89, 90])))))
    (.reg [⟨some 111, .bin .add (.t 90) (.k (.sc (.int .i64 1))), none⟩,
       ⟨some 90, .mv (.t 111), none⟩] [1, 4, 5, 6, 12, 88, 89, 90])))
/-- unravel/dowker.draw -/
def b23 : AC :=
  .seq (.reg [⟨some 4, .new [.nilS, .nilS, .int .i64 0], none⟩] [0, 1, 4])
  (.seq (.reg [⟨some 16, .mv (.t 0), none⟩,
      ⟨some 17, .len false (.t 16), none⟩,
      ⟨some 5, .mv (.t 17), none⟩] [0, 1, 4, 5])
   (.seq (.reg [⟨some 18, .mv (.t 5), none⟩,
       ⟨some 19, .bin .mul (.k (.sc (.int .i64 2))) (.t 18), none⟩,
       ⟨some 20, .mk 1 8 [.int .i64 0] (.t 19) (.t 19), none⟩,
       ⟨some 6, .mv (.t 20), none⟩] [0, 1, 4, 5, 6])
    (.seq (.reg [⟨some 21, .mv (.t 5), none⟩,
        ⟨some 22, .bin .mul (.k (.sc (.int .i64 2))) (.t 21), none⟩,
        ⟨some 23, .mk 1 8 [.int .i64 0] (.t 22) (.t 22), none⟩,
        ⟨some 7, .mv (.t 23), none⟩] [0, 1, 4, 5, 6, 7])
     (.seq (.seq (.reg [⟨some 24, .mv (.t 0), none⟩,
          ⟨some 25, .len false (.t 24), none⟩,
          ⟨some 26, .mv (.k (.sc (.int .i64 0))), none⟩] [1, 4, 5, 6, 7, 24, 25, 26])
       (.block 0 (.loop [1, 4, 5, 6, 7, 24, 25, 26] b23L0)))
      (.seq (.reg [⟨some 85, .mv (.t 5), none⟩,
          ⟨some 86, .bin .mul (.k (.sc (.int .i64 4))) (.t 85), none⟩,
          ⟨some 87, .mk 1 8 [.int .i64 0] (.t 86) (.t 86), none⟩,
          ⟨some 12, .mv (.t 87), none⟩] [1, 4, 5, 6, 7, 12])
       (.seq (.seq (.reg [⟨some 88, .mv (.t 7), none⟩,
            ⟨some 89, .len false (.t 88), none⟩,
            ⟨some 90, .mv (.k (.sc (.int .i64 0))), none⟩] [1, 4, 5, 6, 12, 88, 89, 90])
         (.block 2 (.loop [1, 4, 5, 6, 12, 88, 89, 90] b23L1)))
        (.seq (.reg [⟨some 112, .mv (.t 1), none⟩,
            ⟨some 113, .call 35 [(.t 112)], none⟩,
            ⟨some 114, .mv (.t 12), none⟩,
            ⟨some 115, .bld [.nilS, .nilS, .int .i64 0] [(0, 1, .t 113), (1, 1, .t 114)], none⟩,
            ⟨none, .st 3 (.t 4) (.t 115), none⟩] [4])
         (.ret))))))))
def a23 : AFun := ⟨2, b23, [.cell 4 3 true]⟩

/-- unravel/diagram.Strands -/
def b24 : AC :=
  .seq (.reg [⟨some 1, .box (.t 0), none⟩,
     ⟨some 2, .mv (.k (.sc .nilS)), none⟩] [1])
  (.seq (.seq (.reg [⟨some 4, .ld 3 true (.t 1), none⟩,
       ⟨some 5, .call 22 [(.t 4)], none⟩,
       ⟨some 6, .un .not (.t 5), none⟩] [1, 6])
    (.cond (.t 6)
      (.seq (.reg [⟨some 2, .mv (.k (.sc .nilS)), none⟩] [2])
       (.ret))
      (.skip)))
   (.seq (.reg [⟨some 7, .mkf 36 [(.t 1)], none⟩,
       ⟨some 3, .mv (.t 7), none⟩] [1, 3])
    (.seq (.reg [⟨some 8, .fldA 1 (.t 1), none⟩,
        ⟨some 9, .ld 1 false (.t 8), none⟩,
        ⟨some 10, .len false (.t 9), none⟩,
        ⟨some 11, .mv (.t 3), none⟩,
        ⟨some 12, .mkf 38 [(.t 1)], none⟩,
        ⟨some 13, .call 37 [(.t 10), (.t 11), (.t 12)], none⟩,
        ⟨some 2, .mv (.t 13), none⟩] [2])
     (.ret))))
def a24 : AFun := ⟨1, b24, [.t 2]⟩

/-- internal/strconv.Itoa -/
def b25 : AC :=
  .seq (.reg [⟨some 2, .mv (.k (.sc (.str ⟨#[]⟩))), none⟩] [0])
  (.seq (.reg [⟨some 3, .mv (.t 0), none⟩,
      ⟨some 4, .call 40 [(.t 3), (.k (.sc (.int .i64 10)))], none⟩,
      ⟨some 2, .mv (.t 4), none⟩] [2])
   (.ret))
def a25 : AFun := ⟨1, b25, [.t 2]⟩

/-- unravel/diagram.outgoing -/
def b33 : AC :=
  .seq (.reg [⟨some 2, .box (.t 0), none⟩,
     ⟨some 4, .mv (.k (.sc (.bool false))), none⟩] [1, 2])
  (.seq (.seq (.reg [⟨some 5, .mv (.t 1), none⟩,
       ⟨some 6, .bin .rem (.t 5) (.k (.sc (.int .i64 4))), none⟩] [1, 2, 6])
    (.block 0 (.seq (.reg [⟨some 8, .bin .eql (.t 6) (.k (.sc (.int .i64 1))), none⟩,
         ⟨some 7, .mv (.t 8), none⟩] [1, 2, 6, 7])
      (.cond (.t 7)
        (.seq (.reg [⟨some 9, .fldA 0 (.t 2), none⟩,
            ⟨some 10, .ld 1 false (.t 9), none⟩,
            ⟨some 11, .mv (.t 1), none⟩,
            ⟨some 12, .bin .quo (.t 11) (.k (.sc (.int .i64 4))), none⟩,
            ⟨some 13, .idxA 1 (.t 10) (.t 12), none⟩,
            ⟨some 14, .ld 1 false (.t 13), none⟩,
            ⟨some 15, .bin .eql (.t 14) (.k (.sc (.int .i64 1))), none⟩,
            ⟨some 4, .mv (.t 15), none⟩] [4])
         (.ret))
        (.seq (.reg [⟨some 17, .bin .eql (.t 6) (.k (.sc (.int .i64 2))), none⟩,
            ⟨some 16, .mv (.t 17), none⟩] [1, 2, 6, 16])
         (.cond (.t 16)
           (.seq (.reg [⟨some 4, .mv (.k (.sc (.bool true))), none⟩] [4])
            (.ret))
           (.seq (.reg [⟨some 19, .bin .eql (.t 6) (.k (.sc (.int .i64 3))), none⟩,
               ⟨some 18, .mv (.t 19), none⟩] [1, 2, 18])
            (.cond (.t 18)
              (.seq (.reg [⟨some 20, .fldA 0 (.t 2), none⟩,
                  ⟨some 21, .ld 1 false (.t 20), none⟩,
                  ⟨some 22, .mv (.t 1), none⟩,
                  ⟨some 23, .bin .quo (.t 22) (.k (.sc (.int .i64 4))), none⟩,
                  ⟨some 24, .idxA 1 (.t 21) (.t 23), none⟩,
                  ⟨some 25, .ld 1 false (.t 24), none⟩,
                  ⟨some 26, .bin .eql (.t 25) (.k (.sc (.int .i64 (-1)))), none⟩,
                  ⟨some 4, .mv (.t 26), none⟩] [4])
               (.ret))
              (.skip)))))))))
   (.seq (.reg [⟨some 4, .mv (.k (.sc (.bool false))), none⟩] [4])
    (.ret)))
def a33 : AFun := ⟨2, b33, [.t 4]⟩

def b34L0 : AC :=
  .seq (.reg [⟨some 23, .bin .lss (.t 22) (.t 21), none⟩] [1, 3, 5, 20, 21, 22, 23])
  (.seq (.cond (.t 23)
     (.skip)
     (.exit 0))
   (.seq (.block 1 (.seq (.reg [⟨some 24, .idxA 1 (.t 20) (.t 22), none⟩,
         ⟨some 25, .ld 1 false (.t 24), none⟩,
         ⟨some 7, .mv (.t 25), none⟩] [1, 3, 5, 7, 20, 21, 22])
      (.reg [⟨some 26, .mv (.t 5), none⟩,
         ⟨some 27, .mv (.t 7), none⟩,
         ⟨some 28, .idxA 1 (.t 26) (.t 27), none⟩,
         ⟨some 29, .ld 1 false (.t 28), none⟩,
         ⟨some 30, .bin .sub (.t 29) (.k (.sc (.int .i64 1))), none⟩,
         ⟨some 31, .idxA 1 (.t 26) (.t 27), none⟩,
         ⟨none, .st 1 (.t 31) (.t 30), none⟩] [1, 3, 5, 20, 21, 22])))
    (.reg [⟨some 32, .bin .add (.t 22) (.k (.sc (.int .i64 1))), none⟩,
       ⟨some 22, .mv (.t 32), none⟩] [1, 3, 5, 20, 21, 22])))
def b34L2 : AC :=
  .seq (.seq (.reg [⟨some 58, .mv (.t 8), none⟩,
      ⟨some 59, .mv (.t 10), none⟩,
      ⟨some 60, .idxA 1 (.t 58) (.t 59), none⟩,
      ⟨some 61, .ld 1 false (.t 60), none⟩,
      ⟨some 62, .un .not (.t 61), none⟩] [1, 3, 5, 8, 10, 39, 40, 62])
   (.cond (.t 62)
     (.skip)
     (.exit 4)))
  (.seq (.block 5 (.reg [⟨some 69, .mv (.t 8), none⟩,
       ⟨some 70, .mv (.t 10), none⟩,
       ⟨some 71, .idxA 1 (.t 69) (.t 70), none⟩,
       ⟨none, .st 1 (.t 71) (.k (.sc (.bool true))), none⟩] [1, 3, 5, 8, 10, 39, 40]))
   (.reg [⟨some 63, .fldA 1 (.t 1), none⟩,
      ⟨some 64, .ld 1 false (.t 63), none⟩,
      ⟨some 65, .mv (.t 10), none⟩,
      ⟨some 66, .idxA 1 (.t 64) (.t 65), none⟩,
      ⟨some 67, .ld 1 false (.t 66), none⟩,
      ⟨some 68, .call 50 [(.t 67), (.k (.sc (.int .i64 (-1))))], none⟩,
      ⟨some 10, .mv (.t 68), none⟩] [1, 3, 5, 8, 10, 39, 40]))
def b34L1 : AC :=
  .seq (.reg [⟨some 41, .bin .lss (.t 40) (.t 39), none⟩] [1, 3, 5, 8, 39, 40, 41])
  (.seq (.cond (.t 41)
     (.skip)
     (.exit 2))
   (.seq (.block 3 (.seq (.reg [⟨some 42, .mv (.t 40), none⟩,
         ⟨some 9, .mv (.t 42), none⟩] [1, 3, 5, 8, 9, 39, 40])
      (.seq (.seq (.reg [⟨some 43, .mv (.t 8), none⟩,
           ⟨some 44, .mv (.t 9), none⟩,
           ⟨some 45, .idxA 1 (.t 43) (.t 44), none⟩,
           ⟨some 46, .ld 1 false (.t 45), none⟩] [1, 3, 5, 8, 9, 39, 40, 46])
        (.cond (.t 46)
          (.exit 3)
          (.skip)))
       (.seq (.reg [⟨some 47, .mv (.t 5), none⟩,
           ⟨some 48, .mv (.t 3), none⟩,
           ⟨some 49, .mv (.t 9), none⟩,
           ⟨some 50, .bin .quo (.t 49) (.k (.sc (.int .i64 4))), none⟩,
           ⟨some 51, .idxA 1 (.t 48) (.t 50), none⟩,
           ⟨some 52, .ld 1 false (.t 51), none⟩,
           ⟨some 53, .idxA 1 (.t 47) (.t 52), none⟩,
           ⟨some 54, .ld 1 false (.t 53), none⟩,
           ⟨some 55, .bin .add (.t 54) (.k (.sc (.int .i64 1))), none⟩,
           ⟨some 56, .idxA 1 (.t 47) (.t 52), none⟩,
           ⟨none, .st 1 (.t 56) (.t 55), none⟩] [1, 3, 5, 8, 9, 39, 40])
        (.seq (.reg [⟨some 57, .mv (.t 9), none⟩,
            ⟨some 10, .mv (.t 57), none⟩] [1, 3, 5, 8, 10, 39, 40])
         (.block 4 (.loop [1, 3, 5, 8, 10, 39, 40] b34L2)))))))
    (.reg [⟨some 72, .bin .add (.t 40) (.k (.sc (.int .i64 1))), none⟩,
       ⟨some 40, .mv (.t 72), none⟩] [1, 3, 5, 8, 39, 40])))
def b34L3 : AC :=
  .seq (.reg [⟨some 76, .bin .lss (.t 75) (.t 74), none⟩] [73, 74, 75, 76])
  (.seq (.cond (.t 76)
     (.skip)
     (.exit 6))
   (.seq (.block 7 (.seq (.reg [⟨some 77, .idxA 1 (.t 73) (.t 75), none⟩,
         ⟨some 78, .ld 1 false (.t 77), none⟩,
         ⟨some 12, .mv (.t 78), none⟩] [12, 73, 74, 75])
      (.seq (.reg [⟨some 79, .mv (.t 12), none⟩,
          ⟨some 80, .bin .neq (.t 79) (.k (.sc (.int .i64 2))), none⟩] [73, 74, 75, 80])
       (.cond (.t 80)
         (.seq (.reg [⟨some 2, .mv (.k (.sc (.bool false))), none⟩] [2])
          (.ret))
         (.skip)))))
    (.reg [⟨some 81, .bin .add (.t 75) (.k (.sc (.int .i64 1))), none⟩,
       ⟨some 75, .mv (.t 81), none⟩] [73, 74, 75])))
/-- unravel/diagram.spherical -/
def b34 : AC :=
  .seq (.reg [⟨some 1, .box (.t 0), none⟩,
     ⟨some 2, .mv (.k (.sc (.bool false))), none⟩] [1])
  (.seq (.reg [⟨some 14, .ld 3 true (.t 1), none⟩,
      ⟨some 15, .call 49 [(.t 14)], none⟩,
      ⟨some 13, .mv (.t 15), none⟩,
      ⟨some 16, .ext (.t 13) 0, none⟩,
      ⟨some 17, .ext (.t 13) 1, none⟩,
      ⟨some 3, .mv (.t 16), none⟩,
      ⟨some 4, .mv (.t 17), none⟩] [1, 3, 4])
   (.seq (.reg [⟨some 18, .mv (.t 4), none⟩,
       ⟨some 19, .mk 1 8 [.int .i64 0] (.t 18) (.t 18), none⟩,
       ⟨some 5, .mv (.t 19), none⟩] [1, 3, 5])
    (.seq (.seq (.reg [⟨some 20, .mv (.t 3), none⟩,
         ⟨some 21, .len false (.t 20), none⟩,
         ⟨some 22, .mv (.k (.sc (.int .i64 0))), none⟩] [1, 3, 5, 20, 21, 22])
      (.block 0 (.loop [1, 3, 5, 20, 21, 22] b34L0)))
     (.seq (.reg [⟨some 33, .fldA 1 (.t 1), none⟩,
         ⟨some 34, .ld 1 false (.t 33), none⟩,
         ⟨some 35, .len false (.t 34), none⟩,
         ⟨some 36, .mk 1 1 [.bool false] (.t 35) (.t 35), none⟩,
         ⟨some 8, .mv (.t 36), none⟩] [1, 3, 5, 8])
      (.seq (.seq (.reg [⟨some 37, .fldA 1 (.t 1), none⟩,
           ⟨some 38, .ld 1 false (.t 37), none⟩,
           ⟨some 39, .len false (.t 38), none⟩,
           ⟨some 40, .mv (.k (.sc (.int .i64 0))), none⟩] [1, 3, 5, 8, 39, 40])
        (.block 2 (.loop [1, 3, 5, 8, 39, 40] b34L1)))
       (.seq (.seq (.reg [⟨some 73, .mv (.t 5), none⟩,
            ⟨some 74, .len false (.t 73), none⟩,
            ⟨some 75, .mv (.k (.sc (.int .i64 0))), none⟩] [73, 74, 75])
         (.block 6 (.loop [73, 74, 75] b34L3)))
        (.seq (.reg [⟨some 2, .mv (.k (.sc (.bool true))), none⟩] [2])
         (.ret))))))))
def a34 : AFun := ⟨1, b34, [.t 2]⟩

/-- slices.Clone[[]int,int] -/
def b35 : AC :=
  .seq (.reg [⟨some 2, .mv (.k (.sc .nilS)), none⟩] [0])
  (.seq (.seq (.reg [⟨some 3, .mv (.t 0), none⟩,
       ⟨some 4, .isnil 1 false (.t 3), none⟩] [0, 4])
    (.cond (.t 4)
      (.seq (.reg [⟨some 2, .mv (.k (.sc .nilS)), none⟩] [2])
       (.ret))
      (.skip)))
   (.seq (.reg [⟨some 5, .bsl 1 [.int .i64 0] 0 [], none⟩,
       ⟨some 6, .mv (.t 0), none⟩,
       ⟨some 7, .app 1 8 [.int .i64 0] (.t 5) (.t 6), none⟩,
       ⟨some 2, .mv (.t 7), none⟩] [2])
    (.ret)))
def a35 : AFun := ⟨1, b35, [.t 2]⟩

/-- unravel/diagram.Strands$1 -/
def b36 : AC :=
  .seq (.reg [⟨some 3, .mv (.k (.sc (.bool false))), none⟩] [0, 1])
  (.seq (.reg [⟨some 4, .ld 3 true (.t 1), none⟩,
      ⟨some 5, .mv (.t 0), none⟩,
      ⟨some 6, .call 33 [(.t 4), (.t 5)], none⟩,
      ⟨some 3, .mv (.t 6), none⟩] [3])
   (.ret))
def a36 : AFun := ⟨2, b36, [.t 3]⟩

def b37L1 : AC :=
  .seq (.reg [⟨some 35, .bin .lss (.t 34) (.t 33), none⟩] [1, 2, 7, 8, 10, 15, 16, 32, 33, 34, 35])
  (.seq (.cond (.t 35)
     (.skip)
     (.exit 2))
   (.seq (.block 3 (.seq (.reg [⟨some 36, .idxA 1 (.t 32) (.t 34), none⟩,
         ⟨some 37, .ld 1 false (.t 36), none⟩,
         ⟨some 12, .mv (.t 37), none⟩] [1, 2, 7, 8, 10, 12, 15, 16, 32, 33, 34])
      (.reg [⟨some 38, .mv (.t 8), none⟩,
         ⟨some 39, .mv (.t 12), none⟩,
         ⟨some 40, .idxA 1 (.t 38) (.t 39), none⟩,
         ⟨none, .st 1 (.t 40) (.k (.sc (.bool true))), none⟩] [1, 2, 7, 8, 10, 15, 16, 32, 33, 34])))
    (.reg [⟨some 41, .bin .add (.t 34) (.k (.sc (.int .i64 1))), none⟩,
       ⟨some 34, .mv (.t 41), none⟩] [1, 2, 7, 8, 10, 15, 16, 32, 33, 34])))
def b37L0 : AC :=
  .seq (.reg [⟨some 17, .bin .lss (.t 16) (.t 15), none⟩] [1, 2, 7, 8, 15, 16, 17])
  (.seq (.cond (.t 17)
     (.skip)
     (.exit 0))
   (.seq (.block 1 (.seq (.reg [⟨some 18, .mv (.t 16), none⟩,
         ⟨some 9, .mv (.t 18), none⟩] [1, 2, 7, 8, 9, 15, 16])
      (.seq (.seq (.reg [⟨some 19, .mv (.t 8), none⟩,
           ⟨some 20, .mv (.t 9), none⟩,
           ⟨some 21, .idxA 1 (.t 19) (.t 20), none⟩,
           ⟨some 22, .ld 1 false (.t 21), none⟩,
           ⟨some 23, .mv (.t 22), none⟩,
           ⟨some 24, .mv (.t 1), (some (23, false))⟩,
           ⟨some 25, .mv (.t 9), (some (23, false))⟩,
           ⟨some 26, .callv (.t 24) [(.t 25)], (some (23, false))⟩,
           ⟨some 27, .un .not (.t 26), (some (23, false))⟩,
           ⟨some 28, .pick (.t 23) (.k (.sc (.bool true))) (.t 27), none⟩] [1, 2, 7, 8, 9, 15, 16, 28])
        (.cond (.t 28)
          (.exit 1)
          (.skip)))
       (.seq (.reg [⟨some 29, .mv (.t 9), none⟩,
           ⟨some 30, .mv (.t 2), none⟩,
           ⟨some 31, .call 51 [(.t 29), (.t 30)], none⟩,
           ⟨some 10, .mv (.t 31), none⟩] [1, 2, 7, 8, 10, 15, 16])
        (.seq (.seq (.reg [⟨some 32, .mv (.t 10), none⟩,
             ⟨some 33, .len false (.t 32), none⟩,
             ⟨some 34, .mv (.k (.sc (.int .i64 0))), none⟩] [1, 2, 7, 8, 10, 15, 16, 32, 33, 34])
          (.block 2 (.loop [1, 2, 7, 8, 10, 15, 16, 32, 33, 34] b37L1)))
         (.reg [⟨some 42, .mv (.t 7), none⟩,
            ⟨some 43, .mv (.t 10), none⟩,
            ⟨some 44, .bsl 1 [.nilS] 1 [(0, .t 43)], none⟩,
            ⟨some 45, .app 1 24 [.nilS] (.t 42) (.t 44), none⟩,
            ⟨some 7, .mv (.t 45), none⟩] [1, 2, 7, 8, 15, 16]))))))
    (.reg [⟨some 46, .bin .add (.t 16) (.k (.sc (.int .i64 1))), none⟩,
       ⟨some 16, .mv (.t 46), none⟩] [1, 2, 7, 8, 15, 16])))
/-- unravel/diagram.cycles -/
def b37 : AC :=
  .seq (.reg [⟨some 6, .mv (.k (.sc .nilS)), none⟩] [0, 1, 2])
  (.seq (.reg [⟨some 7, .mv (.k (.sc .nilS)), none⟩] [0, 1, 2, 7])
   (.seq (.reg [⟨some 13, .mv (.t 0), none⟩,
       ⟨some 14, .mk 1 1 [.bool false] (.t 13) (.t 13), none⟩,
       ⟨some 8, .mv (.t 14), none⟩] [0, 1, 2, 7, 8])
    (.seq (.seq (.reg [⟨some 15, .mv (.t 0), none⟩,
         ⟨some 16, .mv (.k (.sc (.int .i64 0))), none⟩] [1, 2, 7, 8, 15, 16])
      (.block 0 (.loop [1, 2, 7, 8, 15, 16] b37L0)))
     (.seq (.reg [⟨some 47, .mv (.t 7), none⟩,
         ⟨some 6, .mv (.t 47), none⟩] [6])
      (.ret)))))
def a37 : AFun := ⟨3, b37, [.t 6]⟩

/-- unravel/diagram.Strands$2 -/
def b38 : AC :=
  .seq (.reg [⟨some 3, .mv (.k (.sc (.int .i64 0))), none⟩] [0, 1])
  (.seq (.reg [⟨some 4, .fldA 1 (.t 1), none⟩,
      ⟨some 5, .ld 1 false (.t 4), none⟩,
      ⟨some 6, .mv (.t 0), none⟩,
      ⟨some 7, .idxA 1 (.t 5) (.t 6), none⟩,
      ⟨some 8, .ld 1 false (.t 7), none⟩,
      ⟨some 9, .call 39 [(.t 8)], none⟩,
      ⟨some 3, .mv (.t 9), none⟩] [3])
   (.ret))
def a38 : AFun := ⟨2, b38, [.t 3]⟩

/-- unravel/diagram.Opposite -/
def b39 : AC :=
  .seq (.reg [⟨some 2, .mv (.k (.sc (.int .i64 0))), none⟩] [0])
  (.seq (.reg [⟨some 3, .mv (.t 0), none⟩,
      ⟨some 4, .call 50 [(.t 3), (.k (.sc (.int .i64 2)))], none⟩,
      ⟨some 2, .mv (.t 4), none⟩] [2])
   (.ret))
def a39 : AFun := ⟨1, b39, [.t 2]⟩

/-- internal/strconv.FormatInt -/
def b40 : AC :=
  .seq (.reg [⟨some 4, .mv (.k (.sc (.str ⟨#[]⟩))), none⟩] [0, 1])
  (.seq (.seq (.reg [⟨some 10, .mv (.t 1), none⟩,
       ⟨some 11, .bin .eql (.t 10) (.k (.sc (.int .i64 10))), none⟩] [0, 1, 11])
    (.cond (.t 11)
      (.seq (.seq (.reg [⟨some 12, .mv (.t 0), none⟩,
           ⟨some 13, .bin .leq (.k (.sc (.int .i64 0))) (.t 12), none⟩,
           ⟨some 14, .mv (.t 13), none⟩,
           ⟨some 15, .mv (.t 0), (some (14, true))⟩,
           ⟨some 16, .bin .lss (.t 15) (.k (.sc (.int .i64 100))), (some (14, true))⟩,
           ⟨some 17, .pick (.t 14) (.t 16) (.k (.sc (.bool false))), none⟩] [0, 17])
        (.cond (.t 17)
          (.seq (.reg [⟨some 18, .mv (.t 0), none⟩,
              ⟨some 19, .call 52 [(.t 18)], none⟩,
              ⟨some 4, .mv (.t 19), none⟩] [4])
           (.ret))
          (.skip)))
       (.seq (.reg [⟨some 5, .new [.int .u8 0, .int .u8 0, .int .u8 0, .int .u8 0, .int .u8 0, .int .u8 0, .int .u8 0, .int .u8 0, .int .u8 0, .int .u8 0, .int .u8 0, .int .u8 0, .int .u8 0, .int .u8 0, .int .u8 0, .int .u8 0, .int .u8 0, .int .u8 0, .int .u8 0, .int .u8 0, .int .u8 0, .int .u8 0, .int .u8 0, .int .u8 0], none⟩] [0, 5])
        (.seq (.reg [⟨some 20, .mv (.t 0), none⟩,
            ⟨some 21, .conv .u64 (.t 20), none⟩,
            ⟨some 6, .mv (.t 21), none⟩] [0, 5, 6])
         (.seq (.seq (.reg [⟨some 22, .mv (.t 0), none⟩,
              ⟨some 23, .bin .lss (.t 22) (.k (.sc (.int .i64 0))), none⟩] [0, 5, 6, 23])
           (.cond (.t 23)
             (.reg [⟨some 24, .mv (.t 6), none⟩,
                ⟨some 25, .un .neg (.t 24), none⟩,
                ⟨some 6, .mv (.t 25), none⟩] [0, 5, 6])
             (.skip)))
          (.seq (.reg [⟨some 26, .mv (.t 6), none⟩,
              ⟨some 27, .call 53 [(.t 26)], none⟩,
              ⟨some 7, .mv (.t 27), none⟩] [0, 5, 6, 7])
           (.seq (.reg [⟨some 28, .mv (.t 7), none⟩,
               ⟨some 29, .bin .add (.k (.sc (.int .i64 1))) (.t 28), none⟩,
               ⟨some 30, .bad, none⟩,
               ⟨some 31, .mv (.t 6), none⟩,
               ⟨some 32, .call 54 [(.t 30), (.t 31)], none⟩] [0, 5, 7])
            (.seq (.seq (.reg [⟨some 33, .mv (.t 0), none⟩,
                 ⟨some 34, .bin .lss (.t 33) (.k (.sc (.int .i64 0))), none⟩] [5, 7, 34])
              (.cond (.t 34)
                (.seq (.reg [⟨some 35, .idxP 24 1 (.t 5) (.k (.sc (.int .i64 0))), none⟩,
                    ⟨none, .st 1 (.t 35) (.k (.sc (.int .u8 45))), none⟩] [5, 7])
                 (.seq (.reg [⟨some 36, .mv (.t 7), none⟩,
                     ⟨some 37, .bin .add (.k (.sc (.int .i64 1))) (.t 36), none⟩,
                     ⟨some 38, .bad, none⟩,
                     ⟨some 39, .cbs (.t 38), none⟩,
                     ⟨some 4, .mv (.t 39), none⟩] [4])
                  (.ret)))
                (.skip)))
             (.seq (.reg [⟨some 40, .mv (.t 7), none⟩,
                 ⟨some 41, .bin .add (.k (.sc (.int .i64 1))) (.t 40), none⟩,
                 ⟨some 42, .bad, none⟩,
                 ⟨some 43, .cbs (.t 42), none⟩,
                 ⟨some 4, .mv (.t 43), none⟩] [4])
              (.ret)))))))))
      (.skip)))
   (.seq (.reg [⟨some 45, .mv (.t 0), none⟩,
       ⟨some 46, .conv .u64 (.t 45), none⟩,
       ⟨some 47, .mv (.t 1), none⟩,
       ⟨some 48, .mv (.t 0), none⟩,
       ⟨some 49, .bin .lss (.t 48) (.k (.sc (.int .i64 0))), none⟩,
       ⟨some 50, .call 55 [(.k (.sc .nilS)), (.t 46), (.t 47), (.t 49), (.k (.sc (.bool false)))], none⟩,
       ⟨some 44, .mv (.t 50), none⟩,
       ⟨some 51, .ext (.t 44) 0, none⟩,
       ⟨some 52, .ext (.t 44) 1, none⟩,
       ⟨some 8, .mv (.t 51), none⟩,
       ⟨some 9, .mv (.t 52), none⟩] [9])
    (.seq (.reg [⟨some 53, .mv (.t 9), none⟩,
        ⟨some 4, .mv (.t 53), none⟩] [4])
     (.ret))))
def a40 : AFun := ⟨2, b40, [.t 4]⟩

def b49L0 : AC :=
  .seq (.reg [⟨some 19, .bin .lss (.t 18) (.t 17), none⟩] [1, 4, 17, 18, 19])
  (.seq (.cond (.t 19)
     (.skip)
     (.exit 0))
   (.seq (.block 1 (.seq (.reg [⟨some 20, .mv (.t 18), none⟩,
         ⟨some 5, .mv (.t 20), none⟩] [1, 4, 5, 17, 18])
      (.reg [⟨some 21, .mv (.t 4), none⟩,
         ⟨some 22, .mv (.t 5), none⟩,
         ⟨some 23, .idxA 1 (.t 21) (.t 22), none⟩,
         ⟨none, .st 1 (.t 23) (.k (.sc (.int .i64 (-1)))), none⟩] [1, 4, 17, 18])))
    (.reg [⟨some 24, .bin .add (.t 18) (.k (.sc (.int .i64 1))), none⟩,
       ⟨some 18, .mv (.t 24), none⟩] [1, 4, 17, 18])))
def b49L3 : AC :=
  .seq (.reg [⟨some 50, .bin .lss (.t 49) (.k (.sc (.int .i64 4))), none⟩] [1, 4, 6, 8, 9, 26, 27, 49, 50])
  (.seq (.cond (.t 50)
     (.skip)
     (.exit 6))
   (.seq (.block 7 (.seq (.reg [⟨some 51, .mv (.t 49), none⟩,
         ⟨some 10, .mv (.t 51), none⟩] [1, 4, 6, 8, 9, 10, 26, 27, 49])
      (.seq (.reg [⟨some 52, .fldA 1 (.t 1), none⟩,
          ⟨some 53, .ld 1 false (.t 52), none⟩,
          ⟨some 54, .mv (.t 9), none⟩,
          ⟨some 55, .bin .mul (.k (.sc (.int .i64 4))) (.t 54), none⟩,
          ⟨some 56, .mv (.t 10), none⟩,
          ⟨some 57, .bin .add (.t 55) (.t 56), none⟩,
          ⟨some 58, .idxA 1 (.t 53) (.t 57), none⟩,
          ⟨some 59, .ld 1 false (.t 58), none⟩,
          ⟨some 60, .bin .quo (.t 59) (.k (.sc (.int .i64 4))), none⟩,
          ⟨some 11, .mv (.t 60), none⟩] [1, 4, 6, 8, 9, 11, 26, 27, 49])
       (.seq (.reg [⟨some 61, .mv (.t 4), none⟩,
           ⟨some 62, .mv (.t 11), none⟩,
           ⟨some 63, .idxA 1 (.t 61) (.t 62), none⟩,
           ⟨some 64, .ld 1 false (.t 63), none⟩,
           ⟨some 65, .bin .lss (.t 64) (.k (.sc (.int .i64 0))), none⟩] [1, 4, 6, 8, 9, 11, 26, 27, 49, 65])
        (.cond (.t 65)
          (.seq (.reg [⟨some 66, .mv (.t 4), none⟩,
              ⟨some 67, .mv (.t 11), none⟩,
              ⟨some 68, .mv (.t 6), none⟩,
              ⟨some 69, .idxA 1 (.t 66) (.t 67), none⟩,
              ⟨none, .st 1 (.t 69) (.t 68), none⟩] [1, 4, 6, 8, 9, 11, 26, 27, 49])
           (.reg [⟨some 70, .mv (.t 8), none⟩,
              ⟨some 71, .mv (.t 11), none⟩,
              ⟨some 72, .bsl 1 [.int .i64 0] 1 [(0, .t 71)], none⟩,
              ⟨some 73, .app 1 8 [.int .i64 0] (.t 70) (.t 72), none⟩,
              ⟨some 8, .mv (.t 73), none⟩] [1, 4, 6, 8, 9, 26, 27, 49]))
          (.skip))))))
    (.reg [⟨some 74, .bin .add (.t 49) (.k (.sc (.int .i64 1))), none⟩,
       ⟨some 49, .mv (.t 74), none⟩] [1, 4, 6, 8, 9, 26, 27, 49])))
def b49L2 : AC :=
  .seq (.seq (.reg [⟨some 41, .mv (.t 8), none⟩,
      ⟨some 42, .len false (.t 41), none⟩,
      ⟨some 43, .bin .gtr (.t 42) (.k (.sc (.int .i64 0))), none⟩] [1, 4, 6, 8, 26, 27, 43])
   (.cond (.t 43)
     (.skip)
     (.exit 4)))
  (.block 5 (.seq (.reg [⟨some 44, .mv (.t 8), none⟩,
       ⟨some 45, .idxA 1 (.t 44) (.k (.sc (.int .i64 0))), none⟩,
       ⟨some 46, .ld 1 false (.t 45), none⟩,
       ⟨some 9, .mv (.t 46), none⟩] [1, 4, 6, 8, 9, 26, 27])
    (.seq (.reg [⟨some 47, .mv (.t 8), none⟩,
        ⟨some 48, .sl1 (.t 47) (some (.k (.sc (.int .i64 1)))) none, none⟩,
        ⟨some 8, .mv (.t 48), none⟩] [1, 4, 6, 8, 9, 26, 27])
     (.seq (.reg [⟨some 49, .mv (.k (.sc (.int .i64 0))), none⟩] [1, 4, 6, 8, 9, 26, 27, 49])
      (.block 6 (.loop [1, 4, 6, 8, 9, 26, 27, 49] b49L3))))))
def b49L1 : AC :=
  .seq (.reg [⟨some 28, .bin .lss (.t 27) (.t 26), none⟩] [1, 4, 6, 26, 27, 28])
  (.seq (.cond (.t 28)
     (.skip)
     (.exit 2))
   (.seq (.block 3 (.seq (.reg [⟨some 29, .mv (.t 27), none⟩,
         ⟨some 7, .mv (.t 29), none⟩] [1, 4, 6, 7, 26, 27])
      (.seq (.seq (.reg [⟨some 30, .mv (.t 4), none⟩,
           ⟨some 31, .mv (.t 7), none⟩,
           ⟨some 32, .idxA 1 (.t 30) (.t 31), none⟩,
           ⟨some 33, .ld 1 false (.t 32), none⟩,
           ⟨some 34, .bin .geq (.t 33) (.k (.sc (.int .i64 0))), none⟩] [1, 4, 6, 7, 26, 27, 34])
        (.cond (.t 34)
          (.exit 3)
          (.skip)))
       (.seq (.reg [⟨some 35, .mv (.t 4), none⟩,
           ⟨some 36, .mv (.t 7), none⟩,
           ⟨some 37, .mv (.t 6), none⟩,
           ⟨some 38, .idxA 1 (.t 35) (.t 36), none⟩,
           ⟨none, .st 1 (.t 38) (.t 37), none⟩] [1, 4, 6, 7, 26, 27])
        (.seq (.reg [⟨some 39, .mv (.t 7), none⟩,
            ⟨some 40, .bsl 1 [.int .i64 0] 1 [(0, .t 39)], none⟩,
            ⟨some 8, .mv (.t 40), none⟩] [1, 4, 6, 8, 26, 27])
         (.seq (.block 4 (.loop [1, 4, 6, 8, 26, 27] b49L2))
          (.reg [⟨some 75, .mv (.t 6), none⟩,
             ⟨some 76, .bin .add (.t 75) (.k (.sc (.int .i64 1))), none⟩,
             ⟨some 6, .mv (.t 76), none⟩] [1, 4, 6, 26, 27])))))))
    (.reg [⟨some 77, .bin .add (.t 27) (.k (.sc (.int .i64 1))), none⟩,
       ⟨some 27, .mv (.t 77), none⟩] [1, 4, 6, 26, 27])))
/-- unravel/diagram.label -/
def b49 : AC :=
  .seq (.reg [⟨some 1, .box (.t 0), none⟩,
     ⟨some 2, .mv (.k (.sc .nilS)), none⟩,
     ⟨some 3, .mv (.k (.sc (.int .i64 0))), none⟩] [1])
  (.seq (.reg [⟨some 12, .fldA 0 (.t 1), none⟩,
      ⟨some 13, .ld 1 false (.t 12), none⟩,
      ⟨some 14, .len false (.t 13), none⟩,
      ⟨some 15, .mk 1 8 [.int .i64 0] (.t 14) (.t 14), none⟩,
      ⟨some 4, .mv (.t 15), none⟩] [1, 4])
   (.seq (.seq (.reg [⟨some 16, .mv (.t 4), none⟩,
        ⟨some 17, .len false (.t 16), none⟩,
        ⟨some 18, .mv (.k (.sc (.int .i64 0))), none⟩] [1, 4, 17, 18])
     (.block 0 (.loop [1, 4, 17, 18] b49L0)))
    (.seq (.reg [⟨some 6, .mv (.k (.sc (.int .i64 0))), none⟩] [1, 4, 6])
     (.seq (.seq (.reg [⟨some 25, .mv (.t 4), none⟩,
          ⟨some 26, .len false (.t 25), none⟩,
          ⟨some 27, .mv (.k (.sc (.int .i64 0))), none⟩] [1, 4, 6, 26, 27])
       (.block 2 (.loop [1, 4, 6, 26, 27] b49L1)))
      (.seq (.reg [⟨some 78, .mv (.t 4), none⟩,
          ⟨some 79, .mv (.t 6), none⟩,
          ⟨some 2, .mv (.t 78), none⟩,
          ⟨some 3, .mv (.t 79), none⟩] [2, 3])
       (.ret))))))
def a49 : AFun := ⟨1, b49, [.t 2, .t 3]⟩

/-- unravel/diagram.Turn -/
def b50 : AC :=
  .seq (.reg [⟨some 4, .mv (.k (.sc (.int .i64 0))), none⟩] [0, 1])
  (.seq (.seq (.reg [⟨some 5, .mv (.t 0), none⟩,
       ⟨some 6, .bin .lss (.t 5) (.k (.sc (.int .i64 0))), none⟩] [0, 1, 6])
    (.cond (.t 6)
      (.seq (.reg [⟨some 4, .mv (.k (.sc (.int .i64 (-1)))), none⟩] [4])
       (.ret))
      (.skip)))
   (.seq (.reg [⟨some 7, .mv (.t 0), none⟩,
       ⟨some 8, .mv (.t 0), none⟩,
       ⟨some 9, .bin .rem (.t 8) (.k (.sc (.int .i64 4))), none⟩,
       ⟨some 10, .bin .sub (.t 7) (.t 9), none⟩,
       ⟨some 11, .mv (.t 0), none⟩,
       ⟨some 12, .bin .rem (.t 11) (.k (.sc (.int .i64 4))), none⟩,
       ⟨some 13, .mv (.t 1), none⟩,
       ⟨some 14, .bin .rem (.t 13) (.k (.sc (.int .i64 4))), none⟩,
       ⟨some 15, .bin .add (.t 12) (.t 14), none⟩,
       ⟨some 16, .bin .add (.t 15) (.k (.sc (.int .i64 4))), none⟩,
       ⟨some 17, .bin .rem (.t 16) (.k (.sc (.int .i64 4))), none⟩,
       ⟨some 18, .bin .add (.t 10) (.t 17), none⟩,
       ⟨some 4, .mv (.t 18), none⟩] [4])
    (.ret)))
def a50 : AFun := ⟨2, b50, [.t 4]⟩

def b51L0 : AC :=
  .seq (.seq (.reg [⟨some 12, .mv (.t 6), none⟩,
      ⟨some 13, .mv (.t 0), none⟩,
      ⟨some 14, .bin .neq (.t 12) (.t 13), none⟩] [0, 1, 5, 6, 14])
   (.cond (.t 14)
     (.skip)
     (.exit 0)))
  (.seq (.block 1 (.reg [⟨some 18, .mv (.t 5), none⟩,
       ⟨some 19, .mv (.t 6), none⟩,
       ⟨some 20, .bsl 1 [.int .i64 0] 1 [(0, .t 19)], none⟩,
       ⟨some 21, .app 1 8 [.int .i64 0] (.t 18) (.t 20), none⟩,
       ⟨some 5, .mv (.t 21), none⟩] [0, 1, 5, 6]))
   (.reg [⟨some 15, .mv (.t 1), none⟩,
      ⟨some 16, .mv (.t 6), none⟩,
      ⟨some 17, .callv (.t 15) [(.t 16)], none⟩,
      ⟨some 6, .mv (.t 17), none⟩] [0, 1, 5, 6]))
/-- unravel/diagram.cycle -/
def b51 : AC :=
  .seq (.reg [⟨some 4, .mv (.k (.sc .nilS)), none⟩] [0, 1])
  (.seq (.reg [⟨some 7, .mv (.t 0), none⟩,
      ⟨some 8, .bsl 1 [.int .i64 0] 1 [(0, .t 7)], none⟩,
      ⟨some 5, .mv (.t 8), none⟩] [0, 1, 5])
   (.seq (.seq (.reg [⟨some 9, .mv (.t 1), none⟩,
        ⟨some 10, .mv (.t 0), none⟩,
        ⟨some 11, .callv (.t 9) [(.t 10)], none⟩,
        ⟨some 6, .mv (.t 11), none⟩] [0, 1, 5, 6])
     (.block 0 (.loop [0, 1, 5, 6] b51L0)))
    (.seq (.reg [⟨some 22, .mv (.t 5), none⟩,
        ⟨some 4, .mv (.t 22), none⟩] [4])
     (.ret))))
def a51 : AFun := ⟨2, b51, [.t 4]⟩

/-- internal/strconv.small -/
def b52 : AC :=
  .seq (.reg [⟨some 2, .mv (.k (.sc (.str ⟨#[]⟩))), none⟩] [0])
  (.seq (.seq (.reg [⟨some 3, .mv (.t 0), none⟩,
       ⟨some 4, .bin .lss (.t 3) (.k (.sc (.int .i64 10))), none⟩] [0, 4])
    (.cond (.t 4)
      (.seq (.reg [⟨some 5, .mv (.t 0), none⟩,
          ⟨some 6, .mv (.t 0), none⟩,
          ⟨some 7, .bin .add (.t 6) (.k (.sc (.int .i64 1))), none⟩,
          ⟨some 8, .slS (.k (.sc (.str ⟨#[48, 49, 50, 51, 52, 53, 54, 55, 56, 57, 97, 98, 99, 100, 101, 102, 103, 104, 105, 106, 107, 108, 109, 110, 111, 112, 113, 114, 115, 116, 117, 118, 119, 120, 121, 122]⟩))) (some (.t 5)) (some (.t 7)), none⟩,
          ⟨some 2, .mv (.t 8), none⟩] [2])
       (.ret))
      (.skip)))
   (.seq (.reg [⟨some 9, .mv (.t 0), none⟩,
       ⟨some 10, .bin .mul (.t 9) (.k (.sc (.int .i64 2))), none⟩,
       ⟨some 11, .mv (.t 0), none⟩,
       ⟨some 12, .bin .mul (.t 11) (.k (.sc (.int .i64 2))), none⟩,
       ⟨some 13, .bin .add (.t 12) (.k (.sc (.int .i64 2))), none⟩,
       ⟨some 14, .slS (.k (.sc (.str ⟨#[48, 48, 48, 49, 48, 50, 48, 51, 48, 52, 48, 53, 48, 54, 48, 55, 48, 56, 48, 57, 49, 48, 49, 49, 49, 50, 49, 51, 49, 52, 49, 53, 49, 54, 49, 55, 49, 56, 49, 57, 50, 48, 50, 49, 50, 50, 50, 51, 50, 52, 50, 53, 50, 54, 50, 55, 50, 56, 50, 57, 51, 48, 51, 49, 51, 50, 51, 51, 51, 52, 51, 53, 51, 54, 51, 55, 51, 56, 51, 57, 52, 48, 52, 49, 52, 50, 52, 51, 52, 52, 52, 53, 52, 54, 52, 55, 52, 56, 52, 57, 53, 48, 53, 49, 53, 50, 53, 51, 53, 52, 53, 53, 53, 54, 53, 55, 53, 56, 53, 57, 54, 48, 54, 49, 54, 50, 54, 51, 54, 52, 54, 53, 54, 54, 54, 55, 54, 56, 54, 57, 55, 48, 55, 49, 55, 50, 55, 51, 55, 52, 55, 53, 55, 54, 55, 55, 55, 56, 55, 57, 56, 48, 56, 49, 56, 50, 56, 51, 56, 52, 56, 53, 56, 54, 56, 55, 56, 56, 56, 57, 57, 48, 57, 49, 57, 50, 57, 51, 57, 52, 57, 53, 57, 54, 57, 55, 57, 56, 57, 57]⟩))) (some (.t 10)) (some (.t 13)), none⟩,
       ⟨some 2, .mv (.t 14), none⟩] [2])
    (.ret)))
def a52 : AFun := ⟨1, b52, [.t 2]⟩

/-- internal/strconv.numDigits -/
def b53 : AC :=
  .seq (.reg [⟨some 2, .mv (.k (.sc (.int .i64 0))), none⟩] [0])
  (.seq (.reg [⟨some 4, .mv (.t 0), none⟩,
      ⟨some 5, .call 64 [(.t 4)], none⟩,
      ⟨some 6, .call 63 [(.t 5)], none⟩,
      ⟨some 3, .mv (.t 6), none⟩] [0, 3])
   (.seq (.reg [⟨some 7, .mv (.t 3), none⟩,
       ⟨some 8, .mv (.t 0), none⟩,
       ⟨some 9, .mv (.t 3), none⟩,
       ⟨some 10, .bad, none⟩,
       ⟨some 11, .ld 1 false (.t 10), none⟩,
       ⟨some 12, .bin .geq (.t 8) (.t 11), none⟩,
       ⟨some 13, .call 65 [(.t 12)], none⟩,
       ⟨some 14, .bin .add (.t 7) (.t 13), none⟩,
       ⟨some 2, .mv (.t 14), none⟩] [2])
    (.ret)))
def a53 : AFun := ⟨1, b53, [.t 2]⟩

def b54L0 : AC :=
  .seq (.seq (.reg [⟨some 19, .mv (.t 4), none⟩,
      ⟨some 20, .bin .geq (.t 19) (.k (.sc (.int .i64 8))), none⟩] [0, 1, 4, 20])
   (.cond (.t 20)
     (.skip)
     (.exit 0)))
  (.block 1 (.seq (.reg [⟨some 21, .mv (.t 1), none⟩,
       ⟨some 22, .bin .rem (.t 21) (.k (.sc (.int .u64 100000000))), none⟩,
       ⟨some 23, .conv .u32 (.t 22), none⟩,
       ⟨some 5, .mv (.t 23), none⟩] [0, 1, 4, 5])
    (.seq (.reg [⟨some 24, .mv (.t 1), none⟩,
        ⟨some 25, .bin .quo (.t 24) (.k (.sc (.int .u64 100000000))), none⟩,
        ⟨some 1, .mv (.t 25), none⟩] [0, 1, 4, 5])
     (.seq (.reg [⟨some 26, .mv (.t 5), none⟩,
         ⟨some 27, .bin .quo (.t 26) (.k (.sc (.int .u32 10000))), none⟩,
         ⟨some 28, .mv (.t 5), none⟩,
         ⟨some 29, .bin .rem (.t 28) (.k (.sc (.int .u32 10000))), none⟩,
         ⟨some 6, .mv (.t 27), none⟩,
         ⟨some 7, .mv (.t 29), none⟩] [0, 1, 4, 6, 7])
      (.seq (.reg [⟨some 30, .mv (.t 7), none⟩,
          ⟨some 31, .bin .quo (.t 30) (.k (.sc (.int .u32 100))), none⟩,
          ⟨some 32, .bin .mul (.t 31) (.k (.sc (.int .u32 2))), none⟩,
          ⟨some 33, .mv (.t 7), none⟩,
          ⟨some 34, .bin .rem (.t 33) (.k (.sc (.int .u32 100))), none⟩,
          ⟨some 35, .bin .mul (.t 34) (.k (.sc (.int .u32 2))), none⟩,
          ⟨some 8, .mv (.t 32), none⟩,
          ⟨some 9, .mv (.t 35), none⟩] [0, 1, 4, 6, 8, 9])
       (.seq (.reg [⟨some 36, .mv (.t 6), none⟩,
           ⟨some 37, .bin .quo (.t 36) (.k (.sc (.int .u32 100))), none⟩,
           ⟨some 38, .bin .mul (.t 37) (.k (.sc (.int .u32 2))), none⟩,
           ⟨some 39, .mv (.t 6), none⟩,
           ⟨some 40, .bin .rem (.t 39) (.k (.sc (.int .u32 100))), none⟩,
           ⟨some 41, .bin .mul (.t 40) (.k (.sc (.int .u32 2))), none⟩,
           ⟨some 10, .mv (.t 38), none⟩,
           ⟨some 11, .mv (.t 41), none⟩] [0, 1, 4, 8, 9, 10, 11])
        (.seq (.regd [(⟨some 42, .mv (.t 0), none⟩, 0, false),
            (⟨some 43, .mv (.t 4), none⟩, 1, false),
            (⟨some 44, .bin .sub (.t 43) (.k (.sc (.int .i64 1))), none⟩, 2, false),
            (⟨some 45, .mv (.t 0), none⟩, 3, false),
            (⟨some 46, .mv (.t 4), none⟩, 4, false),
            (⟨some 47, .bin .sub (.t 46) (.k (.sc (.int .i64 2))), none⟩, 5, false),
            (⟨some 48, .mv (.t 9), none⟩, 6, false),
            (⟨some 49, .bin .add (.t 48) (.k (.sc (.int .u32 1))), none⟩, 7, false),
            (⟨some 50, .idxS (.k (.sc (.str ⟨#[48, 48, 48, 49, 48, 50, 48, 51, 48, 52, 48, 53, 48, 54, 48, 55, 48, 56, 48, 57, 49, 48, 49, 49, 49, 50, 49, 51, 49, 52, 49, 53, 49, 54, 49, 55, 49, 56, 49, 57, 50, 48, 50, 49, 50, 50, 50, 51, 50, 52, 50, 53, 50, 54, 50, 55, 50, 56, 50, 57, 51, 48, 51, 49, 51, 50, 51, 51, 51, 52, 51, 53, 51, 54, 51, 55, 51, 56, 51, 57, 52, 48, 52, 49, 52, 50, 52, 51, 52, 52, 52, 53, 52, 54, 52, 55, 52, 56, 52, 57, 53, 48, 53, 49, 53, 50, 53, 51, 53, 52, 53, 53, 53, 54, 53, 55, 53, 56, 53, 57, 54, 48, 54, 49, 54, 50, 54, 51, 54, 52, 54, 53, 54, 54, 54, 55, 54, 56, 54, 57, 55, 48, 55, 49, 55, 50, 55, 51, 55, 52, 55, 53, 55, 54, 55, 55, 55, 56, 55, 57, 56, 48, 56, 49, 56, 50, 56, 51, 56, 52, 56, 53, 56, 54, 56, 55, 56, 56, 56, 57, 57, 48, 57, 49, 57, 50, 57, 51, 57, 52, 57, 53, 57, 54, 57, 55, 57, 56, 57, 57]⟩))) (.t 49), none⟩, 8, false),
            (⟨some 51, .mv (.t 9), none⟩, 9, false),
            (⟨some 52, .idxS (.k (.sc (.str ⟨#[48, 48, 48, 49, 48, 50, 48, 51, 48, 52, 48, 53, 48, 54, 48, 55, 48, 56, 48, 57, 49, 48, 49, 49, 49, 50, 49, 51, 49, 52, 49, 53, 49, 54, 49, 55, 49, 56, 49, 57, 50, 48, 50, 49, 50, 50, 50, 51, 50, 52, 50, 53, 50, 54, 50, 55, 50, 56, 50, 57, 51, 48, 51, 49, 51, 50, 51, 51, 51, 52, 51, 53, 51, 54, 51, 55, 51, 56, 51, 57, 52, 48, 52, 49, 52, 50, 52, 51, 52, 52, 52, 53, 52, 54, 52, 55, 52, 56, 52, 57, 53, 48, 53, 49, 53, 50, 53, 51, 53, 52, 53, 53, 53, 54, 53, 55, 53, 56, 53, 57, 54, 48, 54, 49, 54, 50, 54, 51, 54, 52, 54, 53, 54, 54, 54, 55, 54, 56, 54, 57, 55, 48, 55, 49, 55, 50, 55, 51, 55, 52, 55, 53, 55, 54, 55, 55, 55, 56, 55, 57, 56, 48, 56, 49, 56, 50, 56, 51, 56, 52, 56, 53, 56, 54, 56, 55, 56, 56, 56, 57, 57, 48, 57, 49, 57, 50, 57, 51, 57, 52, 57, 53, 57, 54, 57, 55, 57, 56, 57, 57]⟩))) (.t 51), none⟩, 10, false),
            (⟨some 53, .idxA 1 (.t 42) (.t 44), none⟩, 11, false),
            (⟨none, .st 1 (.t 53) (.t 50), none⟩, 12, true),
            (⟨some 54, .idxA 1 (.t 45) (.t 47), none⟩, 13, false),
            (⟨none, .st 1 (.t 54) (.t 52), none⟩, 14, true)] [0, 1, 4, 8, 10, 11])
         (.seq (.regd [(⟨some 55, .mv (.t 0), none⟩, 0, false),
             (⟨some 56, .mv (.t 4), none⟩, 1, false),
             (⟨some 57, .bin .sub (.t 56) (.k (.sc (.int .i64 3))), none⟩, 2, false),
             (⟨some 58, .mv (.t 0), none⟩, 3, false),
             (⟨some 59, .mv (.t 4), none⟩, 4, false),
             (⟨some 60, .bin .sub (.t 59) (.k (.sc (.int .i64 4))), none⟩, 5, false),
             (⟨some 61, .mv (.t 8), none⟩, 6, false),
             (⟨some 62, .bin .add (.t 61) (.k (.sc (.int .u32 1))), none⟩, 7, false),
             (⟨some 63, .idxS (.k (.sc (.str ⟨#[48, 48, 48, 49, 48, 50, 48, 51, 48, 52, 48, 53, 48, 54, 48, 55, 48, 56, 48, 57, 49, 48, 49, 49, 49, 50, 49, 51, 49, 52, 49, 53, 49, 54, 49, 55, 49, 56, 49, 57, 50, 48, 50, 49, 50, 50, 50, 51, 50, 52, 50, 53, 50, 54, 50, 55, 50, 56, 50, 57, 51, 48, 51, 49, 51, 50, 51, 51, 51, 52, 51, 53, 51, 54, 51, 55, 51, 56, 51, 57, 52, 48, 52, 49, 52, 50, 52, 51, 52, 52, 52, 53, 52, 54, 52, 55, 52, 56, 52, 57, 53, 48, 53, 49, 53, 50, 53, 51, 53, 52, 53, 53, 53, 54, 53, 55, 53, 56, 53, 57, 54, 48, 54, 49, 54, 50, 54, 51, 54, 52, 54, 53, 54, 54, 54, 55, 54, 56, 54, 57, 55, 48, 55, 49, 55, 50, 55, 51, 55, 52, 55, 53, 55, 54, 55, 55, 55, 56, 55, 57, 56, 48, 56, 49, 56, 50, 56, 51, 56, 52, 56, 53, 56, 54, 56, 55, 56, 56, 56, 57, 57, 48, 57, 49, 57, 50, 57, 51, 57, 52, 57, 53, 57, 54, 57, 55, 57, 56, 57, 57]⟩))) (.t 62), none⟩, 8, false),
             (⟨some 64, .mv (.t 8), none⟩, 9, false),
             (⟨some 65, .idxS (.k (.sc (.str ⟨#[48, 48, 48, 49, 48, 50, 48, 51, 48, 52, 48, 53, 48, 54, 48, 55, 48, 56, 48, 57, 49, 48, 49, 49, 49, 50, 49, 51, 49, 52, 49, 53, 49, 54, 49, 55, 49, 56, 49, 57, 50, 48, 50, 49, 50, 50, 50, 51, 50, 52, 50, 53, 50, 54, 50, 55, 50, 56, 50, 57, 51, 48, 51, 49, 51, 50, 51, 51, 51, 52, 51, 53, 51, 54, 51, 55, 51, 56, 51, 57, 52, 48, 52, 49, 52, 50, 52, 51, 52, 52, 52, 53, 52, 54, 52, 55, 52, 56, 52, 57, 53, 48, 53, 49, 53, 50, 53, 51, 53, 52, 53, 53, 53, 54, 53, 55, 53, 56, 53, 57, 54, 48, 54, 49, 54, 50, 54, 51, 54, 52, 54, 53, 54, 54, 54, 55, 54, 56, 54, 57, 55, 48, 55, 49, 55, 50, 55, 51, 55, 52, 55, 53, 55, 54, 55, 55, 55, 56, 55, 57, 56, 48, 56, 49, 56, 50, 56, 51, 56, 52, 56, 53, 56, 54, 56, 55, 56, 56, 56, 57, 57, 48, 57, 49, 57, 50, 57, 51, 57, 52, 57, 53, 57, 54, 57, 55, 57, 56, 57, 57]⟩))) (.t 64), none⟩, 10, false),
             (⟨some 66, .idxA 1 (.t 55) (.t 57), none⟩, 11, false),
             (⟨none, .st 1 (.t 66) (.t 63), none⟩, 12, true),
             (⟨some 67, .idxA 1 (.t 58) (.t 60), none⟩, 13, false),
             (⟨none, .st 1 (.t 67) (.t 65), none⟩, 14, true)] [0, 1, 4, 10, 11])
          (.seq (.regd [(⟨some 68, .mv (.t 0), none⟩, 0, false),
              (⟨some 69, .mv (.t 4), none⟩, 1, false),
              (⟨some 70, .bin .sub (.t 69) (.k (.sc (.int .i64 5))), none⟩, 2, false),
              (⟨some 71, .mv (.t 0), none⟩, 3, false),
              (⟨some 72, .mv (.t 4), none⟩, 4, false),
              (⟨some 73, .bin .sub (.t 72) (.k (.sc (.int .i64 6))), none⟩, 5, false),
              (⟨some 74, .mv (.t 11), none⟩, 6, false),
              (⟨some 75, .bin .add (.t 74) (.k (.sc (.int .u32 1))), none⟩, 7, false),
              (⟨some 76, .idxS (.k (.sc (.str ⟨#[48, 48, 48, 49, 48, 50, 48, 51, 48, 52, 48, 53, 48, 54, 48, 55, 48, 56, 48, 57, 49, 48, 49, 49, 49, 50, 49, 51, 49, 52, 49, 53, 49, 54, 49, 55, 49, 56, 49, 57, 50, 48, 50, 49, 50, 50, 50, 51, 50, 52, 50, 53, 50, 54, 50, 55, 50, 56, 50, 57, 51, 48, 51, 49, 51, 50, 51, 51, 51, 52, 51, 53, 51, 54, 51, 55, 51, 56, 51, 57, 52, 48, 52, 49, 52, 50, 52, 51, 52, 52, 52, 53, 52, 54, 52, 55, 52, 56, 52, 57, 53, 48, 53, 49, 53, 50, 53, 51, 53, 52, 53, 53, 53, 54, 53, 55, 53, 56, 53, 57, 54, 48, 54, 49, 54, 50, 54, 51, 54, 52, 54, 53, 54, 54, 54, 55, 54, 56, 54, 57, 55, 48, 55, 49, 55, 50, 55, 51, 55, 52, 55, 53, 55, 54, 55, 55, 55, 56, 55, 57, 56, 48, 56, 49, 56, 50, 56, 51, 56, 52, 56, 53, 56, 54, 56, 55, 56, 56, 56, 57, 57, 48, 57, 49, 57, 50, 57, 51, 57, 52, 57, 53, 57, 54, 57, 55, 57, 56, 57, 57]⟩))) (.t 75), none⟩, 8, false),
              (⟨some 77, .mv (.t 11), none⟩, 9, false),
              (⟨some 78, .idxS (.k (.sc (.str ⟨#[48, 48, 48, 49, 48, 50, 48, 51, 48, 52, 48, 53, 48, 54, 48, 55, 48, 56, 48, 57, 49, 48, 49, 49, 49, 50, 49, 51, 49, 52, 49, 53, 49, 54, 49, 55, 49, 56, 49, 57, 50, 48, 50, 49, 50, 50, 50, 51, 50, 52, 50, 53, 50, 54, 50, 55, 50, 56, 50, 57, 51, 48, 51, 49, 51, 50, 51, 51, 51, 52, 51, 53, 51, 54, 51, 55, 51, 56, 51, 57, 52, 48, 52, 49, 52, 50, 52, 51, 52, 52, 52, 53, 52, 54, 52, 55, 52, 56, 52, 57, 53, 48, 53, 49, 53, 50, 53, 51, 53, 52, 53, 53, 53, 54, 53, 55, 53, 56, 53, 57, 54, 48, 54, 49, 54, 50, 54, 51, 54, 52, 54, 53, 54, 54, 54, 55, 54, 56, 54, 57, 55, 48, 55, 49, 55, 50, 55, 51, 55, 52, 55, 53, 55, 54, 55, 55, 55, 56, 55, 57, 56, 48, 56, 49, 56, 50, 56, 51, 56, 52, 56, 53, 56, 54, 56, 55, 56, 56, 56, 57, 57, 48, 57, 49, 57, 50, 57, 51, 57, 52, 57, 53, 57, 54, 57, 55, 57, 56, 57, 57]⟩))) (.t 77), none⟩, 10, false),
              (⟨some 79, .idxA 1 (.t 68) (.t 70), none⟩, 11, false),
              (⟨none, .st 1 (.t 79) (.t 76), none⟩, 12, true),
              (⟨some 80, .idxA 1 (.t 71) (.t 73), none⟩, 13, false),
              (⟨none, .st 1 (.t 80) (.t 78), none⟩, 14, true)] [0, 1, 4, 10])
           (.seq (.regd [(⟨some 81, .mv (.t 0), none⟩, 0, false),
               (⟨some 82, .mv (.t 4), none⟩, 1, false),
               (⟨some 83, .bin .sub (.t 82) (.k (.sc (.int .i64 7))), none⟩, 2, false),
               (⟨some 84, .mv (.t 0), none⟩, 3, false),
               (⟨some 85, .mv (.t 4), none⟩, 4, false),
               (⟨some 86, .bin .sub (.t 85) (.k (.sc (.int .i64 8))), none⟩, 5, false),
               (⟨some 87, .mv (.t 10), none⟩, 6, false),
               (⟨some 88, .bin .add (.t 87) (.k (.sc (.int .u32 1))), none⟩, 7, false),
               (⟨some 89, .idxS (.k (.sc (.str ⟨#[48, 48, 48, 49, 48, 50, 48, 51, 48, 52, 48, 53, 48, 54, 48, 55, 48, 56, 48, 57, 49, 48, 49, 49, 49, 50, 49, 51, 49, 52, 49, 53, 49, 54, 49, 55, 49, 56, 49, 57, 50, 48, 50, 49, 50, 50, 50, 51, 50, 52, 50, 53, 50, 54, 50, 55, 50, 56, 50, 57, 51, 48, 51, 49, 51, 50, 51, 51, 51, 52, 51, 53, 51, 54, 51, 55, 51, 56, 51, 57, 52, 48, 52, 49, 52, 50, 52, 51, 52, 52, 52, 53, 52, 54, 52, 55, 52, 56, 52, 57, 53, 48, 53, 49, 53, 50, 53, 51, 53, 52, 53, 53, 53, 54, 53, 55, 53, 56, 53, 57, 54, 48, 54, 49, 54, 50, 54, 51, 54, 52, 54, 53, 54, 54, 54, 55, 54, 56, 54, 57, 55, 48, 55, 49, 55, 50, 55, 51, 55, 52, 55, 53, 55, 54, 55, 55, 55, 56, 55, 57, 56, 48, 56, 49, 56, 50, 56, 51, 56, 52, 56, 53, 56, 54, 56, 55, 56, 56, 56, 57, 57, 48, 57, 49, 57, 50, 57, 51, 57, 52, 57, 53, 57, 54, 57, 55, 57, 56, 57, 57]⟩))) (.t 88), none⟩, 8, false),
               (⟨some 90, .mv (.t 10), none⟩, 9, false),
               (⟨some 91, .idxS (.k (.sc (.str ⟨#[48, 48, 48, 49, 48, 50, 48, 51, 48, 52, 48, 53, 48, 54, 48, 55, 48, 56, 48, 57, 49, 48, 49, 49, 49, 50, 49, 51, 49, 52, 49, 53, 49, 54, 49, 55, 49, 56, 49, 57, 50, 48, 50, 49, 50, 50, 50, 51, 50, 52, 50, 53, 50, 54, 50, 55, 50, 56, 50, 57, 51, 48, 51, 49, 51, 50, 51, 51, 51, 52, 51, 53, 51, 54, 51, 55, 51, 56, 51, 57, 52, 48, 52, 49, 52, 50, 52, 51, 52, 52, 52, 53, 52, 54, 52, 55, 52, 56, 52, 57, 53, 48, 53, 49, 53, 50, 53, 51, 53, 52, 53, 53, 53, 54, 53, 55, 53, 56, 53, 57, 54, 48, 54, 49, 54, 50, 54, 51, 54, 52, 54, 53, 54, 54, 54, 55, 54, 56, 54, 57, 55, 48, 55, 49, 55, 50, 55, 51, 55, 52, 55, 53, 55, 54, 55, 55, 55, 56, 55, 57, 56, 48, 56, 49, 56, 50, 56, 51, 56, 52, 56, 53, 56, 54, 56, 55, 56, 56, 56, 57, 57, 48, 57, 49, 57, 50, 57, 51, 57, 52, 57, 53, 57, 54, 57, 55, 57, 56, 57, 57]⟩))) (.t 90), none⟩, 10, false),
               (⟨some 92, .idxA 1 (.t 81) (.t 83), none⟩, 11, false),
               (⟨none, .st 1 (.t 92) (.t 89), none⟩, 12, true),
               (⟨some 93, .idxA 1 (.t 84) (.t 86), none⟩, 13, false),
               (⟨none, .st 1 (.t 93) (.t 91), none⟩, 14, true)] [0, 1, 4])
            (.reg [⟨some 94, .mv (.t 4), none⟩,
               ⟨some 95, .bin .sub (.t 94) (.k (.sc (.int .i64 8))), none⟩,
               ⟨some 4, .mv (.t 95), none⟩] [0, 1, 4])))))))))))
/-- internal/strconv.formatBase10 -/
def b54 : AC :=
  .seq (.reg [⟨some 17, .mv (.t 0), none⟩,
     ⟨some 18, .len false (.t 17), none⟩,
     ⟨some 4, .mv (.t 18), none⟩] [0, 1, 4])
  (.seq (.block 0 (.loop [0, 1, 4] b54L0))
   (.seq (.reg [⟨some 96, .mv (.t 1), none⟩,
       ⟨some 97, .conv .u32 (.t 96), none⟩,
       ⟨some 12, .mv (.t 97), none⟩] [0, 4, 12])
    (.seq (.seq (.reg [⟨some 98, .mv (.t 4), none⟩,
         ⟨some 99, .bin .geq (.t 98) (.k (.sc (.int .i64 4))), none⟩] [0, 4, 12, 99])
      (.cond (.t 99)
        (.seq (.reg [⟨some 100, .mv (.t 12), none⟩,
            ⟨some 101, .bin .rem (.t 100) (.k (.sc (.int .u32 10000))), none⟩,
            ⟨some 13, .mv (.t 101), none⟩] [0, 4, 12, 13])
         (.seq (.reg [⟨some 102, .mv (.t 12), none⟩,
             ⟨some 103, .bin .quo (.t 102) (.k (.sc (.int .u32 10000))), none⟩,
             ⟨some 12, .mv (.t 103), none⟩] [0, 4, 12, 13])
          (.seq (.reg [⟨some 104, .mv (.t 13), none⟩,
              ⟨some 105, .bin .quo (.t 104) (.k (.sc (.int .u32 100))), none⟩,
              ⟨some 106, .bin .mul (.t 105) (.k (.sc (.int .u32 2))), none⟩,
              ⟨some 107, .mv (.t 13), none⟩,
              ⟨some 108, .bin .rem (.t 107) (.k (.sc (.int .u32 100))), none⟩,
              ⟨some 109, .bin .mul (.t 108) (.k (.sc (.int .u32 2))), none⟩,
              ⟨some 14, .mv (.t 106), none⟩,
              ⟨some 15, .mv (.t 109), none⟩] [0, 4, 12, 14, 15])
           (.seq (.regd [(⟨some 110, .mv (.t 0), none⟩, 0, false),
               (⟨some 111, .mv (.t 4), none⟩, 1, false),
               (⟨some 112, .bin .sub (.t 111) (.k (.sc (.int .i64 1))), none⟩, 2, false),
               (⟨some 113, .mv (.t 0), none⟩, 3, false),
               (⟨some 114, .mv (.t 4), none⟩, 4, false),
               (⟨some 115, .bin .sub (.t 114) (.k (.sc (.int .i64 2))), none⟩, 5, false),
               (⟨some 116, .mv (.t 15), none⟩, 6, false),
               (⟨some 117, .bin .add (.t 116) (.k (.sc (.int .u32 1))), none⟩, 7, false),
               (⟨some 118, .idxS (.k (.sc (.str ⟨#[48, 48, 48, 49, 48, 50, 48, 51, 48, 52, 48, 53, 48, 54, 48, 55, 48, 56, 48, 57, 49, 48, 49, 49, 49, 50, 49, 51, 49, 52, 49, 53, 49, 54, 49, 55, 49, 56, 49, 57, 50, 48, 50, 49, 50, 50, 50, 51, 50, 52, 50, 53, 50, 54, 50, 55, 50, 56, 50, 57, 51, 48, 51, 49, 51, 50, 51, 51, 51, 52, 51, 53, 51, 54, 51, 55, 51, 56, 51, 57, 52, 48, 52, 49, 52, 50, 52, 51, 52, 52, 52, 53, 52, 54, 52, 55, 52, 56, 52, 57, 53, 48, 53, 49, 53, 50, 53, 51, 53, 52, 53, 53, 53, 54, 53, 55, 53, 56, 53, 57, 54, 48, 54, 49, 54, 50, 54, 51, 54, 52, 54, 53, 54, 54, 54, 55, 54, 56, 54, 57, 55, 48, 55, 49, 55, 50, 55, 51, 55, 52, 55, 53, 55, 54, 55, 55, 55, 56, 55, 57, 56, 48, 56, 49, 56, 50, 56, 51, 56, 52, 56, 53, 56, 54, 56, 55, 56, 56, 56, 57, 57, 48, 57, 49, 57, 50, 57, 51, 57, 52, 57, 53, 57, 54, 57, 55, 57, 56, 57, 57]⟩))) (.t 117), none⟩, 8, false),
               (⟨some 119, .mv (.t 15), none⟩, 9, false),
               (⟨some 120, .idxS (.k (.sc (.str ⟨#[48, 48, 48, 49, 48, 50, 48, 51, 48, 52, 48, 53, 48, 54, 48, 55, 48, 56, 48, 57, 49, 48, 49, 49, 49, 50, 49, 51, 49, 52, 49, 53, 49, 54, 49, 55, 49, 56, 49, 57, 50, 48, 50, 49, 50, 50, 50, 51, 50, 52, 50, 53, 50, 54, 50, 55, 50, 56, 50, 57, 51, 48, 51, 49, 51, 50, 51, 51, 51, 52, 51, 53, 51, 54, 51, 55, 51, 56, 51, 57, 52, 48, 52, 49, 52, 50, 52, 51, 52, 52, 52, 53, 52, 54, 52, 55, 52, 56, 52, 57, 53, 48, 53, 49, 53, 50, 53, 51, 53, 52, 53, 53, 53, 54, 53, 55, 53, 56, 53, 57, 54, 48, 54, 49, 54, 50, 54, 51, 54, 52, 54, 53, 54, 54, 54, 55, 54, 56, 54, 57, 55, 48, 55, 49, 55, 50, 55, 51, 55, 52, 55, 53, 55, 54, 55, 55, 55, 56, 55, 57, 56, 48, 56, 49, 56, 50, 56, 51, 56, 52, 56, 53, 56, 54, 56, 55, 56, 56, 56, 57, 57, 48, 57, 49, 57, 50, 57, 51, 57, 52, 57, 53, 57, 54, 57, 55, 57, 56, 57, 57]⟩))) (.t 119), none⟩, 10, false),
               (⟨some 121, .idxA 1 (.t 110) (.t 112), none⟩, 11, false),
               (⟨none, .st 1 (.t 121) (.t 118), none⟩, 12, true),
               (⟨some 122, .idxA 1 (.t 113) (.t 115), none⟩, 13, false),
               (⟨none, .st 1 (.t 122) (.t 120), none⟩, 14, true)] [0, 4, 12, 14])
            (.seq (.regd [(⟨some 123, .mv (.t 0), none⟩, 0, false),
                (⟨some 124, .mv (.t 4), none⟩, 1, false),
                (⟨some 125, .bin .sub (.t 124) (.k (.sc (.int .i64 3))), none⟩, 2, false),
                (⟨some 126, .mv (.t 0), none⟩, 3, false),
                (⟨some 127, .mv (.t 4), none⟩, 4, false),
                (⟨some 128, .bin .sub (.t 127) (.k (.sc (.int .i64 4))), none⟩, 5, false),
                (⟨some 129, .mv (.t 14), none⟩, 6, false),
                (⟨some 130, .bin .add (.t 129) (.k (.sc (.int .u32 1))), none⟩, 7, false),
                (⟨some 131, .idxS (.k (.sc (.str ⟨#[48, 48, 48, 49, 48, 50, 48, 51, 48, 52, 48, 53, 48, 54, 48, 55, 48, 56, 48, 57, 49, 48, 49, 49, 49, 50, 49, 51, 49, 52, 49, 53, 49, 54, 49, 55, 49, 56, 49, 57, 50, 48, 50, 49, 50, 50, 50, 51, 50, 52, 50, 53, 50, 54, 50, 55, 50, 56, 50, 57, 51, 48, 51, 49, 51, 50, 51, 51, 51, 52, 51, 53, 51, 54, 51, 55, 51, 56, 51, 57, 52, 48, 52, 49, 52, 50, 52, 51, 52, 52, 52, 53, 52, 54, 52, 55, 52, 56, 52, 57, 53, 48, 53, 49, 53, 50, 53, 51, 53, 52, 53, 53, 53, 54, 53, 55, 53, 56, 53, 57, 54, 48, 54, 49, 54, 50, 54, 51, 54, 52, 54, 53, 54, 54, 54, 55, 54, 56, 54, 57, 55, 48, 55, 49, 55, 50, 55, 51, 55, 52, 55, 53, 55, 54, 55, 55, 55, 56, 55, 57, 56, 48, 56, 49, 56, 50, 56, 51, 56, 52, 56, 53, 56, 54, 56, 55, 56, 56, 56, 57, 57, 48, 57, 49, 57, 50, 57, 51, 57, 52, 57, 53, 57, 54, 57, 55, 57, 56, 57, 57]⟩))) (.t 130), none⟩, 8, false),
                (⟨some 132, .mv (.t 14), none⟩, 9, false),
                (⟨some 133, .idxS (.k (.sc (.str ⟨#[48, 48, 48, 49, 48, 50, 48, 51, 48, 52, 48, 53, 48, 54, 48, 55, 48, 56, 48, 57, 49, 48, 49, 49, 49, 50, 49, 51, 49, 52, 49, 53, 49, 54, 49, 55, 49, 56, 49, 57, 50, 48, 50, 49, 50, 50, 50, 51, 50, 52, 50, 53, 50, 54, 50, 55, 50, 56, 50, 57, 51, 48, 51, 49, 51, 50, 51, 51, 51, 52, 51, 53, 51, 54, 51, 55, 51, 56, 51, 57, 52, 48, 52, 49, 52, 50, 52, 51, 52, 52, 52, 53, 52, 54, 52, 55, 52, 56, 52, 57, 53, 48, 53, 49, 53, 50, 53, 51, 53, 52, 53, 53, 53, 54, 53, 55, 53, 56, 53, 57, 54, 48, 54, 49, 54, 50, 54, 51, 54, 52, 54, 53, 54, 54, 54, 55, 54, 56, 54, 57, 55, 48, 55, 49, 55, 50, 55, 51, 55, 52, 55, 53, 55, 54, 55, 55, 55, 56, 55, 57, 56, 48, 56, 49, 56, 50, 56, 51, 56, 52, 56, 53, 56, 54, 56, 55, 56, 56, 56, 57, 57, 48, 57, 49, 57, 50, 57, 51, 57, 52, 57, 53, 57, 54, 57, 55, 57, 56, 57, 57]⟩))) (.t 132), none⟩, 10, false),
                (⟨some 134, .idxA 1 (.t 123) (.t 125), none⟩, 11, false),
                (⟨none, .st 1 (.t 134) (.t 131), none⟩, 12, true),
                (⟨some 135, .idxA 1 (.t 126) (.t 128), none⟩, 13, false),
                (⟨none, .st 1 (.t 135) (.t 133), none⟩, 14, true)] [0, 4, 12])
             (.reg [⟨some 136, .mv (.t 4), none⟩,
                ⟨some 137, .bin .sub (.t 136) (.k (.sc (.int .i64 4))), none⟩,
                ⟨some 4, .mv (.t 137), none⟩] [0, 4, 12]))))))
        (.skip)))
     (.seq (.seq (.reg [⟨some 138, .mv (.t 4), none⟩,
          ⟨some 139, .bin .geq (.t 138) (.k (.sc (.int .i64 2))), none⟩] [0, 4, 12, 139])
       (.cond (.t 139)
         (.seq (.reg [⟨some 140, .mv (.t 12), none⟩,
             ⟨some 141, .bin .rem (.t 140) (.k (.sc (.int .u32 100))), none⟩,
             ⟨some 142, .bin .mul (.t 141) (.k (.sc (.int .u32 2))), none⟩,
             ⟨some 16, .mv (.t 142), none⟩] [0, 4, 12, 16])
          (.seq (.reg [⟨some 143, .mv (.t 12), none⟩,
              ⟨some 144, .bin .quo (.t 143) (.k (.sc (.int .u32 100))), none⟩,
              ⟨some 12, .mv (.t 144), none⟩] [0, 4, 12, 16])
           (.seq (.regd [(⟨some 145, .mv (.t 0), none⟩, 0, false),
               (⟨some 146, .mv (.t 4), none⟩, 1, false),
               (⟨some 147, .bin .sub (.t 146) (.k (.sc (.int .i64 1))), none⟩, 2, false),
               (⟨some 148, .mv (.t 0), none⟩, 3, false),
               (⟨some 149, .mv (.t 4), none⟩, 4, false),
               (⟨some 150, .bin .sub (.t 149) (.k (.sc (.int .i64 2))), none⟩, 5, false),
               (⟨some 151, .mv (.t 16), none⟩, 6, false),
               (⟨some 152, .bin .add (.t 151) (.k (.sc (.int .u32 1))), none⟩, 7, false),
               (⟨some 153, .idxS (.k (.sc (.str ⟨#[48, 48, 48, 49, 48, 50, 48, 51, 48, 52, 48, 53, 48, 54, 48, 55, 48, 56, 48, 57, 49, 48, 49, 49, 49, 50, 49, 51, 49, 52, 49, 53, 49, 54, 49, 55, 49, 56, 49, 57, 50, 48, 50, 49, 50, 50, 50, 51, 50, 52, 50, 53, 50, 54, 50, 55, 50, 56, 50, 57, 51, 48, 51, 49, 51, 50, 51, 51, 51, 52, 51, 53, 51, 54, 51, 55, 51, 56, 51, 57, 52, 48, 52, 49, 52, 50, 52, 51, 52, 52, 52, 53, 52, 54, 52, 55, 52, 56, 52, 57, 53, 48, 53, 49, 53, 50, 53, 51, 53, 52, 53, 53, 53, 54, 53, 55, 53, 56, 53, 57, 54, 48, 54, 49, 54, 50, 54, 51, 54, 52, 54, 53, 54, 54, 54, 55, 54, 56, 54, 57, 55, 48, 55, 49, 55, 50, 55, 51, 55, 52, 55, 53, 55, 54, 55, 55, 55, 56, 55, 57, 56, 48, 56, 49, 56, 50, 56, 51, 56, 52, 56, 53, 56, 54, 56, 55, 56, 56, 56, 57, 57, 48, 57, 49, 57, 50, 57, 51, 57, 52, 57, 53, 57, 54, 57, 55, 57, 56, 57, 57]⟩))) (.t 152), none⟩, 8, false),
               (⟨some 154, .mv (.t 16), none⟩, 9, false),
               (⟨some 155, .idxS (.k (.sc (.str ⟨#[48, 48, 48, 49, 48, 50, 48, 51, 48, 52, 48, 53, 48, 54, 48, 55, 48, 56, 48, 57, 49, 48, 49, 49, 49, 50, 49, 51, 49, 52, 49, 53, 49, 54, 49, 55, 49, 56, 49, 57, 50, 48, 50, 49, 50, 50, 50, 51, 50, 52, 50, 53, 50, 54, 50, 55, 50, 56, 50, 57, 51, 48, 51, 49, 51, 50, 51, 51, 51, 52, 51, 53, 51, 54, 51, 55, 51, 56, 51, 57, 52, 48, 52, 49, 52, 50, 52, 51, 52, 52, 52, 53, 52, 54, 52, 55, 52, 56, 52, 57, 53, 48, 53, 49, 53, 50, 53, 51, 53, 52, 53, 53, 53, 54, 53, 55, 53, 56, 53, 57, 54, 48, 54, 49, 54, 50, 54, 51, 54, 52, 54, 53, 54, 54, 54, 55, 54, 56, 54, 57, 55, 48, 55, 49, 55, 50, 55, 51, 55, 52, 55, 53, 55, 54, 55, 55, 55, 56, 55, 57, 56, 48, 56, 49, 56, 50, 56, 51, 56, 52, 56, 53, 56, 54, 56, 55, 56, 56, 56, 57, 57, 48, 57, 49, 57, 50, 57, 51, 57, 52, 57, 53, 57, 54, 57, 55, 57, 56, 57, 57]⟩))) (.t 154), none⟩, 10, false),
               (⟨some 156, .idxA 1 (.t 145) (.t 147), none⟩, 11, false),
               (⟨none, .st 1 (.t 156) (.t 153), none⟩, 12, true),
               (⟨some 157, .idxA 1 (.t 148) (.t 150), none⟩, 13, false),
               (⟨none, .st 1 (.t 157) (.t 155), none⟩, 14, true)] [0, 4, 12])
            (.reg [⟨some 158, .mv (.t 4), none⟩,
               ⟨some 159, .bin .sub (.t 158) (.k (.sc (.int .i64 2))), none⟩,
               ⟨some 4, .mv (.t 159), none⟩] [0, 4, 12]))))
         (.skip)))
      (.seq (.reg [⟨some 160, .mv (.t 4), none⟩,
          ⟨some 161, .bin .gtr (.t 160) (.k (.sc (.int .i64 0))), none⟩] [0, 12, 161])
       (.cond (.t 161)
         (.reg [⟨some 162, .mv (.t 0), none⟩,
            ⟨some 163, .mv (.t 12), none⟩,
            ⟨some 164, .bin .add (.k (.sc (.int .u32 48))) (.t 163), none⟩,
            ⟨some 165, .conv .u8 (.t 164), none⟩,
            ⟨some 166, .idxA 1 (.t 162) (.k (.sc (.int .i64 0))), none⟩,
            ⟨none, .st 1 (.t 166) (.t 165), none⟩] [])
         (.skip)))))))
def a54 : AFun := ⟨2, b54, []⟩

def b55L0 : AC :=
  .seq (.seq (.reg [⟨some 44, .mv (.t 1), none⟩,
      ⟨some 45, .mv (.t 15), none⟩,
      ⟨some 46, .bin .geq (.t 44) (.t 45), none⟩] [0, 1, 3, 4, 10, 11, 12, 13, 14, 15, 16, 46])
   (.cond (.t 46)
     (.skip)
     (.exit 0)))
  (.block 1 (.seq (.reg [⟨some 47, .mv (.t 13), none⟩,
       ⟨some 48, .bin .sub (.t 47) (.k (.sc (.int .i64 1))), none⟩,
       ⟨some 13, .mv (.t 48), none⟩] [0, 1, 3, 4, 10, 11, 12, 13, 14, 15, 16])
    (.seq (.reg [⟨some 49, .mv (.t 13), none⟩,
        ⟨some 50, .mv (.t 1), none⟩,
        ⟨some 51, .mv (.t 16), none⟩,
        ⟨some 52, .bin .and (.t 50) (.t 51), none⟩,
        ⟨some 53, .idxS (.k (.sc (.str ⟨#[48, 49, 50, 51, 52, 53, 54, 55, 56, 57, 97, 98, 99, 100, 101, 102, 103, 104, 105, 106, 107, 108, 109, 110, 111, 112, 113, 114, 115, 116, 117, 118, 119, 120, 121, 122]⟩))) (.t 52), none⟩,
        ⟨some 54, .idxP 65 1 (.t 12) (.t 49), none⟩,
        ⟨none, .st 1 (.t 54) (.t 53), none⟩] [0, 1, 3, 4, 10, 11, 12, 13, 14, 15, 16])
     (.reg [⟨some 55, .mv (.t 1), none⟩,
        ⟨some 56, .mv (.t 14), none⟩,
        ⟨some 57, .bin .shr (.t 55) (.t 56), none⟩,
        ⟨some 1, .mv (.t 57), none⟩] [0, 1, 3, 4, 10, 11, 12, 13, 14, 15, 16]))))
def b55L1 : AC :=
  .seq (.seq (.reg [⟨some 66, .mv (.t 1), none⟩,
      ⟨some 67, .mv (.t 17), none⟩,
      ⟨some 68, .bin .geq (.t 66) (.t 67), none⟩] [0, 1, 3, 4, 10, 11, 12, 13, 17, 68])
   (.cond (.t 68)
     (.skip)
     (.exit 2)))
  (.block 3 (.seq (.reg [⟨some 69, .mv (.t 13), none⟩,
       ⟨some 70, .bin .sub (.t 69) (.k (.sc (.int .i64 1))), none⟩,
       ⟨some 13, .mv (.t 70), none⟩] [0, 1, 3, 4, 10, 11, 12, 13, 17])
    (.seq (.reg [⟨some 71, .mv (.t 1), none⟩,
        ⟨some 72, .mv (.t 17), none⟩,
        ⟨some 73, .bin .quo (.t 71) (.t 72), none⟩,
        ⟨some 18, .mv (.t 73), none⟩] [0, 1, 3, 4, 10, 11, 12, 13, 17, 18])
     (.seq (.reg [⟨some 74, .mv (.t 13), none⟩,
         ⟨some 75, .mv (.t 1), none⟩,
         ⟨some 76, .mv (.t 18), none⟩,
         ⟨some 77, .mv (.t 17), none⟩,
         ⟨some 78, .bin .mul (.t 76) (.t 77), none⟩,
         ⟨some 79, .bin .sub (.t 75) (.t 78), none⟩,
         ⟨some 80, .idxS (.k (.sc (.str ⟨#[48, 49, 50, 51, 52, 53, 54, 55, 56, 57, 97, 98, 99, 100, 101, 102, 103, 104, 105, 106, 107, 108, 109, 110, 111, 112, 113, 114, 115, 116, 117, 118, 119, 120, 121, 122]⟩))) (.t 79), none⟩,
         ⟨some 81, .idxP 65 1 (.t 12) (.t 74), none⟩,
         ⟨none, .st 1 (.t 81) (.t 80), none⟩] [0, 3, 4, 10, 11, 12, 13, 17, 18])
      (.reg [⟨some 82, .mv (.t 18), none⟩,
         ⟨some 1, .mv (.t 82), none⟩] [0, 1, 3, 4, 10, 11, 12, 13, 17])))))
/-- internal/strconv.formatBits -/
def b55 : AC :=
  .seq (.reg [⟨some 10, .mv (.k (.sc .nilS)), none⟩,
     ⟨some 11, .mv (.k (.sc (.str ⟨#[]⟩))), none⟩] [0, 1, 2, 3, 4, 10, 11])
  (.seq (.seq (.reg [⟨some 19, .mv (.t 2), none⟩,
       ⟨some 20, .bin .lss (.t 19) (.k (.sc (.int .i64 2))), none⟩,
       ⟨some 21, .mv (.t 20), none⟩,
       ⟨some 22, .mv (.t 2), (some (21, false))⟩,
       ⟨some 23, .bin .eql (.t 22) (.k (.sc (.int .i64 10))), (some (21, false))⟩,
       ⟨some 24, .pick (.t 21) (.k (.sc (.bool true))) (.t 23), none⟩,
       ⟨some 25, .mv (.t 24), none⟩,
       ⟨some 26, .mv (.t 2), (some (25, false))⟩,
       ⟨some 27, .bin .gtr (.t 26) (.k (.sc (.int .i64 36))), (some (25, false))⟩,
       ⟨some 28, .pick (.t 25) (.k (.sc (.bool true))) (.t 27), none⟩] [0, 1, 2, 3, 4, 10, 11, 28])
    (.cond (.t 28)
      (.reg [⟨some 29, .bad, none⟩,
         ⟨none, .bad, none⟩] [0, 1, 2, 3, 4, 10, 11])
      (.skip)))
   (.seq (.reg [⟨some 12, .new [.int .u8 0, .int .u8 0, .int .u8 0, .int .u8 0, .int .u8 0, .int .u8 0, .int .u8 0, .int .u8 0, .int .u8 0, .int .u8 0, .int .u8 0, .int .u8 0, .int .u8 0, .int .u8 0, .int .u8 0, .int .u8 0, .int .u8 0, .int .u8 0, .int .u8 0, .int .u8 0, .int .u8 0, .int .u8 0, .int .u8 0, .int .u8 0, .int .u8 0, .int .u8 0, .int .u8 0, .int .u8 0, .int .u8 0, .int .u8 0, .int .u8 0, .int .u8 0, .int .u8 0, .int .u8 0, .int .u8 0, .int .u8 0, .int .u8 0, .int .u8 0, .int .u8 0, .int .u8 0, .int .u8 0, .int .u8 0, .int .u8 0, .int .u8 0, .int .u8 0, .int .u8 0, .int .u8 0, .int .u8 0, .int .u8 0, .int .u8 0, .int .u8 0, .int .u8 0, .int .u8 0, .int .u8 0, .int .u8 0, .int .u8 0, .int .u8 0, .int .u8 0, .int .u8 0, .int .u8 0, .int .u8 0, .int .u8 0, .int .u8 0, .int .u8 0, .int .u8 0], none⟩] [0, 1, 2, 3, 4, 10, 11, 12])
    (.seq (.reg [⟨some 13, .mv (.k (.sc (.int .i64 65))), none⟩] [0, 1, 2, 3, 4, 10, 11, 12, 13])
     (.seq (.seq (.reg [⟨some 30, .mv (.t 3), none⟩] [0, 1, 2, 3, 4, 10, 11, 12, 13, 30])
       (.cond (.t 30)
         (.reg [⟨some 31, .mv (.t 1), none⟩,
            ⟨some 32, .un .neg (.t 31), none⟩,
            ⟨some 1, .mv (.t 32), none⟩] [0, 1, 2, 3, 4, 10, 11, 12, 13])
         (.skip)))
      (.seq (.seq (.reg [⟨some 33, .mv (.t 2), none⟩,
           ⟨some 34, .call 66 [(.t 33)], none⟩] [0, 1, 2, 3, 4, 10, 11, 12, 13, 34])
        (.cond (.t 34)
          (.seq (.reg [⟨some 35, .mv (.t 2), none⟩,
              ⟨some 36, .conv .u64 (.t 35), none⟩,
              ⟨some 37, .call 67 [(.t 36)], none⟩,
              ⟨some 38, .conv .u64 (.t 37), none⟩,
              ⟨some 14, .mv (.t 38), none⟩] [0, 1, 2, 3, 4, 10, 11, 12, 13, 14])
           (.seq (.reg [⟨some 39, .mv (.t 2), none⟩,
               ⟨some 40, .conv .u64 (.t 39), none⟩,
               ⟨some 15, .mv (.t 40), none⟩] [0, 1, 2, 3, 4, 10, 11, 12, 13, 14, 15])
            (.seq (.reg [⟨some 41, .mv (.t 2), none⟩,
                ⟨some 42, .conv .u64 (.t 41), none⟩,
                ⟨some 43, .bin .sub (.t 42) (.k (.sc (.int .u64 1))), none⟩,
                ⟨some 16, .mv (.t 43), none⟩] [0, 1, 3, 4, 10, 11, 12, 13, 14, 15, 16])
             (.seq (.block 0 (.loop [0, 1, 3, 4, 10, 11, 12, 13, 14, 15, 16] b55L0))
              (.seq (.reg [⟨some 58, .mv (.t 13), none⟩,
                  ⟨some 59, .bin .sub (.t 58) (.k (.sc (.int .i64 1))), none⟩,
                  ⟨some 13, .mv (.t 59), none⟩] [0, 1, 3, 4, 10, 11, 12, 13])
               (.reg [⟨some 60, .mv (.t 13), none⟩,
                  ⟨some 61, .mv (.t 1), none⟩,
                  ⟨some 62, .idxS (.k (.sc (.str ⟨#[48, 49, 50, 51, 52, 53, 54, 55, 56, 57, 97, 98, 99, 100, 101, 102, 103, 104, 105, 106, 107, 108, 109, 110, 111, 112, 113, 114, 115, 116, 117, 118, 119, 120, 121, 122]⟩))) (.t 61), none⟩,
                  ⟨some 63, .idxP 65 1 (.t 12) (.t 60), none⟩,
                  ⟨none, .st 1 (.t 63) (.t 62), none⟩] [0, 3, 4, 10, 11, 12, 13]))))))
          (.seq (.reg [⟨some 64, .mv (.t 2), none⟩,
              ⟨some 65, .conv .u64 (.t 64), none⟩,
              ⟨some 17, .mv (.t 65), none⟩] [0, 1, 3, 4, 10, 11, 12, 13, 17])
           (.seq (.block 2 (.loop [0, 1, 3, 4, 10, 11, 12, 13, 17] b55L1))
            (.seq (.reg [⟨some 83, .mv (.t 13), none⟩,
                ⟨some 84, .bin .sub (.t 83) (.k (.sc (.int .i64 1))), none⟩,
                ⟨some 13, .mv (.t 84), none⟩] [0, 1, 3, 4, 10, 11, 12, 13])
             (.reg [⟨some 85, .mv (.t 13), none⟩,
                ⟨some 86, .mv (.t 1), none⟩,
                ⟨some 87, .idxS (.k (.sc (.str ⟨#[48, 49, 50, 51, 52, 53, 54, 55, 56, 57, 97, 98, 99, 100, 101, 102, 103, 104, 105, 106, 107, 108, 109, 110, 111, 112, 113, 114, 115, 116, 117, 118, 119, 120, 121, 122]⟩))) (.t 86), none⟩,
                ⟨some 88, .idxP 65 1 (.t 12) (.t 85), none⟩,
                ⟨none, .st 1 (.t 88) (.t 87), none⟩] [0, 3, 4, 10, 11, 12, 13]))))))
       (.seq (.seq (.reg [⟨some 89, .mv (.t 3), none⟩] [0, 4, 10, 11, 12, 13, 89])
         (.cond (.t 89)
           (.seq (.reg [⟨some 90, .mv (.t 13), none⟩,
               ⟨some 91, .bin .sub (.t 90) (.k (.sc (.int .i64 1))), none⟩,
               ⟨some 13, .mv (.t 91), none⟩] [0, 4, 10, 11, 12, 13])
            (.reg [⟨some 92, .mv (.t 13), none⟩,
               ⟨some 93, .idxP 65 1 (.t 12) (.t 92), none⟩,
               ⟨none, .st 1 (.t 93) (.k (.sc (.int .u8 45))), none⟩] [0, 4, 10, 11, 12, 13]))
           (.skip)))
        (.seq (.seq (.reg [⟨some 94, .mv (.t 4), none⟩] [0, 10, 11, 12, 13, 94])
          (.cond (.t 94)
            (.seq (.reg [⟨some 95, .mv (.t 0), none⟩,
                ⟨some 96, .mv (.t 13), none⟩,
                ⟨some 97, .bad, none⟩,
                ⟨some 98, .app ⟨1, some 5⟩ 1 [.int .u8 0] (.t 95) (.t 97), none⟩,
                ⟨some 10, .mv (.t 98), none⟩] [10, 11])
             (.ret))
            (.skip)))
         (.seq (.reg [⟨some 99, .mv (.t 13), none⟩,
             ⟨some 100, .bad, none⟩,
             ⟨some 101, .cbs (.t 100), none⟩,
             ⟨some 11, .mv (.t 101), none⟩] [10, 11])
          (.ret)))))))))
def a55 : AFun := ⟨5, b55, [.t 10, .t 11]⟩

/-- internal/strconv.log10Pow2 -/
def b63 : AC :=
  .seq (.reg [⟨some 2, .mv (.k (.sc (.int .i64 0))), none⟩] [0])
  (.seq (.reg [⟨some 3, .mv (.t 0), none⟩,
      ⟨some 4, .bin .mul (.t 3) (.k (.sc (.int .i64 78913))), none⟩,
      ⟨some 5, .bin .shr (.t 4) (.k (.sc (.int .u64 18))), none⟩,
      ⟨some 2, .mv (.t 5), none⟩] [2])
   (.ret))
def a63 : AFun := ⟨1, b63, [.t 2]⟩

/-- math/bits.Len64 -/
def b64 : AC :=
  .seq (.reg [⟨some 2, .mv (.k (.sc (.int .i64 0))), none⟩] [0, 2])
  (.seq (.seq (.reg [⟨some 3, .mv (.t 0), none⟩,
       ⟨some 4, .bin .geq (.t 3) (.k (.sc (.int .u64 4294967296))), none⟩] [0, 2, 4])
    (.cond (.t 4)
      (.seq (.reg [⟨some 5, .mv (.t 0), none⟩,
          ⟨some 6, .bin .shr (.t 5) (.k (.sc (.int .u64 32))), none⟩,
          ⟨some 0, .mv (.t 6), none⟩] [0])
       (.reg [⟨some 2, .mv (.k (.sc (.int .i64 32))), none⟩] [0, 2]))
      (.skip)))
   (.seq (.seq (.reg [⟨some 7, .mv (.t 0), none⟩,
        ⟨some 8, .bin .geq (.t 7) (.k (.sc (.int .u64 65536))), none⟩] [0, 2, 8])
     (.cond (.t 8)
       (.seq (.reg [⟨some 9, .mv (.t 0), none⟩,
           ⟨some 10, .bin .shr (.t 9) (.k (.sc (.int .u64 16))), none⟩,
           ⟨some 0, .mv (.t 10), none⟩] [0, 2])
        (.reg [⟨some 11, .mv (.t 2), none⟩,
           ⟨some 12, .bin .add (.t 11) (.k (.sc (.int .i64 16))), none⟩,
           ⟨some 2, .mv (.t 12), none⟩] [0, 2]))
       (.skip)))
    (.seq (.seq (.reg [⟨some 13, .mv (.t 0), none⟩,
         ⟨some 14, .bin .geq (.t 13) (.k (.sc (.int .u64 256))), none⟩] [0, 2, 14])
      (.cond (.t 14)
        (.seq (.reg [⟨some 15, .mv (.t 0), none⟩,
            ⟨some 16, .bin .shr (.t 15) (.k (.sc (.int .u64 8))), none⟩,
            ⟨some 0, .mv (.t 16), none⟩] [0, 2])
         (.reg [⟨some 17, .mv (.t 2), none⟩,
            ⟨some 18, .bin .add (.t 17) (.k (.sc (.int .i64 8))), none⟩,
            ⟨some 2, .mv (.t 18), none⟩] [0, 2]))
        (.skip)))
     (.seq (.reg [⟨some 19, .mv (.t 2), none⟩,
         ⟨some 20, .mv (.t 0), none⟩,
         ⟨some 21, .conv .u8 (.t 20), none⟩,
         ⟨some 22, .idxS (.k (.sc (.str ⟨#[0, 1, 2, 2, 3, 3, 3, 3, 4, 4, 4, 4, 4, 4, 4, 4, 5, 5, 5, 5, 5, 5, 5, 5, 5, 5, 5, 5, 5, 5, 5, 5, 6, 6, 6, 6, 6, 6, 6, 6, 6, 6, 6, 6, 6, 6, 6, 6, 6, 6, 6, 6, 6, 6, 6, 6, 6, 6, 6, 6, 6, 6, 6, 6, 7, 7, 7, 7, 7, 7, 7, 7, 7, 7, 7, 7, 7, 7, 7, 7, 7, 7, 7, 7, 7, 7, 7, 7, 7, 7, 7, 7, 7, 7, 7, 7, 7, 7, 7, 7, 7, 7, 7, 7, 7, 7, 7, 7, 7, 7, 7, 7, 7, 7, 7, 7, 7, 7, 7, 7, 7, 7, 7, 7, 7, 7, 7, 7, 8, 8, 8, 8, 8, 8, 8, 8, 8, 8, 8, 8, 8, 8, 8, 8, 8, 8, 8, 8, 8, 8, 8, 8, 8, 8, 8, 8, 8, 8, 8, 8, 8, 8, 8, 8, 8, 8, 8, 8, 8, 8, 8, 8, 8, 8, 8, 8, 8, 8, 8, 8, 8, 8, 8, 8, 8, 8, 8, 8, 8, 8, 8, 8, 8, 8, 8, 8, 8, 8, 8, 8, 8, 8, 8, 8, 8, 8, 8, 8, 8, 8, 8, 8, 8, 8, 8, 8, 8, 8, 8, 8, 8, 8, 8, 8, 8, 8, 8, 8, 8, 8, 8, 8, 8, 8, 8, 8, 8, 8, 8, 8, 8, 8, 8, 8, 8, 8, 8, 8, 8, 8, 8, 8, 8, 8, 8, 8]⟩))) (.t 21), none⟩,
         ⟨some 23, .conv .i64 (.t 22), none⟩,
         ⟨some 24, .bin .add (.t 19) (.t 23), none⟩,
         ⟨some 2, .mv (.t 24), none⟩] [2])
      (.ret)))))
def a64 : AFun := ⟨1, b64, [.t 2]⟩

/-- internal/strconv.bool2[int] -/
def b65 : AC :=
  .seq (.reg [⟨some 2, .mv (.k (.sc (.int .i64 0))), none⟩] [0])
  (.seq (.seq (.reg [⟨some 3, .mv (.t 0), none⟩] [3])
    (.cond (.t 3)
      (.seq (.reg [⟨some 2, .mv (.k (.sc (.int .i64 1))), none⟩] [2])
       (.ret))
      (.skip)))
   (.seq (.reg [⟨some 2, .mv (.k (.sc (.int .i64 0))), none⟩] [2])
    (.ret)))
def a65 : AFun := ⟨1, b65, [.t 2]⟩

/-- internal/strconv.isPowerOfTwo -/
def b66 : AC :=
  .seq (.reg [⟨some 2, .mv (.k (.sc (.bool false))), none⟩] [0])
  (.seq (.reg [⟨some 3, .mv (.t 0), none⟩,
      ⟨some 4, .mv (.t 0), none⟩,
      ⟨some 5, .bin .sub (.t 4) (.k (.sc (.int .i64 1))), none⟩,
      ⟨some 6, .bin .and (.t 3) (.t 5), none⟩,
      ⟨some 7, .bin .eql (.t 6) (.k (.sc (.int .i64 0))), none⟩,
      ⟨some 2, .mv (.t 7), none⟩] [2])
   (.ret))
def a66 : AFun := ⟨1, b66, [.t 2]⟩

/-- math/bits.TrailingZeros -/
def b67 : AC :=
  .seq (.reg [⟨some 2, .mv (.k (.sc (.int .i64 0))), none⟩] [0])
  (.seq (.cond (.k (.sc (.bool false)))
     (.seq (.reg [⟨some 3, .mv (.t 0), none⟩,
         ⟨some 4, .conv .u32 (.t 3), none⟩,
         ⟨some 5, .call 70 [(.t 4)], none⟩,
         ⟨some 2, .mv (.t 5), none⟩] [2])
      (.ret))
     (.skip))
   (.seq (.reg [⟨some 6, .mv (.t 0), none⟩,
       ⟨some 7, .call 71 [(.t 6)], none⟩,
       ⟨some 2, .mv (.t 7), none⟩] [2])
    (.ret)))
def a67 : AFun := ⟨1, b67, [.t 2]⟩

/-- math/bits.TrailingZeros32 -/
def b70 : AC :=
  .seq (.reg [⟨some 2, .mv (.k (.sc (.int .i64 0))), none⟩] [0])
  (.seq (.seq (.reg [⟨some 3, .mv (.t 0), none⟩,
       ⟨some 4, .bin .eql (.t 3) (.k (.sc (.int .u32 0))), none⟩] [0, 4])
    (.cond (.t 4)
      (.seq (.reg [⟨some 2, .mv (.k (.sc (.int .i64 32))), none⟩] [2])
       (.ret))
      (.skip)))
   (.seq (.reg [⟨some 5, .mv (.t 0), none⟩,
       ⟨some 6, .mv (.t 0), none⟩,
       ⟨some 7, .un .neg (.t 6), none⟩,
       ⟨some 8, .bin .and (.t 5) (.t 7), none⟩,
       ⟨some 9, .bin .mul (.t 8) (.k (.sc (.int .u32 125613361))), none⟩,
       ⟨some 10, .bin .shr (.t 9) (.k (.sc (.int .u64 27))), none⟩,
       ⟨some 11, .bad, none⟩,
       ⟨some 12, .ld 1 false (.t 11), none⟩,
       ⟨some 13, .conv .i64 (.t 12), none⟩,
       ⟨some 2, .mv (.t 13), none⟩] [2])
    (.ret)))
def a70 : AFun := ⟨1, b70, [.t 2]⟩

/-- math/bits.TrailingZeros64 -/
def b71 : AC :=
  .seq (.reg [⟨some 2, .mv (.k (.sc (.int .i64 0))), none⟩] [0])
  (.seq (.seq (.reg [⟨some 3, .mv (.t 0), none⟩,
       ⟨some 4, .bin .eql (.t 3) (.k (.sc (.int .u64 0))), none⟩] [0, 4])
    (.cond (.t 4)
      (.seq (.reg [⟨some 2, .mv (.k (.sc (.int .i64 64))), none⟩] [2])
       (.ret))
      (.skip)))
   (.seq (.reg [⟨some 5, .mv (.t 0), none⟩,
       ⟨some 6, .mv (.t 0), none⟩,
       ⟨some 7, .un .neg (.t 6), none⟩,
       ⟨some 8, .bin .and (.t 5) (.t 7), none⟩,
       ⟨some 9, .bin .mul (.t 8) (.k (.sc (.int .u64 285870213051353865))), none⟩,
       ⟨some 10, .bin .shr (.t 9) (.k (.sc (.int .u64 58))), none⟩,
       ⟨some 11, .bad, none⟩,
       ⟨some 12, .ld 1 false (.t 11), none⟩,
       ⟨some 13, .conv .i64 (.t 12), none⟩,
       ⟨some 2, .mv (.t 13), none⟩] [2])
    (.ret)))
def a71 : AFun := ⟨1, b71, [.t 2]⟩

def FT : FuncId → Option AFun
  | 3 => some a3
  | 4 => some a4
  | 5 => some a5
  | 6 => some a6
  | 7 => some a7
  | 8 => some a8
  | 9 => some a9
  | 10 => some a10
  | 11 => some a11
  | 12 => some a12
  | 13 => some a13
  | 14 => some a14
  | 15 => some a15
  | 19 => some a19
  | 20 => some a20
  | 21 => some a21
  | 22 => some a22
  | 23 => some a23
  | 24 => some a24
  | 25 => some a25
  | 33 => some a33
  | 34 => some a34
  | 35 => some a35
  | 36 => some a36
  | 37 => some a37
  | 38 => some a38
  | 39 => some a39
  | 40 => some a40
  | 49 => some a49
  | 50 => some a50
  | 51 => some a51
  | 52 => some a52
  | 53 => some a53
  | 54 => some a54
  | 55 => some a55
  | 63 => some a63
  | 64 => some a64
  | 65 => some a65
  | 66 => some a66
  | 67 => some a67
  | 70 => some a70
  | 71 => some a71
  | _ => none

theorem ok3 : okFun Tryd.prog a3 Tryd.f3 = true := by kernel_rfl
theorem ok4 : okFun Tryd.prog a4 Tryd.f4 = true := by kernel_rfl
theorem ok5 : okFun Tryd.prog a5 Tryd.f5 = true := by kernel_rfl
theorem ok6 : okFun Tryd.prog a6 Tryd.f6 = true := by kernel_rfl
theorem ok7 : okFun Tryd.prog a7 Tryd.f7 = true := by kernel_rfl
theorem ok8 : okFun Tryd.prog a8 Tryd.f8 = true := by kernel_rfl
theorem ok9 : okFun Tryd.prog a9 Tryd.f9 = true := by kernel_rfl
theorem ok10 : okFun Tryd.prog a10 Tryd.f10 = true := by kernel_rfl
theorem ok11 : okFun Tryd.prog a11 Tryd.f11 = true := by kernel_rfl
theorem ok12 : okFun Tryd.prog a12 Tryd.f12 = true := by kernel_rfl
theorem ok13 : okFun Tryd.prog a13 Tryd.f13 = true := by kernel_rfl
theorem ok14 : okFun Tryd.prog a14 Tryd.f14 = true := by kernel_rfl
theorem ok15 : okFun Tryd.prog a15 Tryd.f15 = true := by kernel_rfl
theorem ok19 : okFun Tryd.prog a19 Tryd.f19 = true := by kernel_rfl
theorem ok20 : okFun Tryd.prog a20 Tryd.f20 = true := by kernel_rfl
theorem ok21 : okFun Tryd.prog a21 Tryd.f21 = true := by kernel_rfl
theorem ok22 : okFun Tryd.prog a22 Tryd.f22 = true := by kernel_rfl
theorem ok23 : okFun Tryd.prog a23 Tryd.f23 = true := by kernel_rfl
theorem ok24 : okFun Tryd.prog a24 Tryd.f24 = true := by kernel_rfl
theorem ok25 : okFun Tryd.prog a25 Tryd.f25 = true := by kernel_rfl
theorem ok33 : okFun Tryd.prog a33 Tryd.f33 = true := by kernel_rfl
theorem ok34 : okFun Tryd.prog a34 Tryd.f34 = true := by kernel_rfl
theorem ok35 : okFun Tryd.prog a35 Tryd.f35 = true := by kernel_rfl
theorem ok36 : okFun Tryd.prog a36 Tryd.f36 = true := by kernel_rfl
theorem ok37 : okFun Tryd.prog a37 Tryd.f37 = true := by kernel_rfl
theorem ok38 : okFun Tryd.prog a38 Tryd.f38 = true := by kernel_rfl
theorem ok39 : okFun Tryd.prog a39 Tryd.f39 = true := by kernel_rfl
theorem ok40 : okFun Tryd.prog a40 Tryd.f40 = true := by kernel_rfl
theorem ok49 : okFun Tryd.prog a49 Tryd.f49 = true := by kernel_rfl
theorem ok50 : okFun Tryd.prog a50 Tryd.f50 = true := by kernel_rfl
theorem ok51 : okFun Tryd.prog a51 Tryd.f51 = true := by kernel_rfl
theorem ok52 : okFun Tryd.prog a52 Tryd.f52 = true := by kernel_rfl
theorem ok53 : okFun Tryd.prog a53 Tryd.f53 = true := by kernel_rfl
theorem ok54 : okFun Tryd.prog a54 Tryd.f54 = true := by kernel_rfl
theorem ok55 : okFun Tryd.prog a55 Tryd.f55 = true := by kernel_rfl
theorem ok63 : okFun Tryd.prog a63 Tryd.f63 = true := by kernel_rfl
theorem ok64 : okFun Tryd.prog a64 Tryd.f64 = true := by kernel_rfl
theorem ok65 : okFun Tryd.prog a65 Tryd.f65 = true := by kernel_rfl
theorem ok66 : okFun Tryd.prog a66 Tryd.f66 = true := by kernel_rfl
theorem ok67 : okFun Tryd.prog a67 Tryd.f67 = true := by kernel_rfl
theorem ok70 : okFun Tryd.prog a70 Tryd.f70 = true := by kernel_rfl
theorem ok71 : okFun Tryd.prog a71 Tryd.f71 = true := by kernel_rfl
theorem mixed : Tryd.prog.follows .mixedOrders = true := by kernel_rfl
theorem ft_ok : FTok Tryd.prog FT := by
  refine ⟨mixed, fun f F h => ?_⟩
  unfold FT at h
  split at h
  · simp at h; subst h; exact ⟨_, Tryd.func3, ok3⟩
  · simp at h; subst h; exact ⟨_, Tryd.func4, ok4⟩
  · simp at h; subst h; exact ⟨_, Tryd.func5, ok5⟩
  · simp at h; subst h; exact ⟨_, Tryd.func6, ok6⟩
  · simp at h; subst h; exact ⟨_, Tryd.func7, ok7⟩
  · simp at h; subst h; exact ⟨_, Tryd.func8, ok8⟩
  · simp at h; subst h; exact ⟨_, Tryd.func9, ok9⟩
  · simp at h; subst h; exact ⟨_, Tryd.func10, ok10⟩
  · simp at h; subst h; exact ⟨_, Tryd.func11, ok11⟩
  · simp at h; subst h; exact ⟨_, Tryd.func12, ok12⟩
  · simp at h; subst h; exact ⟨_, Tryd.func13, ok13⟩
  · simp at h; subst h; exact ⟨_, Tryd.func14, ok14⟩
  · simp at h; subst h; exact ⟨_, Tryd.func15, ok15⟩
  · simp at h; subst h; exact ⟨_, Tryd.func19, ok19⟩
  · simp at h; subst h; exact ⟨_, Tryd.func20, ok20⟩
  · simp at h; subst h; exact ⟨_, Tryd.func21, ok21⟩
  · simp at h; subst h; exact ⟨_, Tryd.func22, ok22⟩
  · simp at h; subst h; exact ⟨_, Tryd.func23, ok23⟩
  · simp at h; subst h; exact ⟨_, Tryd.func24, ok24⟩
  · simp at h; subst h; exact ⟨_, Tryd.func25, ok25⟩
  · simp at h; subst h; exact ⟨_, Tryd.func33, ok33⟩
  · simp at h; subst h; exact ⟨_, Tryd.func34, ok34⟩
  · simp at h; subst h; exact ⟨_, Tryd.func35, ok35⟩
  · simp at h; subst h; exact ⟨_, Tryd.func36, ok36⟩
  · simp at h; subst h; exact ⟨_, Tryd.func37, ok37⟩
  · simp at h; subst h; exact ⟨_, Tryd.func38, ok38⟩
  · simp at h; subst h; exact ⟨_, Tryd.func39, ok39⟩
  · simp at h; subst h; exact ⟨_, Tryd.func40, ok40⟩
  · simp at h; subst h; exact ⟨_, Tryd.func49, ok49⟩
  · simp at h; subst h; exact ⟨_, Tryd.func50, ok50⟩
  · simp at h; subst h; exact ⟨_, Tryd.func51, ok51⟩
  · simp at h; subst h; exact ⟨_, Tryd.func52, ok52⟩
  · simp at h; subst h; exact ⟨_, Tryd.func53, ok53⟩
  · simp at h; subst h; exact ⟨_, Tryd.func54, ok54⟩
  · simp at h; subst h; exact ⟨_, Tryd.func55, ok55⟩
  · simp at h; subst h; exact ⟨_, Tryd.func63, ok63⟩
  · simp at h; subst h; exact ⟨_, Tryd.func64, ok64⟩
  · simp at h; subst h; exact ⟨_, Tryd.func65, ok65⟩
  · simp at h; subst h; exact ⟨_, Tryd.func66, ok66⟩
  · simp at h; subst h; exact ⟨_, Tryd.func67, ok67⟩
  · simp at h; subst h; exact ⟨_, Tryd.func70, ok70⟩
  · simp at h; subst h; exact ⟨_, Tryd.func71, ok71⟩
  · simp at h
end Go.Proofs.YtooafhbjbpaacaaDoor
