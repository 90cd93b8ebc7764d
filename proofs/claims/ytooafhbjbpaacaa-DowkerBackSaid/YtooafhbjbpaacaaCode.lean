/- The annotated code of this seat, printed by program (mkseat.py). -/
import Derived.Test.YtooafhbjbpaacaaProg
import Derived.KernelRfl
import Derived.Test.YtooafhbjbpaacaaAb17
namespace Go.Proofs.Ytooafhbjbpaacaa
open Go.Ab

/-- unravel/unravellaw04.DowkerBack -/
def b6 : AC :=
  .seq (.reg [⟨some 1, .box (.t 0), none⟩,
     ⟨some 2, .mv (.k (.sc (.bool false))), none⟩] [1])
  (.seq (.seq (.reg [⟨some 7, .call 10 [], none⟩,
       ⟨some 8, .un .not (.t 7), none⟩] [1, 8])
    (.cond (.t 8)
      (.seq (.reg [⟨some 2, .mv (.k (.sc (.bool false))), none⟩] [2])
       (.ret))
      (.skip)))
   (.seq (.seq (.reg [⟨some 9, .ld 3 true (.t 1), none⟩,
        ⟨some 10, .call 13 [(.t 9), (.k (.sc (.int .i64 7)))], none⟩,
        ⟨some 11, .un .not (.t 10), none⟩] [1, 11])
     (.cond (.t 11)
       (.seq (.reg [⟨some 2, .mv (.k (.sc (.bool true))), none⟩] [2])
        (.ret))
       (.skip)))
    (.seq (.reg [⟨some 13, .ld 3 true (.t 1), none⟩,
        ⟨some 14, .call 11 [(.t 13)], none⟩,
        ⟨some 12, .mv (.t 14), none⟩,
        ⟨some 15, .ext (.t 12) 0, none⟩,
        ⟨some 16, .ext (.t 12) 1, none⟩,
        ⟨some 3, .mv (.t 15), none⟩,
        ⟨some 4, .mv (.t 16), none⟩] [1, 3, 4])
     (.seq (.seq (.reg [⟨some 17, .mv (.t 4), none⟩,
          ⟨some 18, .bin .neq (.t 17) (.k (.sc (.int .i64 0))), none⟩,
          ⟨some 19, .mv (.t 18), none⟩,
          ⟨some 20, .mv (.t 3), (some (19, false))⟩,
          ⟨some 21, .call 17 [(.t 20)], (some (19, false))⟩,
          ⟨some 22, .un .not (.t 21), (some (19, false))⟩,
          ⟨some 23, .pick (.t 19) (.k (.sc (.bool true))) (.t 22), none⟩] [1, 3, 23])
       (.cond (.t 23)
         (.seq (.reg [⟨some 2, .mv (.k (.sc (.bool false))), none⟩] [2])
          (.ret))
         (.skip)))
      (.seq (.reg [⟨some 25, .mv (.t 3), none⟩,
          ⟨some 26, .call 19 [(.t 25)], none⟩,
          ⟨some 24, .mv (.t 26), none⟩,
          ⟨some 27, .ext (.t 24) 0, none⟩,
          ⟨some 28, .ext (.t 24) 1, none⟩,
          ⟨some 5, .new [.nilS, .nilS, .int .i64 0], none⟩,
          ⟨none, .st 3 (.t 5) (.t 27), none⟩,
          ⟨some 6, .mv (.t 28), none⟩] [1, 3, 5, 6])
       (.seq (.seq (.reg [⟨some 29, .mv (.t 6), none⟩,
            ⟨some 30, .bin .neq (.t 29) (.k (.sc (.int .i64 0))), none⟩] [1, 3, 5, 30])
         (.cond (.t 30)
           (.seq (.reg [⟨some 2, .mv (.k (.sc (.bool false))), none⟩] [2])
            (.ret))
           (.skip)))
        (.seq (.seq (.reg [⟨some 31, .mv (.t 3), none⟩,
             ⟨some 32, .call 20 [(.t 31)], none⟩,
             ⟨some 33, .len false (.t 32), none⟩,
             ⟨some 34, .bin .neq (.t 33) (.k (.sc (.int .i64 2))), none⟩] [1, 5, 34])
          (.cond (.t 34)
            (.seq (.reg [⟨some 2, .mv (.k (.sc (.bool true))), none⟩] [2])
             (.ret))
            (.skip)))
         (.seq (.regd [(⟨some 35, .ld 3 true (.t 5), none⟩, 0, false),
             (⟨some 36, .ld 3 true (.t 1), none⟩, 1, false),
             (⟨some 37, .call 23 [(.t 35), (.t 36)], none⟩, 2, true),
             (⟨some 38, .mv (.t 37), none⟩, 3, false),
             (⟨some 39, .ld 3 true (.t 5), (some (38, false))⟩, 4, false),
             (⟨some 40, .ld 3 true (.t 1), (some (38, false))⟩, 5, false),
             (⟨some 41, .call 24 [(.t 40)], (some (38, false))⟩, 6, false),
             (⟨some 42, .call 23 [(.t 39), (.t 41)], (some (38, false))⟩, 7, true),
             (⟨some 43, .pick (.t 38) (.k (.sc (.bool true))) (.t 42), none⟩, 8, false),
             (⟨some 2, .mv (.t 43), none⟩, 9, false)] [2])
          (.ret)))))))))
def a6 : AFun := ⟨1, b6, [.t 2]⟩

/-- unravel/unravellaw04.awake -/
def b10 : AC :=
  .seq (.reg [⟨some 0, .mv (.k (.sc (.bool false))), none⟩] [])
  (.seq (.reg [⟨some 8, .bsl 1 [.int .i64 0] 3 [(0, .k (.sc (.int .i64 4))), (1, .k (.sc (.int .i64 6))), (2, .k (.sc (.int .i64 2)))], none⟩,
      ⟨some 9, .call 18 [(.t 8)], none⟩,
      ⟨some 7, .mv (.t 9), none⟩,
      ⟨some 10, .ext (.t 7) 0, none⟩,
      ⟨some 11, .ext (.t 7) 1, none⟩,
      ⟨some 1, .mv (.t 10), none⟩,
      ⟨some 2, .mv (.t 11), none⟩] [1, 2])
   (.seq (.reg [⟨some 13, .bsl 1 [.int .i64 0] 3 [(0, .k (.sc (.int .i64 4))), (1, .k (.sc (.int .i64 6))), (2, .k (.sc (.int .i64 2)))], none⟩,
       ⟨some 14, .call 19 [(.t 13)], none⟩,
       ⟨some 12, .mv (.t 14), none⟩,
       ⟨some 15, .ext (.t 12) 0, none⟩,
       ⟨some 16, .ext (.t 12) 1, none⟩,
       ⟨some 3, .new [.nilS, .nilS, .int .i64 0], none⟩,
       ⟨none, .st 3 (.t 3) (.t 15), none⟩,
       ⟨some 4, .mv (.t 16), none⟩] [1, 2, 3, 4])
    (.seq (.reg [⟨some 18, .ld 3 true (.t 3), none⟩,
        ⟨some 19, .call 11 [(.t 18)], none⟩,
        ⟨some 17, .mv (.t 19), none⟩,
        ⟨some 20, .ext (.t 17) 0, none⟩,
        ⟨some 21, .ext (.t 17) 1, none⟩,
        ⟨some 5, .mv (.t 20), none⟩,
        ⟨some 6, .mv (.t 21), none⟩] [1, 2, 4, 5, 6])
     (.seq (.reg [⟨some 22, .mv (.t 2), none⟩,
         ⟨some 23, .bin .eql (.t 22) (.k (.sc (.int .i64 0))), none⟩,
         ⟨some 24, .mv (.t 23), none⟩,
         ⟨some 25, .mv (.t 1), (some (24, true))⟩,
         ⟨some 26, .bsl 1 [.int .i64 0] 3 [(0, .k (.sc (.int .i64 1))), (1, .k (.sc (.int .i64 1))), (2, .k (.sc (.int .i64 1)))], (some (24, true))⟩,
         ⟨some 27, .call 14 [(.t 25), (.t 26)], (some (24, true))⟩,
         ⟨some 28, .pick (.t 24) (.t 27) (.k (.sc (.bool false))), none⟩,
         ⟨some 29, .mv (.t 28), none⟩,
         ⟨some 30, .mv (.t 4), (some (29, true))⟩,
         ⟨some 31, .bin .eql (.t 30) (.k (.sc (.int .i64 0))), (some (29, true))⟩,
         ⟨some 32, .pick (.t 29) (.t 31) (.k (.sc (.bool false))), none⟩,
         ⟨some 33, .mv (.t 32), none⟩,
         ⟨some 34, .mv (.t 6), (some (33, true))⟩,
         ⟨some 35, .bin .eql (.t 34) (.k (.sc (.int .i64 0))), (some (33, true))⟩,
         ⟨some 36, .pick (.t 33) (.t 35) (.k (.sc (.bool false))), none⟩,
         ⟨some 37, .mv (.t 36), none⟩,
         ⟨some 38, .mv (.t 5), (some (37, true))⟩,
         ⟨some 39, .bsl 1 [.int .i64 0] 3 [(0, .k (.sc (.int .i64 4))), (1, .k (.sc (.int .i64 6))), (2, .k (.sc (.int .i64 2)))], (some (37, true))⟩,
         ⟨some 40, .call 14 [(.t 38), (.t 39)], (some (37, true))⟩,
         ⟨some 41, .mv (.t 40), (some (37, true))⟩,
         ⟨some 42, .mv (.t 5), (some (41, false))⟩,
         ⟨some 43, .bsl 1 [.int .i64 0] 3 [(0, .k (.sc (.int .i64 (-4)))), (1, .k (.sc (.int .i64 (-6)))), (2, .k (.sc (.int .i64 (-2))))], (some (41, false))⟩,
         ⟨some 44, .call 14 [(.t 42), (.t 43)], (some (41, false))⟩,
         ⟨some 45, .pick (.t 41) (.k (.sc (.bool true))) (.t 44), (some (37, true))⟩,
         ⟨some 46, .pick (.t 37) (.t 45) (.k (.sc (.bool false))), none⟩,
         ⟨some 0, .mv (.t 46), none⟩] [0])
      (.ret)))))
def a10 : AFun := ⟨0, b10, [.t 0]⟩

def b11L0 : AC :=
  .seq (.reg [⟨some 36, .bin .lss (.t 35) (.t 34), none⟩] [4, 5, 6, 33, 34, 35, 36])
  (.seq (.cond (.t 36)
     (.skip)
     (.exit 0))
   (.seq (.block 1 (.seq (.reg [⟨some 37, .mv (.t 35), none⟩,
         ⟨some 38, .idxA 1 (.t 33) (.t 35), none⟩,
         ⟨some 39, .ld 1 false (.t 38), none⟩,
         ⟨some 7, .mv (.t 37), none⟩,
         ⟨some 8, .mv (.t 39), none⟩] [4, 5, 6, 7, 8, 33, 34, 35])
      (.seq (.reg [⟨some 40, .mv (.t 7), none⟩,
          ⟨some 41, .bin .add (.t 40) (.k (.sc (.int .i64 1))), none⟩,
          ⟨some 9, .mv (.t 41), none⟩] [4, 5, 6, 8, 9, 33, 34, 35])
       (.seq (.reg [⟨some 42, .mv (.t 9), none⟩,
           ⟨some 43, .bin .rem (.t 42) (.k (.sc (.int .i64 2))), none⟩,
           ⟨some 44, .bin .eql (.t 43) (.k (.sc (.int .i64 0))), none⟩] [4, 5, 6, 8, 9, 33, 34, 35, 44])
        (.cond (.t 44)
          (.seq (.reg [⟨some 45, .mv (.t 6), none⟩,
              ⟨some 46, .mv (.t 8), none⟩,
              ⟨some 47, .bin .quo (.t 46) (.k (.sc (.int .i64 4))), none⟩,
              ⟨some 48, .mv (.t 9), none⟩,
              ⟨some 49, .idxA 1 (.t 45) (.t 47), none⟩,
              ⟨none, .st 1 (.t 49) (.t 48), none⟩] [4, 5, 6, 8, 9, 33, 34, 35])
           (.seq (.reg [⟨some 50, .mv (.t 8), none⟩,
               ⟨some 51, .bin .rem (.t 50) (.k (.sc (.int .i64 2))), none⟩,
               ⟨some 52, .bin .eql (.t 51) (.k (.sc (.int .i64 1))), none⟩] [4, 5, 6, 8, 9, 33, 34, 35, 52])
            (.cond (.t 52)
              (.reg [⟨some 53, .mv (.t 6), none⟩,
                 ⟨some 54, .mv (.t 8), none⟩,
                 ⟨some 55, .bin .quo (.t 54) (.k (.sc (.int .i64 4))), none⟩,
                 ⟨some 56, .mv (.t 9), none⟩,
                 ⟨some 57, .un .neg (.t 56), none⟩,
                 ⟨some 58, .idxA 1 (.t 53) (.t 55), none⟩,
                 ⟨none, .st 1 (.t 58) (.t 57), none⟩] [4, 5, 6, 33, 34, 35])
              (.skip))))
          (.skip))))))
    (.reg [⟨some 59, .bin .add (.t 35) (.k (.sc (.int .i64 1))), none⟩,
       ⟨some 35, .mv (.t 59), none⟩] [4, 5, 6, 33, 34, 35])))
def b11L1 : AC :=
  .seq (.reg [⟨some 67, .bin .lss (.t 66) (.t 65), none⟩] [6, 10, 64, 65, 66, 67])
  (.seq (.cond (.t 67)
     (.skip)
     (.exit 2))
   (.seq (.block 3 (.seq (.reg [⟨some 68, .mv (.t 66), none⟩,
         ⟨some 69, .idxA 1 (.t 64) (.t 66), none⟩,
         ⟨some 70, .ld 1 false (.t 69), none⟩,
         ⟨some 11, .mv (.t 68), none⟩,
         ⟨some 12, .mv (.t 70), none⟩] [6, 10, 11, 12, 64, 65, 66])
      (.seq (.reg [⟨some 71, .mv (.t 11), none⟩,
          ⟨some 72, .bin .rem (.t 71) (.k (.sc (.int .i64 2))), none⟩,
          ⟨some 73, .bin .eql (.t 72) (.k (.sc (.int .i64 0))), none⟩] [6, 10, 12, 64, 65, 66, 73])
       (.cond (.t 73)
         (.reg [⟨some 74, .mv (.t 10), none⟩,
            ⟨some 75, .mv (.t 6), none⟩,
            ⟨some 76, .mv (.t 12), none⟩,
            ⟨some 77, .bin .quo (.t 76) (.k (.sc (.int .i64 4))), none⟩,
            ⟨some 78, .idxA 1 (.t 75) (.t 77), none⟩,
            ⟨some 79, .ld 1 false (.t 78), none⟩,
            ⟨some 80, .bsl 1 [.int .i64 0] 1 [(0, .t 79)], none⟩,
            ⟨some 81, .app 1 8 [.int .i64 0] (.t 74) (.t 80), none⟩,
            ⟨some 10, .mv (.t 81), none⟩] [6, 10, 64, 65, 66])
         (.skip)))))
    (.reg [⟨some 82, .bin .add (.t 66) (.k (.sc (.int .i64 1))), none⟩,
       ⟨some 66, .mv (.t 82), none⟩] [6, 10, 64, 65, 66])))
/-- unravel/dowker.Of -/
def b11 : AC :=
  .seq (.reg [⟨some 1, .box (.t 0), none⟩,
     ⟨some 2, .mv (.k (.sc .nilS)), none⟩,
     ⟨some 3, .mv (.k (.sc (.int .i64 0))), none⟩] [1])
  (.seq (.seq (.reg [⟨some 13, .ld 3 true (.t 1), none⟩,
       ⟨some 14, .call 26 [(.t 13)], none⟩,
       ⟨some 15, .un .not (.t 14), none⟩] [1, 15])
    (.cond (.t 15)
      (.seq (.reg [⟨some 2, .mv (.k (.sc .nilS)), none⟩,
          ⟨some 3, .mv (.k (.sc (.int .i64 1))), none⟩] [2, 3])
       (.ret))
      (.skip)))
   (.seq (.reg [⟨some 16, .fldA 0 (.t 1), none⟩,
       ⟨some 17, .ld 1 false (.t 16), none⟩,
       ⟨some 18, .len false (.t 17), none⟩,
       ⟨some 4, .mv (.t 18), none⟩] [1, 4])
    (.seq (.seq (.reg [⟨some 19, .mv (.t 4), none⟩,
         ⟨some 20, .bin .eql (.t 19) (.k (.sc (.int .i64 0))), none⟩] [1, 4, 20])
      (.cond (.t 20)
        (.seq (.reg [⟨some 2, .mv (.k (.sc .nilS)), none⟩,
            ⟨some 3, .mv (.k (.sc (.int .i64 8))), none⟩] [2, 3])
         (.ret))
        (.skip)))
     (.seq (.reg [⟨some 21, .ld 3 true (.t 1), none⟩,
         ⟨some 22, .call 28 [(.t 21)], none⟩,
         ⟨some 5, .mv (.t 22), none⟩] [1, 4, 5])
      (.seq (.seq (.reg [⟨some 23, .mv (.t 5), none⟩,
           ⟨some 24, .len false (.t 23), none⟩,
           ⟨some 25, .fldA 2 (.t 1), none⟩,
           ⟨some 26, .ld 1 false (.t 25), none⟩,
           ⟨some 27, .bin .add (.t 24) (.t 26), none⟩,
           ⟨some 28, .bin .gtr (.t 27) (.k (.sc (.int .i64 1))), none⟩] [4, 5, 28])
        (.cond (.t 28)
          (.seq (.reg [⟨some 2, .mv (.k (.sc .nilS)), none⟩,
              ⟨some 3, .mv (.k (.sc (.int .i64 16))), none⟩] [2, 3])
           (.ret))
          (.skip)))
       (.seq (.reg [⟨some 29, .mv (.t 4), none⟩,
           ⟨some 30, .mk 1 8 [.int .i64 0] (.t 29) (.t 29), none⟩,
           ⟨some 6, .mv (.t 30), none⟩] [4, 5, 6])
        (.seq (.seq (.reg [⟨some 31, .mv (.t 5), none⟩,
             ⟨some 32, .idxA 1 (.t 31) (.k (.sc (.int .i64 0))), none⟩,
             ⟨some 33, .ld 1 false (.t 32), none⟩,
             ⟨some 34, .len false (.t 33), none⟩,
             ⟨some 35, .mv (.k (.sc (.int .i64 0))), none⟩] [4, 5, 6, 33, 34, 35])
          (.block 0 (.loop [4, 5, 6, 33, 34, 35] b11L0)))
         (.seq (.reg [⟨some 60, .mv (.t 4), none⟩,
             ⟨some 61, .mk 1 8 [.int .i64 0] (.k (.sc (.int .i64 0))) (.t 60), none⟩,
             ⟨some 10, .mv (.t 61), none⟩] [5, 6, 10])
          (.seq (.seq (.reg [⟨some 62, .mv (.t 5), none⟩,
               ⟨some 63, .idxA 1 (.t 62) (.k (.sc (.int .i64 0))), none⟩,
               ⟨some 64, .ld 1 false (.t 63), none⟩,
               ⟨some 65, .len false (.t 64), none⟩,
               ⟨some 66, .mv (.k (.sc (.int .i64 0))), none⟩] [6, 10, 64, 65, 66])
            (.block 2 (.loop [6, 10, 64, 65, 66] b11L1)))
           (.seq (.reg [⟨some 83, .mv (.t 10), none⟩,
               ⟨some 2, .mv (.t 83), none⟩,
               ⟨some 3, .mv (.k (.sc (.int .i64 0))), none⟩] [2, 3])
            (.ret)))))))))))
def a11 : AFun := ⟨1, b11, [.t 2, .t 3]⟩

def b12L0 : AC :=
  .seq (.seq (.reg [⟨some 37, .mv (.t 4), none⟩,
      ⟨some 38, .mv (.t 3), none⟩,
      ⟨some 39, .bin .lss (.t 37) (.t 38), none⟩] [1, 3, 4, 39])
   (.cond (.t 39)
     (.skip)
     (.exit 0)))
  (.seq (.block 1 (.seq (.reg [⟨some 42, .fldA 0 (.t 1), none⟩,
        ⟨some 43, .ld 1 false (.t 42), none⟩,
        ⟨some 44, .mv (.t 4), none⟩,
        ⟨some 45, .idxA 1 (.t 43) (.t 44), none⟩,
        ⟨some 46, .ld 1 false (.t 45), none⟩,
        ⟨some 47, .bin .neq (.t 46) (.k (.sc (.int .i64 1))), none⟩,
        ⟨some 48, .mv (.t 47), none⟩,
        ⟨some 49, .fldA 0 (.t 1), (some (48, true))⟩,
        ⟨some 50, .ld 1 false (.t 49), (some (48, true))⟩,
        ⟨some 51, .mv (.t 4), (some (48, true))⟩,
        ⟨some 52, .idxA 1 (.t 50) (.t 51), (some (48, true))⟩,
        ⟨some 53, .ld 1 false (.t 52), (some (48, true))⟩,
        ⟨some 54, .bin .neq (.t 53) (.k (.sc (.int .i64 (-1)))), (some (48, true))⟩,
        ⟨some 55, .pick (.t 48) (.t 54) (.k (.sc (.bool false))), none⟩] [1, 3, 4, 55])
     (.cond (.t 55)
       (.seq (.reg [⟨some 2, .mv (.k (.sc (.bool false))), none⟩] [2])
        (.ret))
       (.skip))))
   (.reg [⟨some 40, .mv (.t 4), none⟩,
      ⟨some 41, .bin .add (.t 40) (.k (.sc (.int .i64 1))), none⟩,
      ⟨some 4, .mv (.t 41), none⟩] [1, 3, 4]))
def b12L1 : AC :=
  .seq (.seq (.reg [⟨some 56, .mv (.t 5), none⟩,
      ⟨some 57, .mv (.t 3), none⟩,
      ⟨some 58, .bin .mul (.k (.sc (.int .i64 4))) (.t 57), none⟩,
      ⟨some 59, .bin .lss (.t 56) (.t 58), none⟩] [1, 3, 5, 59])
   (.cond (.t 59)
     (.skip)
     (.exit 2)))
  (.seq (.block 3 (.seq (.reg [⟨some 62, .fldA 1 (.t 1), none⟩,
        ⟨some 63, .ld 1 false (.t 62), none⟩,
        ⟨some 64, .mv (.t 5), none⟩,
        ⟨some 65, .idxA 1 (.t 63) (.t 64), none⟩,
        ⟨some 66, .ld 1 false (.t 65), none⟩,
        ⟨some 6, .mv (.t 66), none⟩] [1, 3, 5, 6])
     (.seq (.regd [(⟨some 67, .mv (.t 6), none⟩, 0, false),
         (⟨some 68, .bin .lss (.t 67) (.k (.sc (.int .i64 0))), none⟩, 1, false),
         (⟨some 69, .mv (.t 68), none⟩, 2, false),
         (⟨some 70, .mv (.t 6), (some (69, false))⟩, 3, false),
         (⟨some 71, .mv (.t 3), (some (69, false))⟩, 4, false),
         (⟨some 72, .bin .mul (.k (.sc (.int .i64 4))) (.t 71), (some (69, false))⟩, 5, false),
         (⟨some 73, .bin .geq (.t 70) (.t 72), (some (69, false))⟩, 6, false),
         (⟨some 74, .pick (.t 69) (.k (.sc (.bool true))) (.t 73), none⟩, 7, false),
         (⟨some 75, .mv (.t 74), none⟩, 8, false),
         (⟨some 76, .mv (.t 6), (some (75, false))⟩, 9, false),
         (⟨some 77, .mv (.t 5), (some (75, false))⟩, 10, false),
         (⟨some 78, .bin .eql (.t 76) (.t 77), (some (75, false))⟩, 11, false),
         (⟨some 79, .pick (.t 75) (.k (.sc (.bool true))) (.t 78), none⟩, 12, false),
         (⟨some 80, .mv (.t 79), none⟩, 13, false),
         (⟨some 81, .fldA 1 (.t 1), (some (80, false))⟩, 14, false),
         (⟨some 82, .ld 1 false (.t 81), (some (80, false))⟩, 15, true),
         (⟨some 83, .mv (.t 6), (some (80, false))⟩, 16, false),
         (⟨some 84, .idxA 1 (.t 82) (.t 83), (some (80, false))⟩, 17, false),
         (⟨some 85, .ld 1 false (.t 84), (some (80, false))⟩, 18, true),
         (⟨some 86, .mv (.t 5), (some (80, false))⟩, 19, false),
         (⟨some 87, .bin .neq (.t 85) (.t 86), (some (80, false))⟩, 20, false),
         (⟨some 88, .pick (.t 80) (.k (.sc (.bool true))) (.t 87), none⟩, 21, false),
         (⟨some 89, .mv (.t 88), none⟩, 22, false),
         (⟨some 90, .fldA 0 (.t 1), (some (89, false))⟩, 23, false),
         (⟨some 91, .ld 1 false (.t 90), (some (89, false))⟩, 24, false),
         (⟨some 92, .mv (.t 5), (some (89, false))⟩, 25, false),
         (⟨some 93, .call 29 [(.t 91), (.t 92)], (some (89, false))⟩, 26, false),
         (⟨some 94, .fldA 0 (.t 1), (some (89, false))⟩, 27, false),
         (⟨some 95, .ld 1 false (.t 94), (some (89, false))⟩, 28, false),
         (⟨some 96, .mv (.t 6), (some (89, false))⟩, 29, false),
         (⟨some 97, .call 29 [(.t 95), (.t 96)], (some (89, false))⟩, 30, true),
         (⟨some 98, .beq false (.t 93) (.t 97), (some (89, false))⟩, 31, false),
         (⟨some 99, .pick (.t 89) (.k (.sc (.bool true))) (.t 98), none⟩, 32, false)] [1, 3, 5, 99])
      (.cond (.t 99)
        (.seq (.reg [⟨some 2, .mv (.k (.sc (.bool false))), none⟩] [2])
         (.ret))
        (.skip)))))
   (.reg [⟨some 60, .mv (.t 5), none⟩,
      ⟨some 61, .bin .add (.t 60) (.k (.sc (.int .i64 1))), none⟩,
      ⟨some 5, .mv (.t 61), none⟩] [1, 3, 5]))
def b12L3 : AC :=
  .seq (.seq (.reg [⟨some 117, .mv (.t 12), none⟩,
      ⟨some 118, .mv (.t 3), none⟩,
      ⟨some 119, .bin .lss (.t 117) (.t 118), none⟩] [3, 7, 8, 9, 10, 11, 12, 119])
   (.cond (.t 119)
     (.skip)
     (.exit 6)))
  (.seq (.block 7 (.seq (.reg [⟨some 122, .mv (.t 7), none⟩,
        ⟨some 123, .mv (.t 12), none⟩,
        ⟨some 124, .idxA 1 (.t 122) (.t 123), none⟩,
        ⟨some 125, .ld 1 false (.t 124), none⟩,
        ⟨some 126, .mv (.t 9), none⟩,
        ⟨some 127, .bin .eql (.t 125) (.t 126), none⟩] [3, 7, 8, 9, 10, 11, 12, 127])
     (.cond (.t 127)
       (.reg [⟨some 128, .mv (.t 10), none⟩,
          ⟨some 129, .bin .add (.t 128) (.k (.sc (.int .i64 1))), none⟩,
          ⟨some 10, .mv (.t 129), none⟩] [3, 7, 8, 9, 10, 11, 12])
       (.skip))))
   (.reg [⟨some 120, .mv (.t 12), none⟩,
      ⟨some 121, .bin .add (.t 120) (.k (.sc (.int .i64 1))), none⟩,
      ⟨some 12, .mv (.t 121), none⟩] [3, 7, 8, 9, 10, 11, 12]))
def b12L4 : AC :=
  .seq (.seq (.reg [⟨some 130, .mv (.t 13), none⟩,
      ⟨some 131, .mv (.t 8), none⟩,
      ⟨some 132, .len false (.t 131), none⟩,
      ⟨some 133, .bin .lss (.t 130) (.t 132), none⟩] [3, 7, 8, 9, 10, 11, 13, 133])
   (.cond (.t 133)
     (.skip)
     (.exit 8)))
  (.seq (.block 9 (.seq (.reg [⟨some 136, .mv (.t 7), none⟩,
        ⟨some 137, .mv (.t 8), none⟩,
        ⟨some 138, .mv (.t 13), none⟩,
        ⟨some 139, .idxA 1 (.t 137) (.t 138), none⟩,
        ⟨some 140, .ld 1 false (.t 139), none⟩,
        ⟨some 141, .idxA 1 (.t 140) (.k (.sc (.int .i64 0))), none⟩,
        ⟨some 142, .ld 1 false (.t 141), none⟩,
        ⟨some 143, .bin .quo (.t 142) (.k (.sc (.int .i64 4))), none⟩,
        ⟨some 144, .idxA 1 (.t 136) (.t 143), none⟩,
        ⟨some 145, .ld 1 false (.t 144), none⟩,
        ⟨some 146, .mv (.t 9), none⟩,
        ⟨some 147, .bin .eql (.t 145) (.t 146), none⟩] [3, 7, 8, 9, 10, 11, 13, 147])
     (.cond (.t 147)
       (.reg [⟨some 148, .mv (.t 11), none⟩,
          ⟨some 149, .bin .add (.t 148) (.k (.sc (.int .i64 1))), none⟩,
          ⟨some 11, .mv (.t 149), none⟩] [3, 7, 8, 9, 10, 11, 13])
       (.skip))))
   (.reg [⟨some 134, .mv (.t 13), none⟩,
      ⟨some 135, .bin .add (.t 134) (.k (.sc (.int .i64 1))), none⟩,
      ⟨some 13, .mv (.t 135), none⟩] [3, 7, 8, 9, 10, 11, 13]))
def b12L2 : AC :=
  .seq (.seq (.reg [⟨some 106, .mv (.t 9), none⟩,
      ⟨some 107, .mv (.t 3), none⟩,
      ⟨some 108, .bin .lss (.t 106) (.t 107), none⟩] [3, 7, 8, 9, 108])
   (.cond (.t 108)
     (.skip)
     (.exit 4)))
  (.seq (.block 5 (.seq (.seq (.reg [⟨some 111, .mv (.t 7), none⟩,
         ⟨some 112, .mv (.t 9), none⟩,
         ⟨some 113, .idxA 1 (.t 111) (.t 112), none⟩,
         ⟨some 114, .ld 1 false (.t 113), none⟩,
         ⟨some 115, .mv (.t 9), none⟩,
         ⟨some 116, .bin .neq (.t 114) (.t 115), none⟩] [3, 7, 8, 9, 116])
      (.cond (.t 116)
        (.exit 5)
        (.skip)))
     (.seq (.reg [⟨some 10, .mv (.k (.sc (.int .i64 0))), none⟩,
         ⟨some 11, .mv (.k (.sc (.int .i64 0))), none⟩] [3, 7, 8, 9, 10, 11])
      (.seq (.seq (.reg [⟨some 12, .mv (.k (.sc (.int .i64 0))), none⟩] [3, 7, 8, 9, 10, 11, 12])
        (.block 6 (.loop [3, 7, 8, 9, 10, 11, 12] b12L3)))
       (.seq (.seq (.reg [⟨some 13, .mv (.k (.sc (.int .i64 0))), none⟩] [3, 7, 8, 9, 10, 11, 13])
         (.block 8 (.loop [3, 7, 8, 9, 10, 11, 13] b12L4)))
        (.seq (.reg [⟨some 150, .mv (.t 11), none⟩,
            ⟨some 151, .mv (.t 10), none⟩,
            ⟨some 152, .bin .add (.t 151) (.k (.sc (.int .i64 2))), none⟩,
            ⟨some 153, .bin .neq (.t 150) (.t 152), none⟩] [3, 7, 8, 9, 153])
         (.cond (.t 153)
           (.seq (.reg [⟨some 2, .mv (.k (.sc (.bool false))), none⟩] [2])
            (.ret))
           (.skip))))))))
   (.reg [⟨some 109, .mv (.t 9), none⟩,
      ⟨some 110, .bin .add (.t 109) (.k (.sc (.int .i64 1))), none⟩,
      ⟨some 9, .mv (.t 110), none⟩] [3, 7, 8, 9]))
/-- unravel/unravelref01.Valid -/
def b12 : AC :=
  .seq (.reg [⟨some 1, .box (.t 0), none⟩,
     ⟨some 2, .mv (.k (.sc (.bool false))), none⟩] [1])
  (.seq (.reg [⟨some 14, .fldA 0 (.t 1), none⟩,
      ⟨some 15, .ld 1 false (.t 14), none⟩,
      ⟨some 16, .len false (.t 15), none⟩,
      ⟨some 3, .mv (.t 16), none⟩] [1, 3])
   (.seq (.seq (.reg [⟨some 17, .mv (.t 3), none⟩,
        ⟨some 18, .bin .gtr (.t 17) (.k (.sc (.int .i64 64))), none⟩,
        ⟨some 19, .mv (.t 18), none⟩,
        ⟨some 20, .fldA 1 (.t 1), (some (19, false))⟩,
        ⟨some 21, .ld 1 false (.t 20), (some (19, false))⟩,
        ⟨some 22, .len false (.t 21), (some (19, false))⟩,
        ⟨some 23, .mv (.t 3), (some (19, false))⟩,
        ⟨some 24, .bin .mul (.k (.sc (.int .i64 4))) (.t 23), (some (19, false))⟩,
        ⟨some 25, .bin .neq (.t 22) (.t 24), (some (19, false))⟩,
        ⟨some 26, .pick (.t 19) (.k (.sc (.bool true))) (.t 25), none⟩,
        ⟨some 27, .mv (.t 26), none⟩,
        ⟨some 28, .fldA 2 (.t 1), (some (27, false))⟩,
        ⟨some 29, .ld 1 false (.t 28), (some (27, false))⟩,
        ⟨some 30, .bin .lss (.t 29) (.k (.sc (.int .i64 0))), (some (27, false))⟩,
        ⟨some 31, .pick (.t 27) (.k (.sc (.bool true))) (.t 30), none⟩,
        ⟨some 32, .mv (.t 31), none⟩,
        ⟨some 33, .fldA 2 (.t 1), (some (32, false))⟩,
        ⟨some 34, .ld 1 false (.t 33), (some (32, false))⟩,
        ⟨some 35, .bin .gtr (.t 34) (.k (.sc (.int .i64 64))), (some (32, false))⟩,
        ⟨some 36, .pick (.t 32) (.k (.sc (.bool true))) (.t 35), none⟩] [1, 3, 36])
     (.cond (.t 36)
       (.seq (.reg [⟨some 2, .mv (.k (.sc (.bool false))), none⟩] [2])
        (.ret))
       (.skip)))
    (.seq (.seq (.reg [⟨some 4, .mv (.k (.sc (.int .i64 0))), none⟩] [1, 3, 4])
      (.block 0 (.loop [1, 3, 4] b12L0)))
     (.seq (.seq (.reg [⟨some 5, .mv (.k (.sc (.int .i64 0))), none⟩] [1, 3, 5])
       (.block 2 (.loop [1, 3, 5] b12L1)))
      (.seq (.reg [⟨some 100, .fldA 1 (.t 1), none⟩,
          ⟨some 101, .ld 1 false (.t 100), none⟩,
          ⟨some 102, .call 30 [(.t 101)], none⟩,
          ⟨some 7, .mv (.t 102), none⟩] [1, 3, 7])
       (.seq (.reg [⟨some 103, .fldA 1 (.t 1), none⟩,
           ⟨some 104, .ld 1 false (.t 103), none⟩,
           ⟨some 105, .call 31 [(.t 104)], none⟩,
           ⟨some 8, .mv (.t 105), none⟩] [3, 7, 8])
        (.seq (.seq (.reg [⟨some 9, .mv (.k (.sc (.int .i64 0))), none⟩] [3, 7, 8, 9])
          (.block 4 (.loop [3, 7, 8, 9] b12L2)))
         (.seq (.reg [⟨some 2, .mv (.k (.sc (.bool true))), none⟩] [2])
          (.ret)))))))))
def a12 : AFun := ⟨1, b12, [.t 2]⟩

/-- unravel/unravellaw04.knot -/
def b13 : AC :=
  .seq (.reg [⟨some 2, .box (.t 0), none⟩,
     ⟨some 4, .mv (.k (.sc (.bool false))), none⟩] [1, 2])
  (.seq (.reg [⟨some 5, .fldA 0 (.t 2), none⟩,
      ⟨some 6, .ld 1 false (.t 5), none⟩,
      ⟨some 7, .len false (.t 6), none⟩,
      ⟨some 8, .bin .geq (.t 7) (.k (.sc (.int .i64 1))), none⟩,
      ⟨some 9, .mv (.t 8), none⟩,
      ⟨some 10, .fldA 0 (.t 2), (some (9, true))⟩,
      ⟨some 11, .ld 1 false (.t 10), (some (9, true))⟩,
      ⟨some 12, .len false (.t 11), (some (9, true))⟩,
      ⟨some 13, .mv (.t 1), (some (9, true))⟩,
      ⟨some 14, .bin .leq (.t 12) (.t 13), (some (9, true))⟩,
      ⟨some 15, .pick (.t 9) (.t 14) (.k (.sc (.bool false))), none⟩,
      ⟨some 16, .mv (.t 15), none⟩,
      ⟨some 17, .ld 3 true (.t 2), (some (16, true))⟩,
      ⟨some 18, .call 12 [(.t 17)], (some (16, true))⟩,
      ⟨some 19, .pick (.t 16) (.t 18) (.k (.sc (.bool false))), none⟩,
      ⟨some 20, .mv (.t 19), none⟩,
      ⟨some 21, .fldA 2 (.t 2), (some (20, true))⟩,
      ⟨some 22, .ld 1 false (.t 21), (some (20, true))⟩,
      ⟨some 23, .bin .eql (.t 22) (.k (.sc (.int .i64 0))), (some (20, true))⟩,
      ⟨some 24, .pick (.t 20) (.t 23) (.k (.sc (.bool false))), none⟩,
      ⟨some 25, .mv (.t 24), none⟩,
      ⟨some 26, .ld 3 true (.t 2), (some (25, true))⟩,
      ⟨some 27, .call 32 [(.t 26)], (some (25, true))⟩,
      ⟨some 28, .len false (.t 27), (some (25, true))⟩,
      ⟨some 29, .bin .eql (.t 28) (.k (.sc (.int .i64 1))), (some (25, true))⟩,
      ⟨some 30, .pick (.t 25) (.t 29) (.k (.sc (.bool false))), none⟩,
      ⟨some 4, .mv (.t 30), none⟩] [4])
   (.ret))
def a13 : AFun := ⟨2, b13, [.t 4]⟩

def b14L0 : AC :=
  .seq (.seq (.reg [⟨some 11, .mv (.t 5), none⟩,
      ⟨some 12, .mv (.t 0), none⟩,
      ⟨some 13, .len false (.t 12), none⟩,
      ⟨some 14, .bin .lss (.t 11) (.t 13), none⟩] [0, 1, 5, 14])
   (.cond (.t 14)
     (.skip)
     (.exit 0)))
  (.seq (.block 1 (.seq (.regd [(⟨some 17, .mv (.t 0), none⟩, 0, false),
        (⟨some 18, .mv (.t 5), none⟩, 1, false),
        (⟨some 19, .idxA 1 (.t 17) (.t 18), none⟩, 2, false),
        (⟨some 20, .ld 1 false (.t 19), none⟩, 3, false),
        (⟨some 21, .mv (.t 1), none⟩, 4, false),
        (⟨some 22, .mv (.t 5), none⟩, 5, false),
        (⟨some 23, .idxA 1 (.t 21) (.t 22), none⟩, 6, false),
        (⟨some 24, .ld 1 false (.t 23), none⟩, 7, false),
        (⟨some 25, .bin .neq (.t 20) (.t 24), none⟩, 8, false)] [0, 1, 5, 25])
     (.cond (.t 25)
       (.seq (.reg [⟨some 4, .mv (.k (.sc (.bool false))), none⟩] [4])
        (.ret))
       (.skip))))
   (.reg [⟨some 15, .mv (.t 5), none⟩,
      ⟨some 16, .bin .add (.t 15) (.k (.sc (.int .i64 1))), none⟩,
      ⟨some 5, .mv (.t 16), none⟩] [0, 1, 5]))
/-- unravel/unravelref01.Ints -/
def b14 : AC :=
  .seq (.reg [⟨some 4, .mv (.k (.sc (.bool false))), none⟩] [0, 1])
  (.seq (.seq (.reg [⟨some 6, .mv (.t 0), none⟩,
       ⟨some 7, .len false (.t 6), none⟩,
       ⟨some 8, .mv (.t 1), none⟩,
       ⟨some 9, .len false (.t 8), none⟩,
       ⟨some 10, .bin .neq (.t 7) (.t 9), none⟩] [0, 1, 10])
    (.cond (.t 10)
      (.seq (.reg [⟨some 4, .mv (.k (.sc (.bool false))), none⟩] [4])
       (.ret))
      (.skip)))
   (.seq (.seq (.reg [⟨some 5, .mv (.k (.sc (.int .i64 0))), none⟩] [0, 1, 5])
     (.block 0 (.loop [0, 1, 5] b14L0)))
    (.seq (.reg [⟨some 4, .mv (.k (.sc (.bool true))), none⟩] [4])
     (.ret))))
def a14 : AFun := ⟨2, b14, [.t 4]⟩

def b16L0 : AC :=
  .seq (.reg [⟨some 22, .bin .lss (.t 21) (.t 20), none⟩] [3, 4, 19, 20, 21, 22])
  (.seq (.cond (.t 22)
     (.skip)
     (.exit 0))
   (.seq (.block 1 (.seq (.reg [⟨some 23, .idxA 1 (.t 19) (.t 21), none⟩,
         ⟨some 24, .ld 1 false (.t 23), none⟩,
         ⟨some 6, .mv (.t 24), none⟩] [3, 4, 6, 19, 20, 21])
      (.seq (.seq (.reg [⟨some 25, .mv (.t 6), none⟩,
           ⟨some 26, .mv (.t 3), none⟩,
           ⟨some 27, .bin .mul (.k (.sc (.int .i64 (-2)))) (.t 26), none⟩,
           ⟨some 28, .bin .lss (.t 25) (.t 27), none⟩,
           ⟨some 29, .mv (.t 28), none⟩,
           ⟨some 30, .mv (.t 6), (some (29, false))⟩,
           ⟨some 31, .mv (.t 3), (some (29, false))⟩,
           ⟨some 32, .bin .mul (.k (.sc (.int .i64 2))) (.t 31), (some (29, false))⟩,
           ⟨some 33, .bin .gtr (.t 30) (.t 32), (some (29, false))⟩,
           ⟨some 34, .pick (.t 29) (.k (.sc (.bool true))) (.t 33), none⟩,
           ⟨some 35, .mv (.t 34), none⟩,
           ⟨some 36, .mv (.t 6), (some (35, false))⟩,
           ⟨some 37, .bin .eql (.t 36) (.k (.sc (.int .i64 0))), (some (35, false))⟩,
           ⟨some 38, .pick (.t 35) (.k (.sc (.bool true))) (.t 37), none⟩,
           ⟨some 39, .mv (.t 38), none⟩,
           ⟨some 40, .mv (.t 6), (some (39, false))⟩,
           ⟨some 41, .bin .rem (.t 40) (.k (.sc (.int .i64 2))), (some (39, false))⟩,
           ⟨some 42, .bin .neq (.t 41) (.k (.sc (.int .i64 0))), (some (39, false))⟩,
           ⟨some 43, .pick (.t 39) (.k (.sc (.bool true))) (.t 42), none⟩] [3, 4, 6, 19, 20, 21, 43])
        (.cond (.t 43)
          (.seq (.reg [⟨some 2, .mv (.k (.sc (.bool false))), none⟩] [2])
           (.ret))
          (.skip)))
       (.seq (.reg [⟨some 44, .mv (.t 6), none⟩,
           ⟨some 45, .mv (.t 6), none⟩,
           ⟨some 46, .un .neg (.t 45), none⟩,
           ⟨some 47, .mm true (.t 44) [(.t 46)], none⟩,
           ⟨some 48, .bin .quo (.t 47) (.k (.sc (.int .i64 2))), none⟩,
           ⟨some 7, .mv (.t 48), none⟩] [3, 4, 7, 19, 20, 21])
        (.seq (.seq (.reg [⟨some 49, .mv (.t 4), none⟩,
             ⟨some 50, .mv (.t 7), none⟩,
             ⟨some 51, .idxA 1 (.t 49) (.t 50), none⟩,
             ⟨some 52, .ld 1 false (.t 51), none⟩] [3, 4, 7, 19, 20, 21, 52])
          (.cond (.t 52)
            (.seq (.reg [⟨some 2, .mv (.k (.sc (.bool false))), none⟩] [2])
             (.ret))
            (.skip)))
         (.reg [⟨some 53, .mv (.t 4), none⟩,
            ⟨some 54, .mv (.t 7), none⟩,
            ⟨some 55, .idxA 1 (.t 53) (.t 54), none⟩,
            ⟨none, .st 1 (.t 55) (.k (.sc (.bool true))), none⟩] [3, 4, 19, 20, 21]))))))
    (.reg [⟨some 56, .bin .add (.t 21) (.k (.sc (.int .i64 1))), none⟩,
       ⟨some 21, .mv (.t 56), none⟩] [3, 4, 19, 20, 21])))
/-- unravel/dowker.Valid -/
def b16 : AC :=
  .seq (.reg [⟨some 2, .mv (.k (.sc (.bool false))), none⟩] [0])
  (.seq (.reg [⟨some 8, .mv (.t 0), none⟩,
      ⟨some 9, .len false (.t 8), none⟩,
      ⟨some 3, .mv (.t 9), none⟩] [0, 3])
   (.seq (.seq (.reg [⟨some 10, .mv (.t 3), none⟩,
        ⟨some 11, .bin .eql (.t 10) (.k (.sc (.int .i64 0))), none⟩,
        ⟨some 12, .mv (.t 11), none⟩,
        ⟨some 13, .mv (.t 3), (some (12, false))⟩,
        ⟨some 14, .bin .gtr (.t 13) (.k (.sc (.int .i64 64))), (some (12, false))⟩,
        ⟨some 15, .pick (.t 12) (.k (.sc (.bool true))) (.t 14), none⟩] [0, 3, 15])
     (.cond (.t 15)
       (.seq (.reg [⟨some 2, .mv (.k (.sc (.bool false))), none⟩] [2])
        (.ret))
       (.skip)))
    (.seq (.reg [⟨some 16, .mv (.t 3), none⟩,
        ⟨some 17, .bin .add (.t 16) (.k (.sc (.int .i64 1))), none⟩,
        ⟨some 18, .mk 1 1 [.bool false] (.t 17) (.t 17), none⟩,
        ⟨some 4, .mv (.t 18), none⟩] [0, 3, 4])
     (.seq (.seq (.reg [⟨some 19, .mv (.t 0), none⟩,
          ⟨some 20, .len false (.t 19), none⟩,
          ⟨some 21, .mv (.k (.sc (.int .i64 0))), none⟩] [3, 4, 19, 20, 21])
       (.block 0 (.loop [3, 4, 19, 20, 21] b16L0)))
      (.seq (.reg [⟨some 2, .mv (.k (.sc (.bool true))), none⟩] [2])
       (.ret))))))
def a16 : AFun := ⟨1, b16, [.t 2]⟩

def b17L1 : AC :=
  .seq (.seq (.reg [⟨some 21, .mv (.t 6), none⟩,
      ⟨some 22, .mv (.t 3), none⟩,
      ⟨some 23, .bin .lss (.t 21) (.t 22), none⟩] [0, 3, 4, 5, 6, 23])
   (.cond (.t 23)
     (.skip)
     (.exit 2)))
  (.seq (.block 3 (.seq (.reg [⟨some 26, .mv (.t 0), none⟩,
        ⟨some 27, .mv (.t 6), none⟩,
        ⟨some 28, .idxA 1 (.t 26) (.t 27), none⟩,
        ⟨some 29, .ld 1 false (.t 28), none⟩,
        ⟨some 30, .mv (.t 4), none⟩,
        ⟨some 31, .bin .eql (.t 29) (.t 30), none⟩,
        ⟨some 32, .mv (.t 31), none⟩,
        ⟨some 33, .mv (.t 0), (some (32, false))⟩,
        ⟨some 34, .mv (.t 6), (some (32, false))⟩,
        ⟨some 35, .idxA 1 (.t 33) (.t 34), (some (32, false))⟩,
        ⟨some 36, .ld 1 false (.t 35), (some (32, false))⟩,
        ⟨some 37, .mv (.t 4), (some (32, false))⟩,
        ⟨some 38, .un .neg (.t 37), (some (32, false))⟩,
        ⟨some 39, .bin .eql (.t 36) (.t 38), (some (32, false))⟩,
        ⟨some 40, .pick (.t 32) (.k (.sc (.bool true))) (.t 39), none⟩] [0, 3, 4, 5, 6, 40])
     (.cond (.t 40)
       (.reg [⟨some 41, .mv (.t 5), none⟩,
          ⟨some 42, .bin .add (.t 41) (.k (.sc (.int .i64 1))), none⟩,
          ⟨some 5, .mv (.t 42), none⟩] [0, 3, 4, 5, 6])
       (.skip))))
   (.reg [⟨some 24, .mv (.t 6), none⟩,
      ⟨some 25, .bin .add (.t 24) (.k (.sc (.int .i64 1))), none⟩,
      ⟨some 6, .mv (.t 25), none⟩] [0, 3, 4, 5, 6]))
def b17L0 : AC :=
  .seq (.seq (.reg [⟨some 15, .mv (.t 4), none⟩,
      ⟨some 16, .mv (.t 3), none⟩,
      ⟨some 17, .bin .mul (.k (.sc (.int .i64 2))) (.t 16), none⟩,
      ⟨some 18, .bin .leq (.t 15) (.t 17), none⟩] [0, 3, 4, 18])
   (.cond (.t 18)
     (.skip)
     (.exit 0)))
  (.seq (.block 1 (.seq (.reg [⟨some 5, .mv (.k (.sc (.int .i64 0))), none⟩] [0, 3, 4, 5])
     (.seq (.seq (.reg [⟨some 6, .mv (.k (.sc (.int .i64 0))), none⟩] [0, 3, 4, 5, 6])
       (.block 2 (.loop [0, 3, 4, 5, 6] b17L1)))
      (.seq (.reg [⟨some 43, .mv (.t 5), none⟩,
          ⟨some 44, .bin .neq (.t 43) (.k (.sc (.int .i64 1))), none⟩] [0, 3, 4, 44])
       (.cond (.t 44)
         (.seq (.reg [⟨some 2, .mv (.k (.sc (.bool false))), none⟩] [2])
          (.ret))
         (.skip))))))
   (.reg [⟨some 19, .mv (.t 4), none⟩,
      ⟨some 20, .bin .add (.t 19) (.k (.sc (.int .i64 2))), none⟩,
      ⟨some 4, .mv (.t 20), none⟩] [0, 3, 4]))
/-- unravel/unravelref04.Valid -/
def b17 : AC :=
  .seq (.reg [⟨some 2, .mv (.k (.sc (.bool false))), none⟩] [0])
  (.seq (.reg [⟨some 7, .mv (.t 0), none⟩,
      ⟨some 8, .len false (.t 7), none⟩,
      ⟨some 3, .mv (.t 8), none⟩] [0, 3])
   (.seq (.seq (.reg [⟨some 9, .mv (.t 3), none⟩,
        ⟨some 10, .bin .lss (.t 9) (.k (.sc (.int .i64 1))), none⟩,
        ⟨some 11, .mv (.t 10), none⟩,
        ⟨some 12, .mv (.t 3), (some (11, false))⟩,
        ⟨some 13, .bin .gtr (.t 12) (.k (.sc (.int .i64 64))), (some (11, false))⟩,
        ⟨some 14, .pick (.t 11) (.k (.sc (.bool true))) (.t 13), none⟩] [0, 3, 14])
     (.cond (.t 14)
       (.seq (.reg [⟨some 2, .mv (.k (.sc (.bool false))), none⟩] [2])
        (.ret))
       (.skip)))
    (.seq (.seq (.reg [⟨some 4, .mv (.k (.sc (.int .i64 2))), none⟩] [0, 3, 4])
      (.block 0 (.loop [0, 3, 4] b17L0)))
     (.seq (.reg [⟨some 2, .mv (.k (.sc (.bool true))), none⟩] [2])
      (.ret)))))
def a17 : AFun := ⟨1, b17, [.t 2]⟩

/-- unravel/dowker.Signs -/
def b18 : AC :=
  .seq (.reg [⟨some 1, .box (.t 0), none⟩,
     ⟨some 2, .mv (.k (.sc .nilS)), none⟩,
     ⟨some 3, .mv (.k (.sc (.int .i64 0))), none⟩] [1])
  (.seq (.seq (.reg [⟨some 6, .ld 1 false (.t 1), none⟩,
       ⟨some 7, .call 16 [(.t 6)], none⟩,
       ⟨some 8, .un .not (.t 7), none⟩] [1, 8])
    (.cond (.t 8)
      (.seq (.reg [⟨some 2, .mv (.k (.sc .nilS)), none⟩,
          ⟨some 3, .mv (.k (.sc (.int .i64 3))), none⟩] [2, 3])
       (.ret))
      (.skip)))
   (.seq (.seq (.reg [⟨some 9, .ld 1 false (.t 1), none⟩,
        ⟨some 10, .len false (.t 9), none⟩,
        ⟨some 11, .bin .gtr (.t 10) (.k (.sc (.int .i64 14))), none⟩] [1, 11])
     (.cond (.t 11)
       (.seq (.reg [⟨some 2, .mv (.k (.sc .nilS)), none⟩,
           ⟨some 3, .mv (.k (.sc (.int .i64 5))), none⟩] [2, 3])
        (.ret))
       (.skip)))
    (.seq (.reg [⟨some 12, .ld 1 false (.t 1), none⟩,
        ⟨some 13, .len false (.t 12), none⟩,
        ⟨some 14, .mk 1 8 [.int .i64 0] (.t 13) (.t 13), none⟩,
        ⟨some 4, .new [.nilS], none⟩,
        ⟨none, .st 1 (.t 4) (.t 14), none⟩] [1, 4])
     (.seq (.reg [⟨some 15, .ld 1 false (.t 4), none⟩,
         ⟨some 16, .idxA 1 (.t 15) (.k (.sc (.int .i64 0))), none⟩,
         ⟨none, .st 1 (.t 16) (.k (.sc (.int .i64 1))), none⟩] [1, 4])
      (.seq (.reg [⟨some 5, .new [.nilF], none⟩] [1, 4, 5])
       (.seq (.reg [⟨some 17, .mkf 33 [(.t 4), (.t 1), (.t 5)], none⟩,
           ⟨none, .st 1 (.t 5) (.t 17), none⟩] [4, 5])
        (.seq (.seq (.reg [⟨some 18, .ld 1 false (.t 5), none⟩,
             ⟨some 19, .callv (.t 18) [(.k (.sc (.int .i64 1)))], none⟩,
             ⟨some 20, .un .not (.t 19), none⟩] [4, 20])
          (.cond (.t 20)
            (.seq (.reg [⟨some 2, .mv (.k (.sc .nilS)), none⟩,
                ⟨some 3, .mv (.k (.sc (.int .i64 7))), none⟩] [2, 3])
             (.ret))
            (.skip)))
         (.seq (.reg [⟨some 21, .ld 1 false (.t 4), none⟩,
             ⟨some 2, .mv (.t 21), none⟩,
             ⟨some 3, .mv (.k (.sc (.int .i64 0))), none⟩] [2, 3])
          (.ret)))))))))
def a18 : AFun := ⟨1, b18, [.t 2, .t 3]⟩

/-- unravel/dowker.Diagram -/
def b19 : AC :=
  .seq (.reg [⟨some 2, .new [.nilS, .nilS, .int .i64 0], none⟩,
     ⟨some 3, .mv (.k (.sc (.int .i64 0))), none⟩] [0, 2])
  (.seq (.reg [⟨some 7, .mv (.t 0), none⟩,
      ⟨some 8, .call 18 [(.t 7)], none⟩,
      ⟨some 6, .mv (.t 8), none⟩,
      ⟨some 9, .ext (.t 6) 0, none⟩,
      ⟨some 10, .ext (.t 6) 1, none⟩,
      ⟨some 4, .mv (.t 9), none⟩,
      ⟨some 5, .mv (.t 10), none⟩] [0, 2, 4, 5])
   (.seq (.seq (.reg [⟨some 11, .mv (.t 5), none⟩,
        ⟨some 12, .bin .neq (.t 11) (.k (.sc (.int .i64 0))), none⟩] [0, 2, 4, 5, 12])
     (.cond (.t 12)
       (.seq (.reg [⟨some 13, .bld [.nilS, .nilS, .int .i64 0] [], none⟩,
           ⟨some 14, .mv (.t 5), none⟩,
           ⟨none, .st 3 (.t 2) (.t 13), none⟩,
           ⟨some 3, .mv (.t 14), none⟩] [2, 3])
        (.ret))
       (.skip)))
    (.seq (.reg [⟨some 15, .mv (.t 0), none⟩,
        ⟨some 16, .mv (.t 4), none⟩,
        ⟨some 17, .call 34 [(.t 15), (.t 16)], none⟩,
        ⟨none, .st 3 (.t 2) (.t 17), none⟩,
        ⟨some 3, .mv (.k (.sc (.int .i64 0))), none⟩] [2, 3])
     (.ret))))
def a19 : AFun := ⟨1, b19, [.cell 2 3 true, .t 3]⟩

def b20L1 : AC :=
  .seq (.seq (.reg [⟨some 17, .mv (.t 7), none⟩,
      ⟨some 18, .mv (.t 3), none⟩,
      ⟨some 19, .bin .lss (.t 17) (.t 18), none⟩] [0, 3, 4, 5, 6, 7, 19])
   (.cond (.t 19)
     (.skip)
     (.exit 2)))
  (.seq (.block 3 (.seq (.reg [⟨some 22, .mv (.t 5), none⟩,
        ⟨some 23, .mv (.t 3), none⟩,
        ⟨some 24, .bin .sub (.t 23) (.k (.sc (.int .i64 1))), none⟩,
        ⟨some 25, .mv (.t 7), none⟩,
        ⟨some 26, .bin .sub (.t 24) (.t 25), none⟩,
        ⟨some 27, .conv .u64 (.t 26), none⟩,
        ⟨some 28, .bin .shr (.t 22) (.t 27), none⟩,
        ⟨some 29, .bin .rem (.t 28) (.k (.sc (.int .i64 2))), none⟩,
        ⟨some 30, .bin .eql (.t 29) (.k (.sc (.int .i64 0))), none⟩] [0, 3, 4, 5, 6, 7, 30])
     (.cond (.t 30)
       (.reg [⟨some 31, .mv (.t 6), none⟩,
          ⟨some 32, .bsl 1 [.int .i64 0] 1 [(0, .k (.sc (.int .i64 1)))], none⟩,
          ⟨some 33, .app 1 8 [.int .i64 0] (.t 31) (.t 32), none⟩,
          ⟨some 6, .mv (.t 33), none⟩] [0, 3, 4, 5, 6, 7])
       (.reg [⟨some 34, .mv (.t 6), none⟩,
          ⟨some 35, .bsl 1 [.int .i64 0] 1 [(0, .k (.sc (.int .i64 (-1))))], none⟩,
          ⟨some 36, .app 1 8 [.int .i64 0] (.t 34) (.t 35), none⟩,
          ⟨some 6, .mv (.t 36), none⟩] [0, 3, 4, 5, 6, 7]))))
   (.reg [⟨some 20, .mv (.t 7), none⟩,
      ⟨some 21, .bin .add (.t 20) (.k (.sc (.int .i64 1))), none⟩,
      ⟨some 7, .mv (.t 21), none⟩] [0, 3, 4, 5, 6, 7]))
def b20L0 : AC :=
  .seq (.seq (.reg [⟨some 10, .mv (.t 5), none⟩,
      ⟨some 11, .mv (.t 3), none⟩,
      ⟨some 12, .conv .u64 (.t 11), none⟩,
      ⟨some 13, .bin .shl (.k (.sc (.int .i64 1))) (.t 12), none⟩,
      ⟨some 14, .bin .lss (.t 10) (.t 13), none⟩] [0, 3, 4, 5, 14])
   (.cond (.t 14)
     (.skip)
     (.exit 0)))
  (.seq (.block 1 (.seq (.reg [⟨some 6, .mv (.k (.sc .nilS)), none⟩] [0, 3, 4, 5, 6])
     (.seq (.seq (.reg [⟨some 7, .mv (.k (.sc (.int .i64 0))), none⟩] [0, 3, 4, 5, 6, 7])
       (.block 2 (.loop [0, 3, 4, 5, 6, 7] b20L1)))
      (.seq (.reg [⟨some 37, .mv (.t 0), none⟩,
          ⟨some 38, .mv (.t 6), none⟩,
          ⟨some 39, .call 22 [(.t 37), (.t 38)], none⟩,
          ⟨some 40, .call 12 [(.t 39)], none⟩] [0, 3, 4, 5, 6, 40])
       (.cond (.t 40)
         (.reg [⟨some 41, .mv (.t 4), none⟩,
            ⟨some 42, .mv (.t 6), none⟩,
            ⟨some 43, .bsl 1 [.nilS] 1 [(0, .t 42)], none⟩,
            ⟨some 44, .app 1 24 [.nilS] (.t 41) (.t 43), none⟩,
            ⟨some 4, .mv (.t 44), none⟩] [0, 3, 4, 5])
         (.skip))))))
   (.reg [⟨some 15, .mv (.t 5), none⟩,
      ⟨some 16, .bin .add (.t 15) (.k (.sc (.int .i64 1))), none⟩,
      ⟨some 5, .mv (.t 16), none⟩] [0, 3, 4, 5]))
/-- unravel/unravelref04.All -/
def b20 : AC :=
  .seq (.reg [⟨some 2, .mv (.k (.sc .nilS)), none⟩] [0])
  (.seq (.reg [⟨some 8, .mv (.t 0), none⟩,
      ⟨some 9, .len false (.t 8), none⟩,
      ⟨some 3, .mv (.t 9), none⟩] [0, 3])
   (.seq (.reg [⟨some 4, .mv (.k (.sc .nilS)), none⟩] [0, 3, 4])
    (.seq (.seq (.reg [⟨some 5, .mv (.k (.sc (.int .i64 0))), none⟩] [0, 3, 4, 5])
      (.block 0 (.loop [0, 3, 4, 5] b20L0)))
     (.seq (.reg [⟨some 45, .mv (.t 4), none⟩,
         ⟨some 2, .mv (.t 45), none⟩] [2])
      (.ret)))))
def a20 : AFun := ⟨1, b20, [.t 2]⟩

def b22L0 : AC :=
  .seq (.seq (.reg [⟨some 30, .mv (.t 9), none⟩,
      ⟨some 31, .mv (.t 5), none⟩,
      ⟨some 32, .bin .lss (.t 30) (.t 31), none⟩] [0, 1, 4, 5, 6, 7, 8, 9, 32])
   (.cond (.t 32)
     (.skip)
     (.exit 0)))
  (.seq (.block 1 (.seq (.reg [⟨some 35, .mv (.t 9), none⟩,
        ⟨some 36, .bin .mul (.k (.sc (.int .i64 2))) (.t 35), none⟩,
        ⟨some 37, .mv (.t 0), none⟩,
        ⟨some 38, .mv (.t 9), none⟩,
        ⟨some 39, .idxA 1 (.t 37) (.t 38), none⟩,
        ⟨some 40, .ld 1 false (.t 39), none⟩,
        ⟨some 41, .call 35 [(.t 40)], none⟩,
        ⟨some 42, .bin .sub (.t 41) (.k (.sc (.int .i64 1))), none⟩,
        ⟨some 10, .mv (.t 36), none⟩,
        ⟨some 11, .mv (.t 42), none⟩] [0, 1, 4, 5, 6, 7, 8, 9, 10, 11])
     (.seq (.seq (.reg [⟨some 43, .mv (.t 0), none⟩,
          ⟨some 44, .mv (.t 9), none⟩,
          ⟨some 45, .idxA 1 (.t 43) (.t 44), none⟩,
          ⟨some 46, .ld 1 false (.t 45), none⟩,
          ⟨some 47, .bin .lss (.t 46) (.k (.sc (.int .i64 0))), none⟩] [0, 1, 4, 5, 6, 7, 8, 9, 10, 11, 47])
       (.cond (.t 47)
         (.reg [⟨some 48, .mv (.t 11), none⟩,
            ⟨some 49, .mv (.t 10), none⟩,
            ⟨some 10, .mv (.t 48), none⟩,
            ⟨some 11, .mv (.t 49), none⟩] [0, 1, 4, 5, 6, 7, 8, 9, 10, 11])
         (.skip)))
      (.seq (.reg [⟨some 50, .mv (.t 7), none⟩,
          ⟨some 51, .mv (.t 11), none⟩,
          ⟨some 52, .mv (.t 8), none⟩,
          ⟨some 53, .mv (.t 11), none⟩,
          ⟨some 54, .mv (.t 9), none⟩,
          ⟨some 55, .bin .mul (.k (.sc (.int .i64 4))) (.t 54), none⟩,
          ⟨some 56, .mv (.t 9), none⟩,
          ⟨some 57, .bin .mul (.k (.sc (.int .i64 4))) (.t 56), none⟩,
          ⟨some 58, .bin .add (.t 57) (.k (.sc (.int .i64 2))), none⟩,
          ⟨some 59, .idxA 1 (.t 50) (.t 51), none⟩,
          ⟨none, .st 1 (.t 59) (.t 55), none⟩,
          ⟨some 60, .idxA 1 (.t 52) (.t 53), none⟩,
          ⟨none, .st 1 (.t 60) (.t 58), none⟩] [0, 1, 4, 5, 6, 7, 8, 9, 10])
       (.seq (.reg [⟨some 61, .mv (.t 7), none⟩,
           ⟨some 62, .mv (.t 10), none⟩,
           ⟨some 63, .mv (.t 8), none⟩,
           ⟨some 64, .mv (.t 10), none⟩,
           ⟨some 65, .mv (.t 9), none⟩,
           ⟨some 66, .bin .mul (.k (.sc (.int .i64 4))) (.t 65), none⟩,
           ⟨some 67, .bin .add (.t 66) (.k (.sc (.int .i64 3))), none⟩,
           ⟨some 68, .mv (.t 9), none⟩,
           ⟨some 69, .bin .mul (.k (.sc (.int .i64 4))) (.t 68), none⟩,
           ⟨some 70, .bin .add (.t 69) (.k (.sc (.int .i64 1))), none⟩,
           ⟨some 71, .idxA 1 (.t 61) (.t 62), none⟩,
           ⟨none, .st 1 (.t 71) (.t 67), none⟩,
           ⟨some 72, .idxA 1 (.t 63) (.t 64), none⟩,
           ⟨none, .st 1 (.t 72) (.t 70), none⟩] [0, 1, 4, 5, 6, 7, 8, 9, 10])
        (.seq (.reg [⟨some 73, .mv (.t 1), none⟩,
            ⟨some 74, .mv (.t 9), none⟩,
            ⟨some 75, .idxA 1 (.t 73) (.t 74), none⟩,
            ⟨some 76, .ld 1 false (.t 75), none⟩,
            ⟨some 77, .bin .eql (.t 76) (.k (.sc (.int .i64 (-1)))), none⟩] [0, 1, 4, 5, 6, 7, 8, 9, 10, 77])
         (.cond (.t 77)
           (.reg [⟨some 78, .mv (.t 7), none⟩,
              ⟨some 79, .mv (.t 10), none⟩,
              ⟨some 80, .mv (.t 8), none⟩,
              ⟨some 81, .mv (.t 10), none⟩,
              ⟨some 82, .mv (.t 9), none⟩,
              ⟨some 83, .bin .mul (.k (.sc (.int .i64 4))) (.t 82), none⟩,
              ⟨some 84, .bin .add (.t 83) (.k (.sc (.int .i64 1))), none⟩,
              ⟨some 85, .mv (.t 9), none⟩,
              ⟨some 86, .bin .mul (.k (.sc (.int .i64 4))) (.t 85), none⟩,
              ⟨some 87, .bin .add (.t 86) (.k (.sc (.int .i64 3))), none⟩,
              ⟨some 88, .idxA 1 (.t 78) (.t 79), none⟩,
              ⟨none, .st 1 (.t 88) (.t 84), none⟩,
              ⟨some 89, .idxA 1 (.t 80) (.t 81), none⟩,
              ⟨none, .st 1 (.t 89) (.t 87), none⟩] [0, 1, 4, 5, 6, 7, 8, 9])
           (.skip))))))))
   (.reg [⟨some 33, .mv (.t 9), none⟩,
      ⟨some 34, .bin .add (.t 33) (.k (.sc (.int .i64 1))), none⟩,
      ⟨some 9, .mv (.t 34), none⟩] [0, 1, 4, 5, 6, 7, 8, 9]))
def b22L1 : AC :=
  .seq (.seq (.reg [⟨some 90, .mv (.t 12), none⟩,
      ⟨some 91, .mv (.t 5), none⟩,
      ⟨some 92, .bin .mul (.k (.sc (.int .i64 2))) (.t 91), none⟩,
      ⟨some 93, .bin .lss (.t 90) (.t 92), none⟩] [4, 5, 6, 7, 8, 12, 93])
   (.cond (.t 93)
     (.skip)
     (.exit 2)))
  (.seq (.block 3 (.seq (.regd [(⟨some 96, .mv (.t 8), none⟩, 0, false),
        (⟨some 97, .mv (.t 12), none⟩, 1, false),
        (⟨some 98, .idxA 1 (.t 96) (.t 97), none⟩, 2, false),
        (⟨some 99, .ld 1 false (.t 98), none⟩, 3, false),
        (⟨some 100, .mv (.t 7), none⟩, 4, false),
        (⟨some 101, .mv (.t 12), none⟩, 5, false),
        (⟨some 102, .bin .add (.t 101) (.k (.sc (.int .i64 1))), none⟩, 6, false),
        (⟨some 103, .mv (.t 5), none⟩, 7, false),
        (⟨some 104, .bin .mul (.k (.sc (.int .i64 2))) (.t 103), none⟩, 8, false),
        (⟨some 105, .bin .rem (.t 102) (.t 104), none⟩, 9, false),
        (⟨some 106, .idxA 1 (.t 100) (.t 105), none⟩, 10, false),
        (⟨some 107, .ld 1 false (.t 106), none⟩, 11, false),
        (⟨some 13, .mv (.t 99), none⟩, 12, false),
        (⟨some 14, .mv (.t 107), none⟩, 13, false)] [4, 5, 6, 7, 8, 12, 13, 14])
     (.regs [(⟨some 108, .fldA 1 (.t 6), none⟩, 0, false),
        (⟨some 109, .ld 1 false (.t 108), none⟩, 1, false),
        (⟨some 110, .mv (.t 13), none⟩, 2, false),
        (⟨some 111, .fldA 1 (.t 6), none⟩, 3, false),
        (⟨some 112, .ld 1 false (.t 111), none⟩, 4, false),
        (⟨some 113, .mv (.t 14), none⟩, 5, false),
        (⟨some 114, .mv (.t 14), none⟩, 6, false),
        (⟨some 115, .mv (.t 13), none⟩, 7, false),
        (⟨some 116, .idxA 1 (.t 109) (.t 110), none⟩, 8, false),
        (⟨none, .st 1 (.t 116) (.t 114), none⟩, 9, true),
        (⟨some 117, .idxA 1 (.t 112) (.t 113), none⟩, 10, false),
        (⟨none, .st 1 (.t 117) (.t 115), none⟩, 11, true)] [11] [4, 5, 6, 7, 8, 12])))
   (.reg [⟨some 94, .mv (.t 12), none⟩,
      ⟨some 95, .bin .add (.t 94) (.k (.sc (.int .i64 1))), none⟩,
      ⟨some 12, .mv (.t 95), none⟩] [4, 5, 6, 7, 8, 12]))
/-- unravel/unravelref04.Drawn -/
def b22 : AC :=
  .seq (.reg [⟨some 4, .new [.nilS, .nilS, .int .i64 0], none⟩] [0, 1, 4])
  (.seq (.reg [⟨some 15, .mv (.t 0), none⟩,
      ⟨some 16, .len false (.t 15), none⟩,
      ⟨some 5, .mv (.t 16), none⟩] [0, 1, 4, 5])
   (.seq (.regd [(⟨some 17, .bsl 1 [.int .i64 0] 0 [], none⟩, 0, false),
       (⟨some 18, .mv (.t 1), none⟩, 1, false),
       (⟨some 19, .app 1 8 [.int .i64 0] (.t 17) (.t 18), none⟩, 2, false),
       (⟨some 20, .mv (.t 5), none⟩, 3, false),
       (⟨some 21, .bin .mul (.k (.sc (.int .i64 4))) (.t 20), none⟩, 4, false),
       (⟨some 22, .mk 1 8 [.int .i64 0] (.t 21) (.t 21), none⟩, 5, false),
       (⟨some 23, .bld [.nilS, .nilS, .int .i64 0] [(0, 1, .t 19), (1, 1, .t 22)], none⟩, 6, false),
       (⟨some 6, .new [.nilS, .nilS, .int .i64 0], none⟩, 7, false),
       (⟨none, .st 3 (.t 6) (.t 23), none⟩, 8, true)] [0, 1, 4, 5, 6])
    (.seq (.regd [(⟨some 24, .mv (.t 5), none⟩, 0, false),
        (⟨some 25, .bin .mul (.k (.sc (.int .i64 2))) (.t 24), none⟩, 1, false),
        (⟨some 26, .mk 1 8 [.int .i64 0] (.t 25) (.t 25), none⟩, 2, false),
        (⟨some 27, .mv (.t 5), none⟩, 3, false),
        (⟨some 28, .bin .mul (.k (.sc (.int .i64 2))) (.t 27), none⟩, 4, false),
        (⟨some 29, .mk 1 8 [.int .i64 0] (.t 28) (.t 28), none⟩, 5, false),
        (⟨some 7, .mv (.t 26), none⟩, 6, false),
        (⟨some 8, .mv (.t 29), none⟩, 7, false)] [0, 1, 4, 5, 6, 7, 8])
     (.seq (.seq (.reg [⟨some 9, .mv (.k (.sc (.int .i64 0))), none⟩] [0, 1, 4, 5, 6, 7, 8, 9])
       (.block 0 (.loop [0, 1, 4, 5, 6, 7, 8, 9] b22L0)))
      (.seq (.seq (.reg [⟨some 12, .mv (.k (.sc (.int .i64 0))), none⟩] [4, 5, 6, 7, 8, 12])
        (.block 2 (.loop [4, 5, 6, 7, 8, 12] b22L1)))
       (.seq (.reg [⟨some 118, .ld 3 true (.t 6), none⟩,
           ⟨none, .st 3 (.t 4) (.t 118), none⟩] [4])
        (.ret)))))))
def a22 : AFun := ⟨2, b22, [.cell 4 3 true]⟩

def b23L1 : AC :=
  .seq (.reg [⟨some 41, .bin .lss (.t 40) (.t 39), none⟩] [2, 3, 5, 6, 7, 39, 40, 41])
  (.seq (.cond (.t 41)
     (.skip)
     (.exit 2))
   (.seq (.block 3 (.seq (.reg [⟨some 42, .mv (.t 40), none⟩,
         ⟨some 8, .mv (.t 42), none⟩] [2, 3, 5, 6, 7, 8, 39, 40])
      (.reg [⟨some 43, .mv (.t 7), none⟩,
         ⟨some 44, .mv (.t 8), none⟩,
         ⟨some 45, .idxA 1 (.t 43) (.t 44), none⟩,
         ⟨none, .st 1 (.t 45) (.k (.sc (.int .i64 (-1)))), none⟩] [2, 3, 5, 6, 7, 39, 40])))
    (.reg [⟨some 46, .bin .add (.t 40) (.k (.sc (.int .i64 1))), none⟩,
       ⟨some 40, .mv (.t 46), none⟩] [2, 3, 5, 6, 7, 39, 40])))
def b23L3 : AC :=
  .seq (.seq (.reg [⟨some 55, .mv (.t 11), none⟩,
      ⟨some 56, .mv (.t 5), none⟩,
      ⟨some 57, .bin .mul (.k (.sc (.int .i64 4))) (.t 56), none⟩,
      ⟨some 58, .bin .lss (.t 55) (.t 57), none⟩] [2, 3, 5, 6, 7, 9, 10, 11, 58])
   (.cond (.t 58)
     (.skip)
     (.exit 6)))
  (.seq (.block 7 (.seq (.seq (.reg [⟨some 61, .mv (.t 7), none⟩,
         ⟨some 62, .mv (.t 11), none⟩,
         ⟨some 63, .bin .quo (.t 62) (.k (.sc (.int .i64 4))), none⟩,
         ⟨some 64, .idxA 1 (.t 61) (.t 63), none⟩,
         ⟨some 65, .ld 1 false (.t 64), none⟩,
         ⟨some 66, .bin .lss (.t 65) (.k (.sc (.int .i64 0))), none⟩] [2, 3, 5, 6, 7, 9, 10, 11, 66])
      (.cond (.t 66)
        (.exit 7)
        (.skip)))
     (.seq (.regd [(⟨some 67, .fldA 1 (.t 3), none⟩, 0, false),
         (⟨some 68, .ld 1 false (.t 67), none⟩, 1, false),
         (⟨some 69, .mv (.t 7), none⟩, 2, false),
         (⟨some 70, .mv (.t 11), none⟩, 3, false),
         (⟨some 71, .bin .quo (.t 70) (.k (.sc (.int .i64 4))), none⟩, 4, false),
         (⟨some 72, .idxA 1 (.t 69) (.t 71), none⟩, 5, false),
         (⟨some 73, .ld 1 false (.t 72), none⟩, 6, false),
         (⟨some 74, .bin .mul (.k (.sc (.int .i64 4))) (.t 73), none⟩, 7, false),
         (⟨some 75, .mv (.t 11), none⟩, 8, false),
         (⟨some 76, .bin .rem (.t 75) (.k (.sc (.int .i64 4))), none⟩, 9, false),
         (⟨some 77, .bin .add (.t 74) (.t 76), none⟩, 10, false),
         (⟨some 78, .idxA 1 (.t 68) (.t 77), none⟩, 11, false),
         (⟨some 79, .ld 1 false (.t 78), none⟩, 12, true),
         (⟨some 12, .mv (.t 79), none⟩, 13, false)] [2, 3, 5, 6, 7, 9, 10, 11, 12])
      (.seq (.seq (.reg [⟨some 80, .mv (.t 7), none⟩,
           ⟨some 81, .fldA 1 (.t 2), none⟩,
           ⟨some 82, .ld 1 false (.t 81), none⟩,
           ⟨some 83, .mv (.t 11), none⟩,
           ⟨some 84, .idxA 1 (.t 82) (.t 83), none⟩,
           ⟨some 85, .ld 1 false (.t 84), none⟩,
           ⟨some 86, .bin .quo (.t 85) (.k (.sc (.int .i64 4))), none⟩,
           ⟨some 87, .idxA 1 (.t 80) (.t 86), none⟩,
           ⟨some 88, .ld 1 false (.t 87), none⟩,
           ⟨some 89, .bin .lss (.t 88) (.k (.sc (.int .i64 0))), none⟩] [2, 3, 5, 6, 7, 9, 10, 11, 12, 89])
        (.cond (.t 89)
          (.reg [⟨some 90, .mv (.t 7), none⟩,
             ⟨some 91, .fldA 1 (.t 2), none⟩,
             ⟨some 92, .ld 1 false (.t 91), none⟩,
             ⟨some 93, .mv (.t 11), none⟩,
             ⟨some 94, .idxA 1 (.t 92) (.t 93), none⟩,
             ⟨some 95, .ld 1 false (.t 94), none⟩,
             ⟨some 96, .bin .quo (.t 95) (.k (.sc (.int .i64 4))), none⟩,
             ⟨some 97, .mv (.t 12), none⟩,
             ⟨some 98, .bin .quo (.t 97) (.k (.sc (.int .i64 4))), none⟩,
             ⟨some 99, .idxA 1 (.t 90) (.t 96), none⟩,
             ⟨none, .st 1 (.t 99) (.t 98), none⟩] [2, 3, 5, 6, 7, 9, 10, 11, 12])
          (.skip)))
       (.regd [(⟨some 100, .mv (.t 9), none⟩, 0, false),
          (⟨some 101, .mv (.t 100), none⟩, 1, false),
          (⟨some 102, .mv (.t 12), (some (101, true))⟩, 2, false),
          (⟨some 103, .mv (.t 7), (some (101, true))⟩, 3, false),
          (⟨some 104, .fldA 1 (.t 2), (some (101, true))⟩, 4, false),
          (⟨some 105, .ld 1 false (.t 104), (some (101, true))⟩, 5, false),
          (⟨some 106, .mv (.t 11), (some (101, true))⟩, 6, false),
          (⟨some 107, .idxA 1 (.t 105) (.t 106), (some (101, true))⟩, 7, false),
          (⟨some 108, .ld 1 false (.t 107), (some (101, true))⟩, 8, false),
          (⟨some 109, .bin .quo (.t 108) (.k (.sc (.int .i64 4))), (some (101, true))⟩, 9, false),
          (⟨some 110, .idxA 1 (.t 103) (.t 109), (some (101, true))⟩, 10, false),
          (⟨some 111, .ld 1 false (.t 110), (some (101, true))⟩, 11, false),
          (⟨some 112, .bin .mul (.k (.sc (.int .i64 4))) (.t 111), (some (101, true))⟩, 12, false),
          (⟨some 113, .fldA 1 (.t 2), (some (101, true))⟩, 13, false),
          (⟨some 114, .ld 1 false (.t 113), (some (101, true))⟩, 14, false),
          (⟨some 115, .mv (.t 11), (some (101, true))⟩, 15, false),
          (⟨some 116, .idxA 1 (.t 114) (.t 115), (some (101, true))⟩, 16, false),
          (⟨some 117, .ld 1 false (.t 116), (some (101, true))⟩, 17, false),
          (⟨some 118, .bin .rem (.t 117) (.k (.sc (.int .i64 4))), (some (101, true))⟩, 18, false),
          (⟨some 119, .bin .add (.t 112) (.t 118), (some (101, true))⟩, 19, false),
          (⟨some 120, .bin .eql (.t 102) (.t 119), (some (101, true))⟩, 20, false),
          (⟨some 121, .pick (.t 101) (.t 120) (.k (.sc (.bool false))), none⟩, 21, false),
          (⟨some 9, .mv (.t 121), none⟩, 22, false)] [2, 3, 5, 6, 7, 9, 10, 11])))))
   (.reg [⟨some 59, .mv (.t 11), none⟩,
      ⟨some 60, .bin .add (.t 59) (.k (.sc (.int .i64 1))), none⟩,
      ⟨some 11, .mv (.t 60), none⟩] [2, 3, 5, 6, 7, 9, 10, 11]))
def b23L2 : AC :=
  .seq (.seq (.reg [⟨some 50, .mv (.t 10), none⟩,
      ⟨some 51, .mv (.t 5), none⟩,
      ⟨some 52, .bin .leq (.t 50) (.t 51), none⟩] [2, 3, 5, 6, 7, 9, 10, 52])
   (.cond (.t 52)
     (.skip)
     (.exit 4)))
  (.seq (.block 5 (.seq (.reg [⟨some 11, .mv (.k (.sc (.int .i64 0))), none⟩] [2, 3, 5, 6, 7, 9, 10, 11])
     (.block 6 (.loop [2, 3, 5, 6, 7, 9, 10, 11] b23L3))))
   (.reg [⟨some 53, .mv (.t 10), none⟩,
      ⟨some 54, .bin .add (.t 53) (.k (.sc (.int .i64 1))), none⟩,
      ⟨some 10, .mv (.t 54), none⟩] [2, 3, 5, 6, 7, 9, 10]))
def b23L4 : AC :=
  .seq (.seq (.reg [⟨some 122, .mv (.t 13), none⟩,
      ⟨some 123, .mv (.t 5), none⟩,
      ⟨some 124, .bin .lss (.t 122) (.t 123), none⟩] [2, 3, 5, 6, 7, 9, 13, 124])
   (.cond (.t 124)
     (.skip)
     (.exit 8)))
  (.seq (.block 9 (.regd [(⟨some 127, .mv (.t 9), none⟩, 0, false),
       (⟨some 128, .mv (.t 127), none⟩, 1, false),
       (⟨some 129, .mv (.t 7), (some (128, true))⟩, 2, false),
       (⟨some 130, .mv (.t 13), (some (128, true))⟩, 3, false),
       (⟨some 131, .idxA 1 (.t 129) (.t 130), (some (128, true))⟩, 4, false),
       (⟨some 132, .ld 1 false (.t 131), (some (128, true))⟩, 5, true),
       (⟨some 133, .bin .geq (.t 132) (.k (.sc (.int .i64 0))), (some (128, true))⟩, 6, false),
       (⟨some 134, .pick (.t 128) (.t 133) (.k (.sc (.bool false))), none⟩, 7, false),
       (⟨some 135, .mv (.t 134), none⟩, 8, false),
       (⟨some 136, .fldA 0 (.t 2), (some (135, true))⟩, 9, false),
       (⟨some 137, .ld 1 false (.t 136), (some (135, true))⟩, 10, false),
       (⟨some 138, .mv (.t 13), (some (135, true))⟩, 11, false),
       (⟨some 139, .idxA 1 (.t 137) (.t 138), (some (135, true))⟩, 12, false),
       (⟨some 140, .ld 1 false (.t 139), (some (135, true))⟩, 13, false),
       (⟨some 141, .fldA 0 (.t 3), (some (135, true))⟩, 14, false),
       (⟨some 142, .ld 1 false (.t 141), (some (135, true))⟩, 15, false),
       (⟨some 143, .mv (.t 7), (some (135, true))⟩, 16, false),
       (⟨some 144, .mv (.t 13), (some (135, true))⟩, 17, false),
       (⟨some 145, .idxA 1 (.t 143) (.t 144), (some (135, true))⟩, 18, false),
       (⟨some 146, .ld 1 false (.t 145), (some (135, true))⟩, 19, false),
       (⟨some 147, .idxA 1 (.t 142) (.t 146), (some (135, true))⟩, 20, false),
       (⟨some 148, .ld 1 false (.t 147), (some (135, true))⟩, 21, false),
       (⟨some 149, .bin .eql (.t 140) (.t 148), (some (135, true))⟩, 22, false),
       (⟨some 150, .pick (.t 135) (.t 149) (.k (.sc (.bool false))), none⟩, 23, false),
       (⟨some 9, .mv (.t 150), none⟩, 24, false)] [2, 3, 5, 6, 7, 9, 13]))
   (.reg [⟨some 125, .mv (.t 13), none⟩,
      ⟨some 126, .bin .add (.t 125) (.k (.sc (.int .i64 1))), none⟩,
      ⟨some 13, .mv (.t 126), none⟩] [2, 3, 5, 6, 7, 9, 13]))
def b23L0 : AC :=
  .seq (.seq (.reg [⟨some 31, .mv (.t 6), none⟩,
      ⟨some 32, .mv (.t 5), none⟩,
      ⟨some 33, .bin .lss (.t 31) (.t 32), none⟩] [2, 3, 5, 6, 33])
   (.cond (.t 33)
     (.skip)
     (.exit 0)))
  (.seq (.block 1 (.seq (.reg [⟨some 36, .mv (.t 5), none⟩,
        ⟨some 37, .mk 1 8 [.int .i64 0] (.t 36) (.t 36), none⟩,
        ⟨some 7, .mv (.t 37), none⟩] [2, 3, 5, 6, 7])
     (.seq (.seq (.reg [⟨some 38, .mv (.t 7), none⟩,
          ⟨some 39, .len false (.t 38), none⟩,
          ⟨some 40, .mv (.k (.sc (.int .i64 0))), none⟩] [2, 3, 5, 6, 7, 39, 40])
       (.block 2 (.loop [2, 3, 5, 6, 7, 39, 40] b23L1)))
      (.seq (.reg [⟨some 47, .mv (.t 7), none⟩,
          ⟨some 48, .mv (.t 6), none⟩,
          ⟨some 49, .idxA 1 (.t 47) (.k (.sc (.int .i64 0))), none⟩,
          ⟨none, .st 1 (.t 49) (.t 48), none⟩] [2, 3, 5, 6, 7])
       (.seq (.reg [⟨some 9, .mv (.k (.sc (.bool true))), none⟩] [2, 3, 5, 6, 7, 9])
        (.seq (.seq (.reg [⟨some 10, .mv (.k (.sc (.int .i64 0))), none⟩] [2, 3, 5, 6, 7, 9, 10])
          (.block 4 (.loop [2, 3, 5, 6, 7, 9, 10] b23L2)))
         (.seq (.seq (.reg [⟨some 13, .mv (.k (.sc (.int .i64 0))), none⟩] [2, 3, 5, 6, 7, 9, 13])
           (.block 8 (.loop [2, 3, 5, 6, 7, 9, 13] b23L4)))
          (.seq (.reg [⟨some 151, .mv (.t 9), none⟩] [2, 3, 5, 6, 151])
           (.cond (.t 151)
             (.seq (.reg [⟨some 4, .mv (.k (.sc (.bool true))), none⟩] [4])
              (.ret))
             (.skip))))))))))
   (.reg [⟨some 34, .mv (.t 6), none⟩,
      ⟨some 35, .bin .add (.t 34) (.k (.sc (.int .i64 1))), none⟩,
      ⟨some 6, .mv (.t 35), none⟩] [2, 3, 5, 6]))
/-- unravel/unravellaw04.isomorphic -/
def b23 : AC :=
  .seq (.reg [⟨some 2, .box (.t 0), none⟩,
     ⟨some 3, .box (.t 1), none⟩,
     ⟨some 4, .mv (.k (.sc (.bool false))), none⟩] [2, 3])
  (.seq (.reg [⟨some 14, .fldA 0 (.t 2), none⟩,
      ⟨some 15, .ld 1 false (.t 14), none⟩,
      ⟨some 16, .len false (.t 15), none⟩,
      ⟨some 5, .mv (.t 16), none⟩] [2, 3, 5])
   (.seq (.seq (.reg [⟨some 17, .mv (.t 5), none⟩,
        ⟨some 18, .fldA 0 (.t 3), none⟩,
        ⟨some 19, .ld 1 false (.t 18), none⟩,
        ⟨some 20, .len false (.t 19), none⟩,
        ⟨some 21, .bin .neq (.t 17) (.t 20), none⟩,
        ⟨some 22, .mv (.t 21), none⟩,
        ⟨some 23, .fldA 2 (.t 2), (some (22, false))⟩,
        ⟨some 24, .ld 1 false (.t 23), (some (22, false))⟩,
        ⟨some 25, .fldA 2 (.t 3), (some (22, false))⟩,
        ⟨some 26, .ld 1 false (.t 25), (some (22, false))⟩,
        ⟨some 27, .bin .neq (.t 24) (.t 26), (some (22, false))⟩,
        ⟨some 28, .pick (.t 22) (.k (.sc (.bool true))) (.t 27), none⟩] [2, 3, 5, 28])
     (.cond (.t 28)
       (.seq (.reg [⟨some 4, .mv (.k (.sc (.bool false))), none⟩] [4])
        (.ret))
       (.skip)))
    (.seq (.seq (.reg [⟨some 29, .mv (.t 5), none⟩,
         ⟨some 30, .bin .eql (.t 29) (.k (.sc (.int .i64 0))), none⟩] [2, 3, 5, 30])
      (.cond (.t 30)
        (.seq (.reg [⟨some 4, .mv (.k (.sc (.bool true))), none⟩] [4])
         (.ret))
        (.skip)))
     (.seq (.seq (.reg [⟨some 6, .mv (.k (.sc (.int .i64 0))), none⟩] [2, 3, 5, 6])
       (.block 0 (.loop [2, 3, 5, 6] b23L0)))
      (.seq (.reg [⟨some 4, .mv (.k (.sc (.bool false))), none⟩] [4])
       (.ret))))))
def a23 : AFun := ⟨2, b23, [.t 4]⟩

def b24L0 : AC :=
  .seq (.seq (.reg [⟨some 14, .mv (.t 5), none⟩,
      ⟨some 15, .fldA 0 (.t 1), none⟩,
      ⟨some 16, .ld 1 false (.t 15), none⟩,
      ⟨some 17, .len false (.t 16), none⟩,
      ⟨some 18, .bin .lss (.t 14) (.t 17), none⟩] [1, 2, 3, 4, 5, 18])
   (.cond (.t 18)
     (.skip)
     (.exit 0)))
  (.seq (.block 1 (.regd [(⟨some 21, .fldA 0 (.t 4), none⟩, 0, false),
       (⟨some 22, .ld 1 false (.t 21), none⟩, 1, false),
       (⟨some 23, .fldA 0 (.t 1), none⟩, 2, false),
       (⟨some 24, .ld 1 false (.t 23), none⟩, 3, false),
       (⟨some 25, .mv (.t 5), none⟩, 4, false),
       (⟨some 26, .idxA 1 (.t 24) (.t 25), none⟩, 5, false),
       (⟨some 27, .ld 1 false (.t 26), none⟩, 6, false),
       (⟨some 28, .un .neg (.t 27), none⟩, 7, false),
       (⟨some 29, .bsl 1 [.int .i64 0] 1 [(0, .t 28)], none⟩, 8, false),
       (⟨some 30, .app 1 8 [.int .i64 0] (.t 22) (.t 29), none⟩, 9, true),
       (⟨some 31, .fldA 0 (.t 4), none⟩, 10, false),
       (⟨none, .st 1 (.t 31) (.t 30), none⟩, 11, true)] [1, 2, 3, 4, 5]))
   (.reg [⟨some 19, .mv (.t 5), none⟩,
      ⟨some 20, .bin .add (.t 19) (.k (.sc (.int .i64 1))), none⟩,
      ⟨some 5, .mv (.t 20), none⟩] [1, 2, 3, 4, 5]))
def b24L1 : AC :=
  .seq (.seq (.reg [⟨some 32, .mv (.t 6), none⟩,
      ⟨some 33, .fldA 1 (.t 1), none⟩,
      ⟨some 34, .ld 1 false (.t 33), none⟩,
      ⟨some 35, .len false (.t 34), none⟩,
      ⟨some 36, .bin .lss (.t 32) (.t 35), none⟩] [1, 2, 3, 4, 6, 36])
   (.cond (.t 36)
     (.skip)
     (.exit 2)))
  (.seq (.block 3 (.regd [(⟨some 39, .fldA 1 (.t 4), none⟩, 0, false),
       (⟨some 40, .ld 1 false (.t 39), none⟩, 1, false),
       (⟨some 41, .mv (.t 3), none⟩, 2, false),
       (⟨some 42, .mv (.t 6), none⟩, 3, false),
       (⟨some 43, .callv (.t 41) [(.t 42)], none⟩, 4, false),
       (⟨some 44, .mv (.t 3), none⟩, 5, false),
       (⟨some 45, .fldA 1 (.t 1), none⟩, 6, false),
       (⟨some 46, .ld 1 false (.t 45), none⟩, 7, false),
       (⟨some 47, .mv (.t 6), none⟩, 8, false),
       (⟨some 48, .idxA 1 (.t 46) (.t 47), none⟩, 9, false),
       (⟨some 49, .ld 1 false (.t 48), none⟩, 10, false),
       (⟨some 50, .callv (.t 44) [(.t 49)], none⟩, 11, false),
       (⟨some 51, .idxA 1 (.t 40) (.t 43), none⟩, 12, false),
       (⟨none, .st 1 (.t 51) (.t 50), none⟩, 13, true)] [1, 2, 3, 4, 6]))
   (.reg [⟨some 37, .mv (.t 6), none⟩,
      ⟨some 38, .bin .add (.t 37) (.k (.sc (.int .i64 1))), none⟩,
      ⟨some 6, .mv (.t 38), none⟩] [1, 2, 3, 4, 6]))
/-- unravel/unravellaw04.reflected -/
def b24 : AC :=
  .seq (.reg [⟨some 1, .box (.t 0), none⟩,
     ⟨some 2, .new [.nilS, .nilS, .int .i64 0], none⟩] [1, 2])
  (.seq (.reg [⟨some 3, .mv (.k (.sc (.fn 36 []))), none⟩] [1, 2, 3])
   (.seq (.regd [(⟨some 7, .fldA 1 (.t 1), none⟩, 0, false),
       (⟨some 8, .ld 1 false (.t 7), none⟩, 1, false),
       (⟨some 9, .len false (.t 8), none⟩, 2, false),
       (⟨some 10, .mk 1 8 [.int .i64 0] (.t 9) (.t 9), none⟩, 3, false),
       (⟨some 11, .fldA 2 (.t 1), none⟩, 4, false),
       (⟨some 12, .ld 1 false (.t 11), none⟩, 5, false),
       (⟨some 13, .bld [.nilS, .nilS, .int .i64 0] [(1, 1, .t 10), (2, 1, .t 12)], none⟩, 6, false),
       (⟨some 4, .new [.nilS, .nilS, .int .i64 0], none⟩, 7, false),
       (⟨none, .st 3 (.t 4) (.t 13), none⟩, 8, true)] [1, 2, 3, 4])
    (.seq (.seq (.reg [⟨some 5, .mv (.k (.sc (.int .i64 0))), none⟩] [1, 2, 3, 4, 5])
      (.block 0 (.loop [1, 2, 3, 4, 5] b24L0)))
     (.seq (.seq (.reg [⟨some 6, .mv (.k (.sc (.int .i64 0))), none⟩] [1, 2, 3, 4, 6])
       (.block 2 (.loop [1, 2, 3, 4, 6] b24L1)))
      (.seq (.reg [⟨some 52, .ld 3 true (.t 4), none⟩,
          ⟨none, .st 3 (.t 2) (.t 52), none⟩] [2])
       (.ret))))))
def a24 : AFun := ⟨1, b24, [.cell 2 3 true]⟩

def b26L0 : AC :=
  .seq (.reg [⟨some 35, .bin .lss (.t 34) (.t 33), none⟩] [1, 3, 32, 33, 34, 35])
  (.seq (.cond (.t 35)
     (.skip)
     (.exit 0))
   (.seq (.block 1 (.seq (.reg [⟨some 36, .idxA 1 (.t 32) (.t 34), none⟩,
         ⟨some 37, .ld 1 false (.t 36), none⟩,
         ⟨some 5, .mv (.t 37), none⟩] [1, 3, 5, 32, 33, 34])
      (.seq (.reg [⟨some 38, .mv (.t 5), none⟩,
          ⟨some 39, .bin .neq (.t 38) (.k (.sc (.int .i64 1))), none⟩,
          ⟨some 40, .mv (.t 39), none⟩,
          ⟨some 41, .mv (.t 5), (some (40, true))⟩,
          ⟨some 42, .bin .neq (.t 41) (.k (.sc (.int .i64 (-1)))), (some (40, true))⟩,
          ⟨some 43, .pick (.t 40) (.t 42) (.k (.sc (.bool false))), none⟩] [1, 3, 32, 33, 34, 43])
       (.cond (.t 43)
         (.seq (.reg [⟨some 2, .mv (.k (.sc (.bool false))), none⟩] [2])
          (.ret))
         (.skip)))))
    (.reg [⟨some 44, .bin .add (.t 34) (.k (.sc (.int .i64 1))), none⟩,
       ⟨some 34, .mv (.t 44), none⟩] [1, 3, 32, 33, 34])))
def b26L1 : AC :=
  .seq (.reg [⟨some 49, .bin .lss (.t 48) (.t 47), none⟩] [1, 3, 46, 47, 48, 49])
  (.seq (.cond (.t 49)
     (.skip)
     (.exit 2))
   (.seq (.block 3 (.seq (.reg [⟨some 50, .mv (.t 48), none⟩,
         ⟨some 51, .idxA 1 (.t 46) (.t 48), none⟩,
         ⟨some 52, .ld 1 false (.t 51), none⟩,
         ⟨some 6, .mv (.t 50), none⟩,
         ⟨some 7, .mv (.t 52), none⟩] [1, 3, 6, 7, 46, 47, 48])
      (.seq (.seq (.reg [⟨some 53, .mv (.t 7), none⟩,
           ⟨some 54, .bin .lss (.t 53) (.k (.sc (.int .i64 0))), none⟩,
           ⟨some 55, .mv (.t 54), none⟩,
           ⟨some 56, .mv (.t 7), (some (55, false))⟩,
           ⟨some 57, .mv (.t 3), (some (55, false))⟩,
           ⟨some 58, .bin .mul (.k (.sc (.int .i64 4))) (.t 57), (some (55, false))⟩,
           ⟨some 59, .bin .geq (.t 56) (.t 58), (some (55, false))⟩,
           ⟨some 60, .pick (.t 55) (.k (.sc (.bool true))) (.t 59), none⟩,
           ⟨some 61, .mv (.t 60), none⟩,
           ⟨some 62, .mv (.t 7), (some (61, false))⟩,
           ⟨some 63, .mv (.t 6), (some (61, false))⟩,
           ⟨some 64, .bin .eql (.t 62) (.t 63), (some (61, false))⟩,
           ⟨some 65, .pick (.t 61) (.k (.sc (.bool true))) (.t 64), none⟩,
           ⟨some 66, .mv (.t 65), none⟩,
           ⟨some 67, .fldA 1 (.t 1), (some (66, false))⟩,
           ⟨some 68, .ld 1 false (.t 67), (some (66, false))⟩,
           ⟨some 69, .mv (.t 7), (some (66, false))⟩,
           ⟨some 70, .idxA 1 (.t 68) (.t 69), (some (66, false))⟩,
           ⟨some 71, .ld 1 false (.t 70), (some (66, false))⟩,
           ⟨some 72, .mv (.t 6), (some (66, false))⟩,
           ⟨some 73, .bin .neq (.t 71) (.t 72), (some (66, false))⟩,
           ⟨some 74, .pick (.t 66) (.k (.sc (.bool true))) (.t 73), none⟩] [1, 3, 6, 7, 46, 47, 48, 74])
        (.cond (.t 74)
          (.seq (.reg [⟨some 2, .mv (.k (.sc (.bool false))), none⟩] [2])
           (.ret))
          (.skip)))
       (.seq (.regd [(⟨some 75, .ld 3 true (.t 1), none⟩, 0, false),
           (⟨some 76, .mv (.t 6), none⟩, 1, false),
           (⟨some 77, .call 37 [(.t 75), (.t 76)], none⟩, 2, false),
           (⟨some 78, .ld 3 true (.t 1), none⟩, 3, false),
           (⟨some 79, .mv (.t 7), none⟩, 4, false),
           (⟨some 80, .call 37 [(.t 78), (.t 79)], none⟩, 5, true),
           (⟨some 81, .beq false (.t 77) (.t 80), none⟩, 6, false)] [1, 3, 46, 47, 48, 81])
        (.cond (.t 81)
          (.seq (.reg [⟨some 2, .mv (.k (.sc (.bool false))), none⟩] [2])
           (.ret))
          (.skip))))))
    (.reg [⟨some 82, .bin .add (.t 48) (.k (.sc (.int .i64 1))), none⟩,
       ⟨some 48, .mv (.t 82), none⟩] [1, 3, 46, 47, 48])))
/-- unravel/diagram.Valid -/
def b26 : AC :=
  .seq (.reg [⟨some 1, .box (.t 0), none⟩,
     ⟨some 2, .mv (.k (.sc (.bool false))), none⟩] [1])
  (.seq (.reg [⟨some 8, .fldA 0 (.t 1), none⟩,
      ⟨some 9, .ld 1 false (.t 8), none⟩,
      ⟨some 10, .len false (.t 9), none⟩,
      ⟨some 3, .mv (.t 10), none⟩] [1, 3])
   (.seq (.seq (.reg [⟨some 11, .mv (.t 3), none⟩,
        ⟨some 12, .bin .gtr (.t 11) (.k (.sc (.int .i64 64))), none⟩,
        ⟨some 13, .mv (.t 12), none⟩,
        ⟨some 14, .fldA 1 (.t 1), (some (13, false))⟩,
        ⟨some 15, .ld 1 false (.t 14), (some (13, false))⟩,
        ⟨some 16, .len false (.t 15), (some (13, false))⟩,
        ⟨some 17, .mv (.t 3), (some (13, false))⟩,
        ⟨some 18, .bin .mul (.k (.sc (.int .i64 4))) (.t 17), (some (13, false))⟩,
        ⟨some 19, .bin .neq (.t 16) (.t 18), (some (13, false))⟩,
        ⟨some 20, .pick (.t 13) (.k (.sc (.bool true))) (.t 19), none⟩,
        ⟨some 21, .mv (.t 20), none⟩,
        ⟨some 22, .fldA 2 (.t 1), (some (21, false))⟩,
        ⟨some 23, .ld 1 false (.t 22), (some (21, false))⟩,
        ⟨some 24, .bin .lss (.t 23) (.k (.sc (.int .i64 0))), (some (21, false))⟩,
        ⟨some 25, .pick (.t 21) (.k (.sc (.bool true))) (.t 24), none⟩,
        ⟨some 26, .mv (.t 25), none⟩,
        ⟨some 27, .fldA 2 (.t 1), (some (26, false))⟩,
        ⟨some 28, .ld 1 false (.t 27), (some (26, false))⟩,
        ⟨some 29, .bin .gtr (.t 28) (.k (.sc (.int .i64 64))), (some (26, false))⟩,
        ⟨some 30, .pick (.t 26) (.k (.sc (.bool true))) (.t 29), none⟩] [1, 3, 30])
     (.cond (.t 30)
       (.seq (.reg [⟨some 2, .mv (.k (.sc (.bool false))), none⟩] [2])
        (.ret))
       (.skip)))
    (.seq (.seq (.reg [⟨some 31, .fldA 0 (.t 1), none⟩,
         ⟨some 32, .ld 1 false (.t 31), none⟩,
         ⟨some 33, .len false (.t 32), none⟩,
         ⟨some 34, .mv (.k (.sc (.int .i64 0))), none⟩] [1, 3, 32, 33, 34])
      (.block 0 (.loop [1, 3, 32, 33, 34] b26L0)))
     (.seq (.seq (.reg [⟨some 45, .fldA 1 (.t 1), none⟩,
          ⟨some 46, .ld 1 false (.t 45), none⟩,
          ⟨some 47, .len false (.t 46), none⟩,
          ⟨some 48, .mv (.k (.sc (.int .i64 0))), none⟩] [1, 3, 46, 47, 48])
       (.block 2 (.loop [1, 3, 46, 47, 48] b26L1)))
      (.seq (.reg [⟨some 83, .ld 3 true (.t 1), none⟩,
          ⟨some 84, .call 38 [(.t 83)], none⟩,
          ⟨some 2, .mv (.t 84), none⟩] [2])
       (.ret))))))
def a26 : AFun := ⟨1, b26, [.t 2]⟩

/-- unravel/diagram.Strands -/
def b28 : AC :=
  .seq (.reg [⟨some 1, .box (.t 0), none⟩,
     ⟨some 2, .mv (.k (.sc .nilS)), none⟩] [1])
  (.seq (.seq (.reg [⟨some 4, .ld 3 true (.t 1), none⟩,
       ⟨some 5, .call 26 [(.t 4)], none⟩,
       ⟨some 6, .un .not (.t 5), none⟩] [1, 6])
    (.cond (.t 6)
      (.seq (.reg [⟨some 2, .mv (.k (.sc .nilS)), none⟩] [2])
       (.ret))
      (.skip)))
   (.seq (.reg [⟨some 7, .mkf 39 [(.t 1)], none⟩,
       ⟨some 3, .mv (.t 7), none⟩] [1, 3])
    (.seq (.reg [⟨some 8, .fldA 1 (.t 1), none⟩,
        ⟨some 9, .ld 1 false (.t 8), none⟩,
        ⟨some 10, .len false (.t 9), none⟩,
        ⟨some 11, .mv (.t 3), none⟩,
        ⟨some 12, .mkf 41 [(.t 1)], none⟩,
        ⟨some 13, .call 40 [(.t 10), (.t 11), (.t 12)], none⟩,
        ⟨some 2, .mv (.t 13), none⟩] [2])
     (.ret))))
def a28 : AFun := ⟨1, b28, [.t 2]⟩

/-- unravel/unravelref01.Out -/
def b29 : AC :=
  .seq (.reg [⟨some 4, .mv (.k (.sc (.bool false))), none⟩] [0, 1])
  (.seq (.seq (.reg [⟨some 5, .mv (.t 1), none⟩,
       ⟨some 6, .bin .rem (.t 5) (.k (.sc (.int .i64 4))), none⟩] [0, 1, 6])
    (.block 0 (.seq (.reg [⟨some 8, .bin .eql (.t 6) (.k (.sc (.int .i64 2))), none⟩,
         ⟨some 7, .mv (.t 8), none⟩] [0, 1, 6, 7])
      (.cond (.t 7)
        (.seq (.reg [⟨some 4, .mv (.k (.sc (.bool true))), none⟩] [4])
         (.ret))
        (.seq (.reg [⟨some 10, .bin .eql (.t 6) (.k (.sc (.int .i64 1))), none⟩,
            ⟨some 9, .mv (.t 10), none⟩] [0, 1, 6, 9])
         (.cond (.t 9)
           (.seq (.reg [⟨some 11, .mv (.t 0), none⟩,
               ⟨some 12, .mv (.t 1), none⟩,
               ⟨some 13, .bin .quo (.t 12) (.k (.sc (.int .i64 4))), none⟩,
               ⟨some 14, .idxA 1 (.t 11) (.t 13), none⟩,
               ⟨some 15, .ld 1 false (.t 14), none⟩,
               ⟨some 16, .bin .eql (.t 15) (.k (.sc (.int .i64 1))), none⟩,
               ⟨some 4, .mv (.t 16), none⟩] [4])
            (.ret))
           (.seq (.reg [⟨some 18, .bin .eql (.t 6) (.k (.sc (.int .i64 3))), none⟩,
               ⟨some 17, .mv (.t 18), none⟩] [0, 1, 17])
            (.cond (.t 17)
              (.seq (.reg [⟨some 19, .mv (.t 0), none⟩,
                  ⟨some 20, .mv (.t 1), none⟩,
                  ⟨some 21, .bin .quo (.t 20) (.k (.sc (.int .i64 4))), none⟩,
                  ⟨some 22, .idxA 1 (.t 19) (.t 21), none⟩,
                  ⟨some 23, .ld 1 false (.t 22), none⟩,
                  ⟨some 24, .bin .eql (.t 23) (.k (.sc (.int .i64 (-1)))), none⟩,
                  ⟨some 4, .mv (.t 24), none⟩] [4])
               (.ret))
              (.skip)))))))))
   (.seq (.reg [⟨some 4, .mv (.k (.sc (.bool false))), none⟩] [4])
    (.ret)))
def a29 : AFun := ⟨2, b29, [.t 4]⟩

def b30L0 : AC :=
  .seq (.seq (.reg [⟨some 16, .mv (.t 5), none⟩,
      ⟨some 17, .mv (.t 3), none⟩,
      ⟨some 18, .bin .lss (.t 16) (.t 17), none⟩] [0, 3, 4, 5, 18])
   (.cond (.t 18)
     (.skip)
     (.exit 0)))
  (.seq (.block 1 (.reg [⟨some 21, .mv (.t 4), none⟩,
       ⟨some 22, .mv (.t 5), none⟩,
       ⟨some 23, .mv (.t 5), none⟩,
       ⟨some 24, .idxA 1 (.t 21) (.t 22), none⟩,
       ⟨none, .st 1 (.t 24) (.t 23), none⟩] [0, 3, 4, 5]))
   (.reg [⟨some 19, .mv (.t 5), none⟩,
      ⟨some 20, .bin .add (.t 19) (.k (.sc (.int .i64 1))), none⟩,
      ⟨some 5, .mv (.t 20), none⟩] [0, 3, 4, 5]))
def b30L2 : AC :=
  .seq (.seq (.reg [⟨some 30, .mv (.t 7), none⟩,
      ⟨some 31, .mv (.t 0), none⟩,
      ⟨some 32, .len false (.t 31), none⟩,
      ⟨some 33, .bin .lss (.t 30) (.t 32), none⟩] [0, 3, 4, 6, 7, 33])
   (.cond (.t 33)
     (.skip)
     (.exit 4)))
  (.seq (.block 5 (.seq (.regd [(⟨some 36, .mv (.t 7), none⟩, 0, false),
        (⟨some 37, .bin .quo (.t 36) (.k (.sc (.int .i64 4))), none⟩, 1, false),
        (⟨some 38, .mv (.t 0), none⟩, 2, false),
        (⟨some 39, .mv (.t 7), none⟩, 3, false),
        (⟨some 40, .idxA 1 (.t 38) (.t 39), none⟩, 4, false),
        (⟨some 41, .ld 1 false (.t 40), none⟩, 5, true),
        (⟨some 42, .bin .quo (.t 41) (.k (.sc (.int .i64 4))), none⟩, 6, false),
        (⟨some 8, .mv (.t 37), none⟩, 7, false),
        (⟨some 9, .mv (.t 42), none⟩, 8, false)] [0, 3, 4, 6, 7, 8, 9])
     (.seq (.regd [(⟨some 43, .mv (.t 4), none⟩, 0, false),
         (⟨some 44, .mv (.t 8), none⟩, 1, false),
         (⟨some 45, .idxA 1 (.t 43) (.t 44), none⟩, 2, false),
         (⟨some 46, .ld 1 false (.t 45), none⟩, 3, false),
         (⟨some 47, .mv (.t 4), none⟩, 4, false),
         (⟨some 48, .mv (.t 9), none⟩, 5, false),
         (⟨some 49, .idxA 1 (.t 47) (.t 48), none⟩, 6, false),
         (⟨some 50, .ld 1 false (.t 49), none⟩, 7, false),
         (⟨some 51, .mm false (.t 46) [(.t 50)], none⟩, 8, false),
         (⟨some 10, .mv (.t 51), none⟩, 9, false)] [0, 3, 4, 6, 7, 8, 9, 10])
      (.reg [⟨some 52, .mv (.t 4), none⟩,
         ⟨some 53, .mv (.t 8), none⟩,
         ⟨some 54, .mv (.t 4), none⟩,
         ⟨some 55, .mv (.t 9), none⟩,
         ⟨some 56, .mv (.t 10), none⟩,
         ⟨some 57, .mv (.t 10), none⟩,
         ⟨some 58, .idxA 1 (.t 52) (.t 53), none⟩,
         ⟨none, .st 1 (.t 58) (.t 56), none⟩,
         ⟨some 59, .idxA 1 (.t 54) (.t 55), none⟩,
         ⟨none, .st 1 (.t 59) (.t 57), none⟩] [0, 3, 4, 6, 7]))))
   (.reg [⟨some 34, .mv (.t 7), none⟩,
      ⟨some 35, .bin .add (.t 34) (.k (.sc (.int .i64 1))), none⟩,
      ⟨some 7, .mv (.t 35), none⟩] [0, 3, 4, 6, 7]))
def b30L1 : AC :=
  .seq (.seq (.reg [⟨some 25, .mv (.t 6), none⟩,
      ⟨some 26, .mv (.t 3), none⟩,
      ⟨some 27, .bin .lss (.t 25) (.t 26), none⟩] [0, 3, 4, 6, 27])
   (.cond (.t 27)
     (.skip)
     (.exit 2)))
  (.seq (.block 3 (.seq (.reg [⟨some 7, .mv (.k (.sc (.int .i64 0))), none⟩] [0, 3, 4, 6, 7])
     (.block 4 (.loop [0, 3, 4, 6, 7] b30L2))))
   (.reg [⟨some 28, .mv (.t 6), none⟩,
      ⟨some 29, .bin .add (.t 28) (.k (.sc (.int .i64 1))), none⟩,
      ⟨some 6, .mv (.t 29), none⟩] [0, 3, 4, 6]))
/-- unravel/unravelref01.Label -/
def b30 : AC :=
  .seq (.reg [⟨some 2, .mv (.k (.sc .nilS)), none⟩] [0])
  (.seq (.reg [⟨some 11, .mv (.t 0), none⟩,
      ⟨some 12, .len false (.t 11), none⟩,
      ⟨some 13, .bin .quo (.t 12) (.k (.sc (.int .i64 4))), none⟩,
      ⟨some 3, .mv (.t 13), none⟩] [0, 3])
   (.seq (.reg [⟨some 14, .mv (.t 3), none⟩,
       ⟨some 15, .mk 1 8 [.int .i64 0] (.t 14) (.t 14), none⟩,
       ⟨some 4, .mv (.t 15), none⟩] [0, 3, 4])
    (.seq (.seq (.reg [⟨some 5, .mv (.k (.sc (.int .i64 0))), none⟩] [0, 3, 4, 5])
      (.block 0 (.loop [0, 3, 4, 5] b30L0)))
     (.seq (.seq (.reg [⟨some 6, .mv (.k (.sc (.int .i64 0))), none⟩] [0, 3, 4, 6])
       (.block 2 (.loop [0, 3, 4, 6] b30L1)))
      (.seq (.reg [⟨some 60, .mv (.t 4), none⟩,
          ⟨some 2, .mv (.t 60), none⟩] [2])
       (.ret))))))
def a30 : AFun := ⟨1, b30, [.t 2]⟩

def b31L1 : AC :=
  .seq (.seq (.reg [⟨some 17, .mv (.t 7), none⟩,
      ⟨some 18, .mv (.t 5), none⟩,
      ⟨some 19, .len false (.t 18), none⟩,
      ⟨some 20, .bin .lss (.t 17) (.t 19), none⟩] [0, 3, 4, 5, 6, 7, 20])
   (.cond (.t 20)
     (.skip)
     (.exit 2)))
  (.seq (.block 3 (.reg [⟨some 23, .mv (.t 6), none⟩,
       ⟨some 24, .mv (.t 23), none⟩,
       ⟨some 25, .mv (.t 4), (some (24, true))⟩,
       ⟨some 26, .mv (.t 5), (some (24, true))⟩,
       ⟨some 27, .mv (.t 7), (some (24, true))⟩,
       ⟨some 28, .idxA 1 (.t 26) (.t 27), (some (24, true))⟩,
       ⟨some 29, .ld 1 false (.t 28), (some (24, true))⟩,
       ⟨some 30, .bin .leq (.t 25) (.t 29), (some (24, true))⟩,
       ⟨some 31, .pick (.t 24) (.t 30) (.k (.sc (.bool false))), none⟩,
       ⟨some 6, .mv (.t 31), none⟩] [0, 3, 4, 5, 6, 7]))
   (.reg [⟨some 21, .mv (.t 7), none⟩,
      ⟨some 22, .bin .add (.t 21) (.k (.sc (.int .i64 1))), none⟩,
      ⟨some 7, .mv (.t 22), none⟩] [0, 3, 4, 5, 6, 7]))
def b31L0 : AC :=
  .seq (.seq (.reg [⟨some 8, .mv (.t 4), none⟩,
      ⟨some 9, .mv (.t 0), none⟩,
      ⟨some 10, .len false (.t 9), none⟩,
      ⟨some 11, .bin .lss (.t 8) (.t 10), none⟩] [0, 3, 4, 11])
   (.cond (.t 11)
     (.skip)
     (.exit 0)))
  (.seq (.block 1 (.seq (.reg [⟨some 14, .mv (.t 0), none⟩,
        ⟨some 15, .mv (.t 4), none⟩,
        ⟨some 16, .call 43 [(.t 14), (.t 15)], none⟩,
        ⟨some 5, .mv (.t 16), none⟩] [0, 3, 4, 5])
     (.seq (.reg [⟨some 6, .mv (.k (.sc (.bool true))), none⟩] [0, 3, 4, 5, 6])
      (.seq (.seq (.reg [⟨some 7, .mv (.k (.sc (.int .i64 0))), none⟩] [0, 3, 4, 5, 6, 7])
        (.block 2 (.loop [0, 3, 4, 5, 6, 7] b31L1)))
       (.seq (.reg [⟨some 32, .mv (.t 6), none⟩] [0, 3, 4, 5, 32])
        (.cond (.t 32)
          (.reg [⟨some 33, .mv (.t 3), none⟩,
             ⟨some 34, .mv (.t 5), none⟩,
             ⟨some 35, .bsl 1 [.nilS] 1 [(0, .t 34)], none⟩,
             ⟨some 36, .app 1 24 [.nilS] (.t 33) (.t 35), none⟩,
             ⟨some 3, .mv (.t 36), none⟩] [0, 3, 4])
          (.skip)))))))
   (.reg [⟨some 12, .mv (.t 4), none⟩,
      ⟨some 13, .bin .add (.t 12) (.k (.sc (.int .i64 1))), none⟩,
      ⟨some 4, .mv (.t 13), none⟩] [0, 3, 4]))
/-- unravel/unravelref01.Faces -/
def b31 : AC :=
  .seq (.reg [⟨some 2, .mv (.k (.sc .nilS)), none⟩] [0])
  (.seq (.reg [⟨some 3, .mv (.k (.sc .nilS)), none⟩] [0, 3])
   (.seq (.seq (.reg [⟨some 4, .mv (.k (.sc (.int .i64 0))), none⟩] [0, 3, 4])
     (.block 0 (.loop [0, 3, 4] b31L0)))
    (.seq (.reg [⟨some 37, .mv (.t 3), none⟩,
        ⟨some 2, .mv (.t 37), none⟩] [2])
     (.ret))))
def a31 : AFun := ⟨1, b31, [.t 2]⟩

def b32L1 : AC :=
  .seq (.seq (.reg [⟨some 23, .mv (.t 7), none⟩,
      ⟨some 24, .mv (.t 5), none⟩,
      ⟨some 25, .len false (.t 24), none⟩,
      ⟨some 26, .bin .lss (.t 23) (.t 25), none⟩] [1, 3, 4, 5, 6, 7, 26])
   (.cond (.t 26)
     (.skip)
     (.exit 2)))
  (.seq (.block 3 (.reg [⟨some 29, .mv (.t 6), none⟩,
       ⟨some 30, .mv (.t 29), none⟩,
       ⟨some 31, .mv (.t 4), (some (30, true))⟩,
       ⟨some 32, .mv (.t 5), (some (30, true))⟩,
       ⟨some 33, .mv (.t 7), (some (30, true))⟩,
       ⟨some 34, .idxA 1 (.t 32) (.t 33), (some (30, true))⟩,
       ⟨some 35, .ld 1 false (.t 34), (some (30, true))⟩,
       ⟨some 36, .bin .leq (.t 31) (.t 35), (some (30, true))⟩,
       ⟨some 37, .pick (.t 30) (.t 36) (.k (.sc (.bool false))), none⟩,
       ⟨some 6, .mv (.t 37), none⟩] [1, 3, 4, 5, 6, 7]))
   (.reg [⟨some 27, .mv (.t 7), none⟩,
      ⟨some 28, .bin .add (.t 27) (.k (.sc (.int .i64 1))), none⟩,
      ⟨some 7, .mv (.t 28), none⟩] [1, 3, 4, 5, 6, 7]))
def b32L0 : AC :=
  .seq (.seq (.reg [⟨some 8, .mv (.t 4), none⟩,
      ⟨some 9, .fldA 1 (.t 1), none⟩,
      ⟨some 10, .ld 1 false (.t 9), none⟩,
      ⟨some 11, .len false (.t 10), none⟩,
      ⟨some 12, .bin .lss (.t 8) (.t 11), none⟩] [1, 3, 4, 12])
   (.cond (.t 12)
     (.skip)
     (.exit 0)))
  (.seq (.block 1 (.seq (.seq (.reg [⟨some 15, .fldA 0 (.t 1), none⟩,
         ⟨some 16, .ld 1 false (.t 15), none⟩,
         ⟨some 17, .mv (.t 4), none⟩,
         ⟨some 18, .call 29 [(.t 16), (.t 17)], none⟩,
         ⟨some 19, .un .not (.t 18), none⟩] [1, 3, 4, 19])
      (.cond (.t 19)
        (.exit 1)
        (.skip)))
     (.seq (.reg [⟨some 20, .ld 3 true (.t 1), none⟩,
         ⟨some 21, .mv (.t 4), none⟩,
         ⟨some 22, .call 44 [(.t 20), (.t 21)], none⟩,
         ⟨some 5, .mv (.t 22), none⟩] [1, 3, 4, 5])
      (.seq (.reg [⟨some 6, .mv (.k (.sc (.bool true))), none⟩] [1, 3, 4, 5, 6])
       (.seq (.seq (.reg [⟨some 7, .mv (.k (.sc (.int .i64 0))), none⟩] [1, 3, 4, 5, 6, 7])
         (.block 2 (.loop [1, 3, 4, 5, 6, 7] b32L1)))
        (.seq (.reg [⟨some 38, .mv (.t 6), none⟩] [1, 3, 4, 5, 38])
         (.cond (.t 38)
           (.reg [⟨some 39, .mv (.t 3), none⟩,
              ⟨some 40, .mv (.t 5), none⟩,
              ⟨some 41, .bsl 1 [.nilS] 1 [(0, .t 40)], none⟩,
              ⟨some 42, .app 1 24 [.nilS] (.t 39) (.t 41), none⟩,
              ⟨some 3, .mv (.t 42), none⟩] [1, 3, 4])
           (.skip))))))))
   (.reg [⟨some 13, .mv (.t 4), none⟩,
      ⟨some 14, .bin .add (.t 13) (.k (.sc (.int .i64 1))), none⟩,
      ⟨some 4, .mv (.t 14), none⟩] [1, 3, 4]))
/-- unravel/unravelref01.Strands -/
def b32 : AC :=
  .seq (.reg [⟨some 1, .box (.t 0), none⟩,
     ⟨some 2, .mv (.k (.sc .nilS)), none⟩] [1])
  (.seq (.reg [⟨some 3, .mv (.k (.sc .nilS)), none⟩] [1, 3])
   (.seq (.seq (.reg [⟨some 4, .mv (.k (.sc (.int .i64 0))), none⟩] [1, 3, 4])
     (.block 0 (.loop [1, 3, 4] b32L0)))
    (.seq (.reg [⟨some 43, .mv (.t 3), none⟩,
        ⟨some 2, .mv (.t 43), none⟩] [2])
     (.ret))))
def a32 : AFun := ⟨1, b32, [.t 2]⟩

/-- unravel/dowker.Signs$1 -/
def b33 : AC :=
  .seq (.reg [⟨some 5, .mv (.k (.sc (.bool false))), none⟩] [0, 1, 2, 3])
  (.seq (.seq (.reg [⟨some 6, .mv (.t 0), none⟩,
       ⟨some 7, .ld 1 false (.t 1), none⟩,
       ⟨some 8, .len false (.t 7), none⟩,
       ⟨some 9, .bin .eql (.t 6) (.t 8), none⟩] [0, 1, 2, 3, 9])
    (.cond (.t 9)
      (.seq (.reg [⟨some 10, .ld 1 false (.t 2), none⟩,
          ⟨some 11, .ld 1 false (.t 1), none⟩,
          ⟨some 12, .call 34 [(.t 10), (.t 11)], none⟩,
          ⟨some 13, .call 26 [(.t 12)], none⟩,
          ⟨some 5, .mv (.t 13), none⟩] [5])
       (.ret))
      (.skip)))
   (.seq (.reg [⟨some 14, .ld 1 false (.t 1), none⟩,
       ⟨some 15, .mv (.t 0), none⟩,
       ⟨some 16, .idxA 1 (.t 14) (.t 15), none⟩,
       ⟨none, .st 1 (.t 16) (.k (.sc (.int .i64 1))), none⟩] [0, 1, 3])
    (.seq (.seq (.reg [⟨some 17, .ld 1 false (.t 3), none⟩,
         ⟨some 18, .mv (.t 0), none⟩,
         ⟨some 19, .bin .add (.t 18) (.k (.sc (.int .i64 1))), none⟩,
         ⟨some 20, .callv (.t 17) [(.t 19)], none⟩] [0, 1, 3, 20])
      (.cond (.t 20)
        (.seq (.reg [⟨some 5, .mv (.k (.sc (.bool true))), none⟩] [5])
         (.ret))
        (.skip)))
     (.seq (.reg [⟨some 21, .ld 1 false (.t 1), none⟩,
         ⟨some 22, .mv (.t 0), none⟩,
         ⟨some 23, .idxA 1 (.t 21) (.t 22), none⟩,
         ⟨none, .st 1 (.t 23) (.k (.sc (.int .i64 (-1)))), none⟩] [0, 3])
      (.seq (.reg [⟨some 24, .ld 1 false (.t 3), none⟩,
          ⟨some 25, .mv (.t 0), none⟩,
          ⟨some 26, .bin .add (.t 25) (.k (.sc (.int .i64 1))), none⟩,
          ⟨some 27, .callv (.t 24) [(.t 26)], none⟩,
          ⟨some 5, .mv (.t 27), none⟩] [5])
       (.ret))))))
def a33 : AFun := ⟨4, b33, [.t 5]⟩

def b34L0 : AC :=
  .seq (.reg [⟨some 27, .bin .lss (.t 26) (.t 25), none⟩] [1, 4, 5, 6, 7, 24, 25, 26, 27])
  (.seq (.cond (.t 27)
     (.skip)
     (.exit 0))
   (.seq (.block 1 (.seq (.reg [⟨some 28, .mv (.t 26), none⟩,
         ⟨some 29, .idxA 1 (.t 24) (.t 26), none⟩,
         ⟨some 30, .ld 1 false (.t 29), none⟩,
         ⟨some 8, .mv (.t 28), none⟩,
         ⟨some 9, .mv (.t 30), none⟩] [1, 4, 5, 6, 7, 8, 9, 24, 25, 26])
      (.seq (.reg [⟨some 31, .mv (.t 8), none⟩,
          ⟨some 32, .bin .mul (.k (.sc (.int .i64 2))) (.t 31), none⟩,
          ⟨some 33, .mv (.t 9), none⟩,
          ⟨some 34, .mv (.t 9), none⟩,
          ⟨some 35, .un .neg (.t 34), none⟩,
          ⟨some 36, .mm true (.t 33) [(.t 35)], none⟩,
          ⟨some 37, .bin .sub (.t 36) (.k (.sc (.int .i64 1))), none⟩,
          ⟨some 10, .mv (.t 32), none⟩,
          ⟨some 11, .mv (.t 37), none⟩] [1, 4, 5, 6, 7, 8, 9, 10, 11, 24, 25, 26])
       (.seq (.seq (.reg [⟨some 38, .mv (.t 9), none⟩,
            ⟨some 39, .bin .lss (.t 38) (.k (.sc (.int .i64 0))), none⟩] [1, 4, 5, 6, 7, 8, 10, 11, 24, 25, 26, 39])
         (.cond (.t 39)
           (.reg [⟨some 40, .mv (.t 11), none⟩,
              ⟨some 41, .mv (.t 10), none⟩,
              ⟨some 10, .mv (.t 40), none⟩,
              ⟨some 11, .mv (.t 41), none⟩] [1, 4, 5, 6, 7, 8, 10, 11, 24, 25, 26])
           (.skip)))
        (.seq (.reg [⟨some 42, .mv (.t 6), none⟩,
            ⟨some 43, .mv (.t 11), none⟩,
            ⟨some 44, .mv (.t 7), none⟩,
            ⟨some 45, .mv (.t 11), none⟩,
            ⟨some 46, .mv (.t 8), none⟩,
            ⟨some 47, .bin .mul (.k (.sc (.int .i64 4))) (.t 46), none⟩,
            ⟨some 48, .mv (.t 8), none⟩,
            ⟨some 49, .bin .mul (.k (.sc (.int .i64 4))) (.t 48), none⟩,
            ⟨some 50, .bin .add (.t 49) (.k (.sc (.int .i64 2))), none⟩,
            ⟨some 51, .idxA 1 (.t 42) (.t 43), none⟩,
            ⟨none, .st 1 (.t 51) (.t 47), none⟩,
            ⟨some 52, .idxA 1 (.t 44) (.t 45), none⟩,
            ⟨none, .st 1 (.t 52) (.t 50), none⟩] [1, 4, 5, 6, 7, 8, 10, 24, 25, 26])
         (.seq (.reg [⟨some 53, .mv (.t 6), none⟩,
             ⟨some 54, .mv (.t 10), none⟩,
             ⟨some 55, .mv (.t 7), none⟩,
             ⟨some 56, .mv (.t 10), none⟩,
             ⟨some 57, .mv (.t 8), none⟩,
             ⟨some 58, .bin .mul (.k (.sc (.int .i64 4))) (.t 57), none⟩,
             ⟨some 59, .bin .add (.t 58) (.k (.sc (.int .i64 3))), none⟩,
             ⟨some 60, .mv (.t 8), none⟩,
             ⟨some 61, .bin .mul (.k (.sc (.int .i64 4))) (.t 60), none⟩,
             ⟨some 62, .bin .add (.t 61) (.k (.sc (.int .i64 1))), none⟩,
             ⟨some 63, .idxA 1 (.t 53) (.t 54), none⟩,
             ⟨none, .st 1 (.t 63) (.t 59), none⟩,
             ⟨some 64, .idxA 1 (.t 55) (.t 56), none⟩,
             ⟨none, .st 1 (.t 64) (.t 62), none⟩] [1, 4, 5, 6, 7, 8, 10, 24, 25, 26])
          (.seq (.reg [⟨some 65, .mv (.t 1), none⟩,
              ⟨some 66, .mv (.t 8), none⟩,
              ⟨some 67, .idxA 1 (.t 65) (.t 66), none⟩,
              ⟨some 68, .ld 1 false (.t 67), none⟩,
              ⟨some 69, .bin .eql (.t 68) (.k (.sc (.int .i64 (-1)))), none⟩] [1, 4, 5, 6, 7, 10, 24, 25, 26, 69])
           (.cond (.t 69)
             (.regd [(⟨some 70, .mv (.t 6), none⟩, 0, false),
                (⟨some 71, .mv (.t 10), none⟩, 1, false),
                (⟨some 72, .mv (.t 7), none⟩, 2, false),
                (⟨some 73, .mv (.t 10), none⟩, 3, false),
                (⟨some 74, .mv (.t 7), none⟩, 4, false),
                (⟨some 75, .mv (.t 10), none⟩, 5, false),
                (⟨some 76, .idxA 1 (.t 74) (.t 75), none⟩, 6, false),
                (⟨some 77, .ld 1 false (.t 76), none⟩, 7, false),
                (⟨some 78, .mv (.t 6), none⟩, 8, false),
                (⟨some 79, .mv (.t 10), none⟩, 9, false),
                (⟨some 80, .idxA 1 (.t 78) (.t 79), none⟩, 10, false),
                (⟨some 81, .ld 1 false (.t 80), none⟩, 11, false),
                (⟨some 82, .idxA 1 (.t 70) (.t 71), none⟩, 12, false),
                (⟨none, .st 1 (.t 82) (.t 77), none⟩, 13, true),
                (⟨some 83, .idxA 1 (.t 72) (.t 73), none⟩, 14, false),
                (⟨none, .st 1 (.t 83) (.t 81), none⟩, 15, true)] [1, 4, 5, 6, 7, 24, 25, 26])
             (.skip)))))))))
    (.reg [⟨some 84, .bin .add (.t 26) (.k (.sc (.int .i64 1))), none⟩,
       ⟨some 26, .mv (.t 84), none⟩] [1, 4, 5, 6, 7, 24, 25, 26])))
def b34L1 : AC :=
  .seq (.reg [⟨some 91, .bin .lss (.t 90) (.t 89), none⟩] [1, 4, 5, 6, 12, 88, 89, 90, 91])
  (.seq (.cond (.t 91)
     (.skip)
     (.exit 2))
   (.seq (.block 3 (.seq (.reg [⟨some 92, .mv (.t 90), none⟩,
         ⟨some 93, .idxA 1 (.t 88) (.t 90), none⟩,
         ⟨some 94, .ld 1 false (.t 93), none⟩,
         ⟨some 13, .mv (.t 92), none⟩,
         ⟨some 14, .mv (.t 94), none⟩] [1, 4, 5, 6, 12, 13, 14, 88, 89, 90])
      (.seq (.reg [⟨some 95, .mv (.t 6), none⟩,
          ⟨some 96, .mv (.t 13), none⟩,
          ⟨some 97, .bin .add (.t 96) (.k (.sc (.int .i64 1))), none⟩,
          ⟨some 98, .mv (.t 5), none⟩,
          ⟨some 99, .bin .mul (.k (.sc (.int .i64 2))) (.t 98), none⟩,
          ⟨some 100, .bin .rem (.t 97) (.t 99), none⟩,
          ⟨some 101, .idxA 1 (.t 95) (.t 100), none⟩,
          ⟨some 102, .ld 1 false (.t 101), none⟩,
          ⟨some 15, .mv (.t 102), none⟩] [1, 4, 5, 6, 12, 14, 15, 88, 89, 90])
       (.seq (.reg [⟨some 103, .mv (.t 12), none⟩,
           ⟨some 104, .mv (.t 14), none⟩,
           ⟨some 105, .mv (.t 15), none⟩,
           ⟨some 106, .idxA 1 (.t 103) (.t 104), none⟩,
           ⟨none, .st 1 (.t 106) (.t 105), none⟩] [1, 4, 5, 6, 12, 14, 15, 88, 89, 90])
        (.reg [⟨some 107, .mv (.t 12), none⟩,
           ⟨some 108, .mv (.t 15), none⟩,
           ⟨some 109, .mv (.t 14), none⟩,
           ⟨some 110, .idxA 1 (.t 107) (.t 108), none⟩,
           ⟨none, .st 1 (.t 110) (.t 109), none⟩] [1, 4, 5, 6, 12, 88, 89, 90])))))
    (.reg [⟨some 111, .bin .add (.t 90) (.k (.sc (.int .i64 1))), none⟩,
       ⟨some 90, .mv (.t 111), none⟩] [1, 4, 5, 6, 12, 88, 89, 90])))
/-- unravel/dowker.draw -/
def b34 : AC :=
  .seq (.reg [⟨some 4, .new [.nilS, .nilS, .int .i64 0], none⟩] [0, 1, 4])
  (.seq (.reg [⟨some 16, .mv (.t 0), none⟩,
      ⟨some 17, .len false (.t 16), none⟩,
      ⟨some 5, .mv (.t 17), none⟩] [0, 1, 4, 5])
   (.seq (.reg [⟨some 18, .mv (.t 5), none⟩,
       ⟨some 19, .bin .mul (.k (.sc (.int .i64 2))) (.t 18), none⟩,
       ⟨some 20, .mk 1 8 [.int .i64 0] (.t 19) (.t 19), none⟩,
       ⟨some 6, .mv (.t 20), none⟩] [0, 1, 4, 5, 6])
    (.seq (.reg [⟨some 21, .mv (.t 5), none⟩,
        ⟨some 22, .bin .mul (.k (.sc (.int .i64 2))) (.t 21), none⟩,
        ⟨some 23, .mk 1 8 [.int .i64 0] (.t 22) (.t 22), none⟩,
        ⟨some 7, .mv (.t 23), none⟩] [0, 1, 4, 5, 6, 7])
     (.seq (.seq (.reg [⟨some 24, .mv (.t 0), none⟩,
          ⟨some 25, .len false (.t 24), none⟩,
          ⟨some 26, .mv (.k (.sc (.int .i64 0))), none⟩] [1, 4, 5, 6, 7, 24, 25, 26])
       (.block 0 (.loop [1, 4, 5, 6, 7, 24, 25, 26] b34L0)))
      (.seq (.reg [⟨some 85, .mv (.t 5), none⟩,
          ⟨some 86, .bin .mul (.k (.sc (.int .i64 4))) (.t 85), none⟩,
          ⟨some 87, .mk 1 8 [.int .i64 0] (.t 86) (.t 86), none⟩,
          ⟨some 12, .mv (.t 87), none⟩] [1, 4, 5, 6, 7, 12])
       (.seq (.seq (.reg [⟨some 88, .mv (.t 7), none⟩,
            ⟨some 89, .len false (.t 88), none⟩,
            ⟨some 90, .mv (.k (.sc (.int .i64 0))), none⟩] [1, 4, 5, 6, 12, 88, 89, 90])
         (.block 2 (.loop [1, 4, 5, 6, 12, 88, 89, 90] b34L1)))
        (.seq (.reg [⟨some 112, .mv (.t 1), none⟩,
            ⟨some 113, .call 45 [(.t 112)], none⟩,
            ⟨some 114, .mv (.t 12), none⟩,
            ⟨some 115, .bld [.nilS, .nilS, .int .i64 0] [(0, 1, .t 113), (1, 1, .t 114)], none⟩,
            ⟨none, .st 3 (.t 4) (.t 115), none⟩] [4])
         (.ret))))))))
def a34 : AFun := ⟨2, b34, [.cell 4 3 true]⟩

/-- unravel/unravelref04.size -/
def b35 : AC :=
  .seq (.reg [⟨some 2, .mv (.k (.sc (.int .i64 0))), none⟩] [0])
  (.seq (.reg [⟨some 3, .mv (.t 0), none⟩,
      ⟨some 4, .mv (.t 0), none⟩,
      ⟨some 5, .un .neg (.t 4), none⟩,
      ⟨some 6, .mm true (.t 3) [(.t 5)], none⟩,
      ⟨some 2, .mv (.t 6), none⟩] [2])
   (.ret))
def a35 : AFun := ⟨1, b35, [.t 2]⟩

/-- unravel/unravellaw04.reflected$1 -/
def b36 : AC :=
  .seq (.reg [⟨some 2, .mv (.k (.sc (.int .i64 0))), none⟩] [0])
  (.seq (.reg [⟨some 3, .mv (.t 0), none⟩,
      ⟨some 4, .bin .quo (.t 3) (.k (.sc (.int .i64 4))), none⟩,
      ⟨some 5, .bin .mul (.t 4) (.k (.sc (.int .i64 4))), none⟩,
      ⟨some 6, .mv (.t 0), none⟩,
      ⟨some 7, .bin .rem (.t 6) (.k (.sc (.int .i64 4))), none⟩,
      ⟨some 8, .bin .sub (.k (.sc (.int .i64 4))) (.t 7), none⟩,
      ⟨some 9, .bin .rem (.t 8) (.k (.sc (.int .i64 4))), none⟩,
      ⟨some 10, .bin .add (.t 5) (.t 9), none⟩,
      ⟨some 2, .mv (.t 10), none⟩] [2])
   (.ret))
def a36 : AFun := ⟨1, b36, [.t 2]⟩

/-- unravel/diagram.outgoing -/
def b37 : AC :=
  .seq (.reg [⟨some 2, .box (.t 0), none⟩,
     ⟨some 4, .mv (.k (.sc (.bool false))), none⟩] [1, 2])
  (.seq (.seq (.reg [⟨some 5, .mv (.t 1), none⟩,
       ⟨some 6, .bin .rem (.t 5) (.k (.sc (.int .i64 4))), none⟩] [1, 2, 6])
    (.block 0 (.seq (.reg [⟨some 8, .bin .eql (.t 6) (.k (.sc (.int .i64 1))), none⟩,
         ⟨some 7, .mv (.t 8), none⟩] [1, 2, 6, 7])
      (.cond (.t 7)
        (.seq (.reg [⟨some 9, .fldA 0 (.t 2), none⟩,
            ⟨some 10, .ld 1 false (.t 9), none⟩,
            ⟨some 11, .mv (.t 1), none⟩,
            ⟨some 12, .bin .quo (.t 11) (.k (.sc (.int .i64 4))), none⟩,
            ⟨some 13, .idxA 1 (.t 10) (.t 12), none⟩,
            ⟨some 14, .ld 1 false (.t 13), none⟩,
            ⟨some 15, .bin .eql (.t 14) (.k (.sc (.int .i64 1))), none⟩,
            ⟨some 4, .mv (.t 15), none⟩] [4])
         (.ret))
        (.seq (.reg [⟨some 17, .bin .eql (.t 6) (.k (.sc (.int .i64 2))), none⟩,
            ⟨some 16, .mv (.t 17), none⟩] [1, 2, 6, 16])
         (.cond (.t 16)
           (.seq (.reg [⟨some 4, .mv (.k (.sc (.bool true))), none⟩] [4])
            (.ret))
           (.seq (.reg [⟨some 19, .bin .eql (.t 6) (.k (.sc (.int .i64 3))), none⟩,
               ⟨some 18, .mv (.t 19), none⟩] [1, 2, 18])
            (.cond (.t 18)
              (.seq (.reg [⟨some 20, .fldA 0 (.t 2), none⟩,
                  ⟨some 21, .ld 1 false (.t 20), none⟩,
                  ⟨some 22, .mv (.t 1), none⟩,
                  ⟨some 23, .bin .quo (.t 22) (.k (.sc (.int .i64 4))), none⟩,
                  ⟨some 24, .idxA 1 (.t 21) (.t 23), none⟩,
                  ⟨some 25, .ld 1 false (.t 24), none⟩,
                  ⟨some 26, .bin .eql (.t 25) (.k (.sc (.int .i64 (-1)))), none⟩,
                  ⟨some 4, .mv (.t 26), none⟩] [4])
               (.ret))
              (.skip)))))))))
   (.seq (.reg [⟨some 4, .mv (.k (.sc (.bool false))), none⟩] [4])
    (.ret)))
def a37 : AFun := ⟨2, b37, [.t 4]⟩

def b38L0 : AC :=
  .seq (.reg [⟨some 23, .bin .lss (.t 22) (.t 21), none⟩] [1, 3, 5, 20, 21, 22, 23])
  (.seq (.cond (.t 23)
     (.skip)
     (.exit 0))
   (.seq (.block 1 (.seq (.reg [⟨some 24, .idxA 1 (.t 20) (.t 22), none⟩,
         ⟨some 25, .ld 1 false (.t 24), none⟩,
         ⟨some 7, .mv (.t 25), none⟩] [1, 3, 5, 7, 20, 21, 22])
      (.reg [⟨some 26, .mv (.t 5), none⟩,
         ⟨some 27, .mv (.t 7), none⟩,
         ⟨some 28, .idxA 1 (.t 26) (.t 27), none⟩,
         ⟨some 29, .ld 1 false (.t 28), none⟩,
         ⟨some 30, .bin .sub (.t 29) (.k (.sc (.int .i64 1))), none⟩,
         ⟨some 31, .idxA 1 (.t 26) (.t 27), none⟩,
         ⟨none, .st 1 (.t 31) (.t 30), none⟩] [1, 3, 5, 20, 21, 22])))
    (.reg [⟨some 32, .bin .add (.t 22) (.k (.sc (.int .i64 1))), none⟩,
       ⟨some 22, .mv (.t 32), none⟩] [1, 3, 5, 20, 21, 22])))
def b38L2 : AC :=
  .seq (.seq (.reg [⟨some 58, .mv (.t 8), none⟩,
      ⟨some 59, .mv (.t 10), none⟩,
      ⟨some 60, .idxA 1 (.t 58) (.t 59), none⟩,
      ⟨some 61, .ld 1 false (.t 60), none⟩,
      ⟨some 62, .un .not (.t 61), none⟩] [1, 3, 5, 8, 10, 39, 40, 62])
   (.cond (.t 62)
     (.skip)
     (.exit 4)))
  (.seq (.block 5 (.reg [⟨some 69, .mv (.t 8), none⟩,
       ⟨some 70, .mv (.t 10), none⟩,
       ⟨some 71, .idxA 1 (.t 69) (.t 70), none⟩,
       ⟨none, .st 1 (.t 71) (.k (.sc (.bool true))), none⟩] [1, 3, 5, 8, 10, 39, 40]))
   (.reg [⟨some 63, .fldA 1 (.t 1), none⟩,
      ⟨some 64, .ld 1 false (.t 63), none⟩,
      ⟨some 65, .mv (.t 10), none⟩,
      ⟨some 66, .idxA 1 (.t 64) (.t 65), none⟩,
      ⟨some 67, .ld 1 false (.t 66), none⟩,
      ⟨some 68, .call 47 [(.t 67), (.k (.sc (.int .i64 (-1))))], none⟩,
      ⟨some 10, .mv (.t 68), none⟩] [1, 3, 5, 8, 10, 39, 40]))
def b38L1 : AC :=
  .seq (.reg [⟨some 41, .bin .lss (.t 40) (.t 39), none⟩] [1, 3, 5, 8, 39, 40, 41])
  (.seq (.cond (.t 41)
     (.skip)
     (.exit 2))
   (.seq (.block 3 (.seq (.reg [⟨some 42, .mv (.t 40), none⟩,
         ⟨some 9, .mv (.t 42), none⟩] [1, 3, 5, 8, 9, 39, 40])
      (.seq (.seq (.reg [⟨some 43, .mv (.t 8), none⟩,
           ⟨some 44, .mv (.t 9), none⟩,
           ⟨some 45, .idxA 1 (.t 43) (.t 44), none⟩,
           ⟨some 46, .ld 1 false (.t 45), none⟩] [1, 3, 5, 8, 9, 39, 40, 46])
        (.cond (.t 46)
          (.exit 3)
          (.skip)))
       (.seq (.reg [⟨some 47, .mv (.t 5), none⟩,
           ⟨some 48, .mv (.t 3), none⟩,
           ⟨some 49, .mv (.t 9), none⟩,
           ⟨some 50, .bin .quo (.t 49) (.k (.sc (.int .i64 4))), none⟩,
           ⟨some 51, .idxA 1 (.t 48) (.t 50), none⟩,
           ⟨some 52, .ld 1 false (.t 51), none⟩,
           ⟨some 53, .idxA 1 (.t 47) (.t 52), none⟩,
           ⟨some 54, .ld 1 false (.t 53), none⟩,
           ⟨some 55, .bin .add (.t 54) (.k (.sc (.int .i64 1))), none⟩,
           ⟨some 56, .idxA 1 (.t 47) (.t 52), none⟩,
           ⟨none, .st 1 (.t 56) (.t 55), none⟩] [1, 3, 5, 8, 9, 39, 40])
        (.seq (.reg [⟨some 57, .mv (.t 9), none⟩,
            ⟨some 10, .mv (.t 57), none⟩] [1, 3, 5, 8, 10, 39, 40])
         (.block 4 (.loop [1, 3, 5, 8, 10, 39, 40] b38L2)))))))
    (.reg [⟨some 72, .bin .add (.t 40) (.k (.sc (.int .i64 1))), none⟩,
       ⟨some 40, .mv (.t 72), none⟩] [1, 3, 5, 8, 39, 40])))
def b38L3 : AC :=
  .seq (.reg [⟨some 76, .bin .lss (.t 75) (.t 74), none⟩] [73, 74, 75, 76])
  (.seq (.cond (.t 76)
     (.skip)
     (.exit 6))
   (.seq (.block 7 (.seq (.reg [⟨some 77, .idxA 1 (.t 73) (.t 75), none⟩,
         ⟨some 78, .ld 1 false (.t 77), none⟩,
         ⟨some 12, .mv (.t 78), none⟩] [12, 73, 74, 75])
      (.seq (.reg [⟨some 79, .mv (.t 12), none⟩,
          ⟨some 80, .bin .neq (.t 79) (.k (.sc (.int .i64 2))), none⟩] [73, 74, 75, 80])
       (.cond (.t 80)
         (.seq (.reg [⟨some 2, .mv (.k (.sc (.bool false))), none⟩] [2])
          (.ret))
         (.skip)))))
    (.reg [⟨some 81, .bin .add (.t 75) (.k (.sc (.int .i64 1))), none⟩,
       ⟨some 75, .mv (.t 81), none⟩] [73, 74, 75])))
/-- unravel/diagram.spherical -/
def b38 : AC :=
  .seq (.reg [⟨some 1, .box (.t 0), none⟩,
     ⟨some 2, .mv (.k (.sc (.bool false))), none⟩] [1])
  (.seq (.reg [⟨some 14, .ld 3 true (.t 1), none⟩,
      ⟨some 15, .call 46 [(.t 14)], none⟩,
      ⟨some 13, .mv (.t 15), none⟩,
      ⟨some 16, .ext (.t 13) 0, none⟩,
      ⟨some 17, .ext (.t 13) 1, none⟩,
      ⟨some 3, .mv (.t 16), none⟩,
      ⟨some 4, .mv (.t 17), none⟩] [1, 3, 4])
   (.seq (.reg [⟨some 18, .mv (.t 4), none⟩,
       ⟨some 19, .mk 1 8 [.int .i64 0] (.t 18) (.t 18), none⟩,
       ⟨some 5, .mv (.t 19), none⟩] [1, 3, 5])
    (.seq (.seq (.reg [⟨some 20, .mv (.t 3), none⟩,
         ⟨some 21, .len false (.t 20), none⟩,
         ⟨some 22, .mv (.k (.sc (.int .i64 0))), none⟩] [1, 3, 5, 20, 21, 22])
      (.block 0 (.loop [1, 3, 5, 20, 21, 22] b38L0)))
     (.seq (.reg [⟨some 33, .fldA 1 (.t 1), none⟩,
         ⟨some 34, .ld 1 false (.t 33), none⟩,
         ⟨some 35, .len false (.t 34), none⟩,
         ⟨some 36, .mk 1 1 [.bool false] (.t 35) (.t 35), none⟩,
         ⟨some 8, .mv (.t 36), none⟩] [1, 3, 5, 8])
      (.seq (.seq (.reg [⟨some 37, .fldA 1 (.t 1), none⟩,
           ⟨some 38, .ld 1 false (.t 37), none⟩,
           ⟨some 39, .len false (.t 38), none⟩,
           ⟨some 40, .mv (.k (.sc (.int .i64 0))), none⟩] [1, 3, 5, 8, 39, 40])
        (.block 2 (.loop [1, 3, 5, 8, 39, 40] b38L1)))
       (.seq (.seq (.reg [⟨some 73, .mv (.t 5), none⟩,
            ⟨some 74, .len false (.t 73), none⟩,
            ⟨some 75, .mv (.k (.sc (.int .i64 0))), none⟩] [73, 74, 75])
         (.block 6 (.loop [73, 74, 75] b38L3)))
        (.seq (.reg [⟨some 2, .mv (.k (.sc (.bool true))), none⟩] [2])
         (.ret))))))))
def a38 : AFun := ⟨1, b38, [.t 2]⟩

/-- unravel/diagram.Strands$1 -/
def b39 : AC :=
  .seq (.reg [⟨some 3, .mv (.k (.sc (.bool false))), none⟩] [0, 1])
  (.seq (.reg [⟨some 4, .ld 3 true (.t 1), none⟩,
      ⟨some 5, .mv (.t 0), none⟩,
      ⟨some 6, .call 37 [(.t 4), (.t 5)], none⟩,
      ⟨some 3, .mv (.t 6), none⟩] [3])
   (.ret))
def a39 : AFun := ⟨2, b39, [.t 3]⟩

def b40L1 : AC :=
  .seq (.reg [⟨some 35, .bin .lss (.t 34) (.t 33), none⟩] [1, 2, 7, 8, 10, 15, 16, 32, 33, 34, 35])
  (.seq (.cond (.t 35)
     (.skip)
     (.exit 2))
   (.seq (.block 3 (.seq (.reg [⟨some 36, .idxA 1 (.t 32) (.t 34), none⟩,
         ⟨some 37, .ld 1 false (.t 36), none⟩,
         ⟨some 12, .mv (.t 37), none⟩] [1, 2, 7, 8, 10, 12, 15, 16, 32, 33, 34])
      (.reg [⟨some 38, .mv (.t 8), none⟩,
         ⟨some 39, .mv (.t 12), none⟩,
         ⟨some 40, .idxA 1 (.t 38) (.t 39), none⟩,
         ⟨none, .st 1 (.t 40) (.k (.sc (.bool true))), none⟩] [1, 2, 7, 8, 10, 15, 16, 32, 33, 34])))
    (.reg [⟨some 41, .bin .add (.t 34) (.k (.sc (.int .i64 1))), none⟩,
       ⟨some 34, .mv (.t 41), none⟩] [1, 2, 7, 8, 10, 15, 16, 32, 33, 34])))
def b40L0 : AC :=
  .seq (.reg [⟨some 17, .bin .lss (.t 16) (.t 15), none⟩] [1, 2, 7, 8, 15, 16, 17])
  (.seq (.cond (.t 17)
     (.skip)
     (.exit 0))
   (.seq (.block 1 (.seq (.reg [⟨some 18, .mv (.t 16), none⟩,
         ⟨some 9, .mv (.t 18), none⟩] [1, 2, 7, 8, 9, 15, 16])
      (.seq (.seq (.reg [⟨some 19, .mv (.t 8), none⟩,
           ⟨some 20, .mv (.t 9), none⟩,
           ⟨some 21, .idxA 1 (.t 19) (.t 20), none⟩,
           ⟨some 22, .ld 1 false (.t 21), none⟩,
           ⟨some 23, .mv (.t 22), none⟩,
           ⟨some 24, .mv (.t 1), (some (23, false))⟩,
           ⟨some 25, .mv (.t 9), (some (23, false))⟩,
           ⟨some 26, .callv (.t 24) [(.t 25)], (some (23, false))⟩,
           ⟨some 27, .un .not (.t 26), (some (23, false))⟩,
           ⟨some 28, .pick (.t 23) (.k (.sc (.bool true))) (.t 27), none⟩] [1, 2, 7, 8, 9, 15, 16, 28])
        (.cond (.t 28)
          (.exit 1)
          (.skip)))
       (.seq (.reg [⟨some 29, .mv (.t 9), none⟩,
           ⟨some 30, .mv (.t 2), none⟩,
           ⟨some 31, .call 48 [(.t 29), (.t 30)], none⟩,
           ⟨some 10, .mv (.t 31), none⟩] [1, 2, 7, 8, 10, 15, 16])
        (.seq (.seq (.reg [⟨some 32, .mv (.t 10), none⟩,
             ⟨some 33, .len false (.t 32), none⟩,
             ⟨some 34, .mv (.k (.sc (.int .i64 0))), none⟩] [1, 2, 7, 8, 10, 15, 16, 32, 33, 34])
          (.block 2 (.loop [1, 2, 7, 8, 10, 15, 16, 32, 33, 34] b40L1)))
         (.reg [⟨some 42, .mv (.t 7), none⟩,
            ⟨some 43, .mv (.t 10), none⟩,
            ⟨some 44, .bsl 1 [.nilS] 1 [(0, .t 43)], none⟩,
            ⟨some 45, .app 1 24 [.nilS] (.t 42) (.t 44), none⟩,
            ⟨some 7, .mv (.t 45), none⟩] [1, 2, 7, 8, 15, 16]))))))
    (.reg [⟨some 46, .bin .add (.t 16) (.k (.sc (.int .i64 1))), none⟩,
       ⟨some 16, .mv (.t 46), none⟩] [1, 2, 7, 8, 15, 16])))
/-- unravel/diagram.cycles -/
def b40 : AC :=
  .seq (.reg [⟨some 6, .mv (.k (.sc .nilS)), none⟩] [0, 1, 2])
  (.seq (.reg [⟨some 7, .mv (.k (.sc .nilS)), none⟩] [0, 1, 2, 7])
   (.seq (.reg [⟨some 13, .mv (.t 0), none⟩,
       ⟨some 14, .mk 1 1 [.bool false] (.t 13) (.t 13), none⟩,
       ⟨some 8, .mv (.t 14), none⟩] [0, 1, 2, 7, 8])
    (.seq (.seq (.reg [⟨some 15, .mv (.t 0), none⟩,
         ⟨some 16, .mv (.k (.sc (.int .i64 0))), none⟩] [1, 2, 7, 8, 15, 16])
      (.block 0 (.loop [1, 2, 7, 8, 15, 16] b40L0)))
     (.seq (.reg [⟨some 47, .mv (.t 7), none⟩,
         ⟨some 6, .mv (.t 47), none⟩] [6])
      (.ret)))))
def a40 : AFun := ⟨3, b40, [.t 6]⟩

/-- unravel/diagram.Strands$2 -/
def b41 : AC :=
  .seq (.reg [⟨some 3, .mv (.k (.sc (.int .i64 0))), none⟩] [0, 1])
  (.seq (.reg [⟨some 4, .fldA 1 (.t 1), none⟩,
      ⟨some 5, .ld 1 false (.t 4), none⟩,
      ⟨some 6, .mv (.t 0), none⟩,
      ⟨some 7, .idxA 1 (.t 5) (.t 6), none⟩,
      ⟨some 8, .ld 1 false (.t 7), none⟩,
      ⟨some 9, .call 42 [(.t 8)], none⟩,
      ⟨some 3, .mv (.t 9), none⟩] [3])
   (.ret))
def a41 : AFun := ⟨2, b41, [.t 3]⟩

/-- unravel/diagram.Opposite -/
def b42 : AC :=
  .seq (.reg [⟨some 2, .mv (.k (.sc (.int .i64 0))), none⟩] [0])
  (.seq (.reg [⟨some 3, .mv (.t 0), none⟩,
      ⟨some 4, .call 47 [(.t 3), (.k (.sc (.int .i64 2)))], none⟩,
      ⟨some 2, .mv (.t 4), none⟩] [2])
   (.ret))
def a42 : AFun := ⟨1, b42, [.t 2]⟩

def b43L0 : AC :=
  .seq (.seq (.reg [⟨some 14, .mv (.t 6), none⟩,
      ⟨some 15, .mv (.t 1), none⟩,
      ⟨some 16, .bin .neq (.t 14) (.t 15), none⟩,
      ⟨some 17, .mv (.t 16), none⟩,
      ⟨some 18, .mv (.t 5), (some (17, true))⟩,
      ⟨some 19, .len false (.t 18), (some (17, true))⟩,
      ⟨some 20, .mv (.t 0), (some (17, true))⟩,
      ⟨some 21, .len false (.t 20), (some (17, true))⟩,
      ⟨some 22, .bin .leq (.t 19) (.t 21), (some (17, true))⟩,
      ⟨some 23, .pick (.t 17) (.t 22) (.k (.sc (.bool false))), none⟩] [0, 1, 5, 6, 23])
   (.cond (.t 23)
     (.skip)
     (.exit 0)))
  (.seq (.block 1 (.reg [⟨some 29, .mv (.t 5), none⟩,
       ⟨some 30, .mv (.t 6), none⟩,
       ⟨some 31, .bsl 1 [.int .i64 0] 1 [(0, .t 30)], none⟩,
       ⟨some 32, .app 1 8 [.int .i64 0] (.t 29) (.t 31), none⟩,
       ⟨some 5, .mv (.t 32), none⟩] [0, 1, 5, 6]))
   (.reg [⟨some 24, .mv (.t 0), none⟩,
      ⟨some 25, .mv (.t 6), none⟩,
      ⟨some 26, .idxA 1 (.t 24) (.t 25), none⟩,
      ⟨some 27, .ld 1 false (.t 26), none⟩,
      ⟨some 28, .call 49 [(.t 27), (.k (.sc (.int .i64 (-1))))], none⟩,
      ⟨some 6, .mv (.t 28), none⟩] [0, 1, 5, 6]))
/-- unravel/unravelref01.Face -/
def b43 : AC :=
  .seq (.reg [⟨some 4, .mv (.k (.sc .nilS)), none⟩] [0, 1])
  (.seq (.reg [⟨some 7, .mv (.t 1), none⟩,
      ⟨some 8, .bsl 1 [.int .i64 0] 1 [(0, .t 7)], none⟩,
      ⟨some 5, .mv (.t 8), none⟩] [0, 1, 5])
   (.seq (.seq (.reg [⟨some 9, .mv (.t 0), none⟩,
        ⟨some 10, .mv (.t 1), none⟩,
        ⟨some 11, .idxA 1 (.t 9) (.t 10), none⟩,
        ⟨some 12, .ld 1 false (.t 11), none⟩,
        ⟨some 13, .call 49 [(.t 12), (.k (.sc (.int .i64 (-1))))], none⟩,
        ⟨some 6, .mv (.t 13), none⟩] [0, 1, 5, 6])
     (.block 0 (.loop [0, 1, 5, 6] b43L0)))
    (.seq (.reg [⟨some 33, .mv (.t 5), none⟩,
        ⟨some 4, .mv (.t 33), none⟩] [4])
     (.ret))))
def a43 : AFun := ⟨2, b43, [.t 4]⟩

def b44L0 : AC :=
  .seq (.seq (.reg [⟨some 15, .mv (.t 6), none⟩,
      ⟨some 16, .mv (.t 1), none⟩,
      ⟨some 17, .bin .neq (.t 15) (.t 16), none⟩,
      ⟨some 18, .mv (.t 17), none⟩,
      ⟨some 19, .mv (.t 5), (some (18, true))⟩,
      ⟨some 20, .len false (.t 19), (some (18, true))⟩,
      ⟨some 21, .fldA 1 (.t 2), (some (18, true))⟩,
      ⟨some 22, .ld 1 false (.t 21), (some (18, true))⟩,
      ⟨some 23, .len false (.t 22), (some (18, true))⟩,
      ⟨some 24, .bin .leq (.t 20) (.t 23), (some (18, true))⟩,
      ⟨some 25, .pick (.t 18) (.t 24) (.k (.sc (.bool false))), none⟩] [1, 2, 5, 6, 25])
   (.cond (.t 25)
     (.skip)
     (.exit 0)))
  (.seq (.block 1 (.reg [⟨some 32, .mv (.t 5), none⟩,
       ⟨some 33, .mv (.t 6), none⟩,
       ⟨some 34, .bsl 1 [.int .i64 0] 1 [(0, .t 33)], none⟩,
       ⟨some 35, .app 1 8 [.int .i64 0] (.t 32) (.t 34), none⟩,
       ⟨some 5, .mv (.t 35), none⟩] [1, 2, 5, 6]))
   (.reg [⟨some 26, .fldA 1 (.t 2), none⟩,
      ⟨some 27, .ld 1 false (.t 26), none⟩,
      ⟨some 28, .mv (.t 6), none⟩,
      ⟨some 29, .idxA 1 (.t 27) (.t 28), none⟩,
      ⟨some 30, .ld 1 false (.t 29), none⟩,
      ⟨some 31, .call 49 [(.t 30), (.k (.sc (.int .i64 2)))], none⟩,
      ⟨some 6, .mv (.t 31), none⟩] [1, 2, 5, 6]))
/-- unravel/unravelref01.Strand -/
def b44 : AC :=
  .seq (.reg [⟨some 2, .box (.t 0), none⟩,
     ⟨some 4, .mv (.k (.sc .nilS)), none⟩] [1, 2])
  (.seq (.reg [⟨some 7, .mv (.t 1), none⟩,
      ⟨some 8, .bsl 1 [.int .i64 0] 1 [(0, .t 7)], none⟩,
      ⟨some 5, .mv (.t 8), none⟩] [1, 2, 5])
   (.seq (.seq (.reg [⟨some 9, .fldA 1 (.t 2), none⟩,
        ⟨some 10, .ld 1 false (.t 9), none⟩,
        ⟨some 11, .mv (.t 1), none⟩,
        ⟨some 12, .idxA 1 (.t 10) (.t 11), none⟩,
        ⟨some 13, .ld 1 false (.t 12), none⟩,
        ⟨some 14, .call 49 [(.t 13), (.k (.sc (.int .i64 2)))], none⟩,
        ⟨some 6, .mv (.t 14), none⟩] [1, 2, 5, 6])
     (.block 0 (.loop [1, 2, 5, 6] b44L0)))
    (.seq (.reg [⟨some 36, .mv (.t 5), none⟩,
        ⟨some 4, .mv (.t 36), none⟩] [4])
     (.ret))))
def a44 : AFun := ⟨2, b44, [.t 4]⟩

/-- slices.Clone[[]int,int] -/
def b45 : AC :=
  .seq (.reg [⟨some 2, .mv (.k (.sc .nilS)), none⟩] [0])
  (.seq (.seq (.reg [⟨some 3, .mv (.t 0), none⟩,
       ⟨some 4, .isnil 1 false (.t 3), none⟩] [0, 4])
    (.cond (.t 4)
      (.seq (.reg [⟨some 2, .mv (.k (.sc .nilS)), none⟩] [2])
       (.ret))
      (.skip)))
   (.seq (.reg [⟨some 5, .bsl 1 [.int .i64 0] 0 [], none⟩,
       ⟨some 6, .mv (.t 0), none⟩,
       ⟨some 7, .app 1 8 [.int .i64 0] (.t 5) (.t 6), none⟩,
       ⟨some 2, .mv (.t 7), none⟩] [2])
    (.ret)))
def a45 : AFun := ⟨1, b45, [.t 2]⟩

def b46L0 : AC :=
  .seq (.reg [⟨some 19, .bin .lss (.t 18) (.t 17), none⟩] [1, 4, 17, 18, 19])
  (.seq (.cond (.t 19)
     (.skip)
     (.exit 0))
   (.seq (.block 1 (.seq (.reg [⟨some 20, .mv (.t 18), none⟩,
         ⟨some 5, .mv (.t 20), none⟩] [1, 4, 5, 17, 18])
      (.reg [⟨some 21, .mv (.t 4), none⟩,
         ⟨some 22, .mv (.t 5), none⟩,
         ⟨some 23, .idxA 1 (.t 21) (.t 22), none⟩,
         ⟨none, .st 1 (.t 23) (.k (.sc (.int .i64 (-1)))), none⟩] [1, 4, 17, 18])))
    (.reg [⟨some 24, .bin .add (.t 18) (.k (.sc (.int .i64 1))), none⟩,
       ⟨some 18, .mv (.t 24), none⟩] [1, 4, 17, 18])))
def b46L3 : AC :=
  .seq (.reg [⟨some 50, .bin .lss (.t 49) (.k (.sc (.int .i64 4))), none⟩] [1, 4, 6, 8, 9, 26, 27, 49, 50])
  (.seq (.cond (.t 50)
     (.skip)
     (.exit 6))
   (.seq (.block 7 (.seq (.reg [⟨some 51, .mv (.t 49), none⟩,
         ⟨some 10, .mv (.t 51), none⟩] [1, 4, 6, 8, 9, 10, 26, 27, 49])
      (.seq (.reg [⟨some 52, .fldA 1 (.t 1), none⟩,
          ⟨some 53, .ld 1 false (.t 52), none⟩,
          ⟨some 54, .mv (.t 9), none⟩,
          ⟨some 55, .bin .mul (.k (.sc (.int .i64 4))) (.t 54), none⟩,
          ⟨some 56, .mv (.t 10), none⟩,
          ⟨some 57, .bin .add (.t 55) (.t 56), none⟩,
          ⟨some 58, .idxA 1 (.t 53) (.t 57), none⟩,
          ⟨some 59, .ld 1 false (.t 58), none⟩,
          ⟨some 60, .bin .quo (.t 59) (.k (.sc (.int .i64 4))), none⟩,
          ⟨some 11, .mv (.t 60), none⟩] [1, 4, 6, 8, 9, 11, 26, 27, 49])
       (.seq (.reg [⟨some 61, .mv (.t 4), none⟩,
           ⟨some 62, .mv (.t 11), none⟩,
           ⟨some 63, .idxA 1 (.t 61) (.t 62), none⟩,
           ⟨some 64, .ld 1 false (.t 63), none⟩,
           ⟨some 65, .bin .lss (.t 64) (.k (.sc (.int .i64 0))), none⟩] [1, 4, 6, 8, 9, 11, 26, 27, 49, 65])
        (.cond (.t 65)
          (.seq (.reg [⟨some 66, .mv (.t 4), none⟩,
              ⟨some 67, .mv (.t 11), none⟩,
              ⟨some 68, .mv (.t 6), none⟩,
              ⟨some 69, .idxA 1 (.t 66) (.t 67), none⟩,
              ⟨none, .st 1 (.t 69) (.t 68), none⟩] [1, 4, 6, 8, 9, 11, 26, 27, 49])
           (.reg [⟨some 70, .mv (.t 8), none⟩,
              ⟨some 71, .mv (.t 11), none⟩,
              ⟨some 72, .bsl 1 [.int .i64 0] 1 [(0, .t 71)], none⟩,
              ⟨some 73, .app 1 8 [.int .i64 0] (.t 70) (.t 72), none⟩,
              ⟨some 8, .mv (.t 73), none⟩] [1, 4, 6, 8, 9, 26, 27, 49]))
          (.skip))))))
    (.reg [⟨some 74, .bin .add (.t 49) (.k (.sc (.int .i64 1))), none⟩,
       ⟨some 49, .mv (.t 74), none⟩] [1, 4, 6, 8, 9, 26, 27, 49])))
def b46L2 : AC :=
  .seq (.seq (.reg [⟨some 41, .mv (.t 8), none⟩,
      ⟨some 42, .len false (.t 41), none⟩,
      ⟨some 43, .bin .gtr (.t 42) (.k (.sc (.int .i64 0))), none⟩] [1, 4, 6, 8, 26, 27, 43])
   (.cond (.t 43)
     (.skip)
     (.exit 4)))
  (.block 5 (.seq (.reg [⟨some 44, .mv (.t 8), none⟩,
       ⟨some 45, .idxA 1 (.t 44) (.k (.sc (.int .i64 0))), none⟩,
       ⟨some 46, .ld 1 false (.t 45), none⟩,
       ⟨some 9, .mv (.t 46), none⟩] [1, 4, 6, 8, 9, 26, 27])
    (.seq (.reg [⟨some 47, .mv (.t 8), none⟩,
        ⟨some 48, .sl1 (.t 47) (some (.k (.sc (.int .i64 1)))) none, none⟩,
        ⟨some 8, .mv (.t 48), none⟩] [1, 4, 6, 8, 9, 26, 27])
     (.seq (.reg [⟨some 49, .mv (.k (.sc (.int .i64 0))), none⟩] [1, 4, 6, 8, 9, 26, 27, 49])
      (.block 6 (.loop [1, 4, 6, 8, 9, 26, 27, 49] b46L3))))))
def b46L1 : AC :=
  .seq (.reg [⟨some 28, .bin .lss (.t 27) (.t 26), none⟩] [1, 4, 6, 26, 27, 28])
  (.seq (.cond (.t 28)
     (.skip)
     (.exit 2))
   (.seq (.block 3 (.seq (.reg [⟨some 29, .mv (.t 27), none⟩,
         ⟨some 7, .mv (.t 29), none⟩] [1, 4, 6, 7, 26, 27])
      (.seq (.seq (.reg [⟨some 30, .mv (.t 4), none⟩,
           ⟨some 31, .mv (.t 7), none⟩,
           ⟨some 32, .idxA 1 (.t 30) (.t 31), none⟩,
           ⟨some 33, .ld 1 false (.t 32), none⟩,
           ⟨some 34, .bin .geq (.t 33) (.k (.sc (.int .i64 0))), none⟩] [1, 4, 6, 7, 26, 27, 34])
        (.cond (.t 34)
          (.exit 3)
          (.skip)))
       (.seq (.reg [⟨some 35, .mv (.t 4), none⟩,
           ⟨some 36, .mv (.t 7), none⟩,
           ⟨some 37, .mv (.t 6), none⟩,
           ⟨some 38, .idxA 1 (.t 35) (.t 36), none⟩,
           ⟨none, .st 1 (.t 38) (.t 37), none⟩] [1, 4, 6, 7, 26, 27])
        (.seq (.reg [⟨some 39, .mv (.t 7), none⟩,
            ⟨some 40, .bsl 1 [.int .i64 0] 1 [(0, .t 39)], none⟩,
            ⟨some 8, .mv (.t 40), none⟩] [1, 4, 6, 8, 26, 27])
         (.seq (.block 4 (.loop [1, 4, 6, 8, 26, 27] b46L2))
          (.reg [⟨some 75, .mv (.t 6), none⟩,
             ⟨some 76, .bin .add (.t 75) (.k (.sc (.int .i64 1))), none⟩,
             ⟨some 6, .mv (.t 76), none⟩] [1, 4, 6, 26, 27])))))))
    (.reg [⟨some 77, .bin .add (.t 27) (.k (.sc (.int .i64 1))), none⟩,
       ⟨some 27, .mv (.t 77), none⟩] [1, 4, 6, 26, 27])))
/-- unravel/diagram.label -/
def b46 : AC :=
  .seq (.reg [⟨some 1, .box (.t 0), none⟩,
     ⟨some 2, .mv (.k (.sc .nilS)), none⟩,
     ⟨some 3, .mv (.k (.sc (.int .i64 0))), none⟩] [1])
  (.seq (.reg [⟨some 12, .fldA 0 (.t 1), none⟩,
      ⟨some 13, .ld 1 false (.t 12), none⟩,
      ⟨some 14, .len false (.t 13), none⟩,
      ⟨some 15, .mk 1 8 [.int .i64 0] (.t 14) (.t 14), none⟩,
      ⟨some 4, .mv (.t 15), none⟩] [1, 4])
   (.seq (.seq (.reg [⟨some 16, .mv (.t 4), none⟩,
        ⟨some 17, .len false (.t 16), none⟩,
        ⟨some 18, .mv (.k (.sc (.int .i64 0))), none⟩] [1, 4, 17, 18])
     (.block 0 (.loop [1, 4, 17, 18] b46L0)))
    (.seq (.reg [⟨some 6, .mv (.k (.sc (.int .i64 0))), none⟩] [1, 4, 6])
     (.seq (.seq (.reg [⟨some 25, .mv (.t 4), none⟩,
          ⟨some 26, .len false (.t 25), none⟩,
          ⟨some 27, .mv (.k (.sc (.int .i64 0))), none⟩] [1, 4, 6, 26, 27])
       (.block 2 (.loop [1, 4, 6, 26, 27] b46L1)))
      (.seq (.reg [⟨some 78, .mv (.t 4), none⟩,
          ⟨some 79, .mv (.t 6), none⟩,
          ⟨some 2, .mv (.t 78), none⟩,
          ⟨some 3, .mv (.t 79), none⟩] [2, 3])
       (.ret))))))
def a46 : AFun := ⟨1, b46, [.t 2, .t 3]⟩

/-- unravel/diagram.Turn -/
def b47 : AC :=
  .seq (.reg [⟨some 4, .mv (.k (.sc (.int .i64 0))), none⟩] [0, 1])
  (.seq (.seq (.reg [⟨some 5, .mv (.t 0), none⟩,
       ⟨some 6, .bin .lss (.t 5) (.k (.sc (.int .i64 0))), none⟩] [0, 1, 6])
    (.cond (.t 6)
      (.seq (.reg [⟨some 4, .mv (.k (.sc (.int .i64 (-1)))), none⟩] [4])
       (.ret))
      (.skip)))
   (.seq (.reg [⟨some 7, .mv (.t 0), none⟩,
       ⟨some 8, .mv (.t 0), none⟩,
       ⟨some 9, .bin .rem (.t 8) (.k (.sc (.int .i64 4))), none⟩,
       ⟨some 10, .bin .sub (.t 7) (.t 9), none⟩,
       ⟨some 11, .mv (.t 0), none⟩,
       ⟨some 12, .bin .rem (.t 11) (.k (.sc (.int .i64 4))), none⟩,
       ⟨some 13, .mv (.t 1), none⟩,
       ⟨some 14, .bin .rem (.t 13) (.k (.sc (.int .i64 4))), none⟩,
       ⟨some 15, .bin .add (.t 12) (.t 14), none⟩,
       ⟨some 16, .bin .add (.t 15) (.k (.sc (.int .i64 4))), none⟩,
       ⟨some 17, .bin .rem (.t 16) (.k (.sc (.int .i64 4))), none⟩,
       ⟨some 18, .bin .add (.t 10) (.t 17), none⟩,
       ⟨some 4, .mv (.t 18), none⟩] [4])
    (.ret)))
def a47 : AFun := ⟨2, b47, [.t 4]⟩

def b48L0 : AC :=
  .seq (.seq (.reg [⟨some 12, .mv (.t 6), none⟩,
      ⟨some 13, .mv (.t 0), none⟩,
      ⟨some 14, .bin .neq (.t 12) (.t 13), none⟩] [0, 1, 5, 6, 14])
   (.cond (.t 14)
     (.skip)
     (.exit 0)))
  (.seq (.block 1 (.reg [⟨some 18, .mv (.t 5), none⟩,
       ⟨some 19, .mv (.t 6), none⟩,
       ⟨some 20, .bsl 1 [.int .i64 0] 1 [(0, .t 19)], none⟩,
       ⟨some 21, .app 1 8 [.int .i64 0] (.t 18) (.t 20), none⟩,
       ⟨some 5, .mv (.t 21), none⟩] [0, 1, 5, 6]))
   (.reg [⟨some 15, .mv (.t 1), none⟩,
      ⟨some 16, .mv (.t 6), none⟩,
      ⟨some 17, .callv (.t 15) [(.t 16)], none⟩,
      ⟨some 6, .mv (.t 17), none⟩] [0, 1, 5, 6]))
/-- unravel/diagram.cycle -/
def b48 : AC :=
  .seq (.reg [⟨some 4, .mv (.k (.sc .nilS)), none⟩] [0, 1])
  (.seq (.reg [⟨some 7, .mv (.t 0), none⟩,
      ⟨some 8, .bsl 1 [.int .i64 0] 1 [(0, .t 7)], none⟩,
      ⟨some 5, .mv (.t 8), none⟩] [0, 1, 5])
   (.seq (.seq (.reg [⟨some 9, .mv (.t 1), none⟩,
        ⟨some 10, .mv (.t 0), none⟩,
        ⟨some 11, .callv (.t 9) [(.t 10)], none⟩,
        ⟨some 6, .mv (.t 11), none⟩] [0, 1, 5, 6])
     (.block 0 (.loop [0, 1, 5, 6] b48L0)))
    (.seq (.reg [⟨some 22, .mv (.t 5), none⟩,
        ⟨some 4, .mv (.t 22), none⟩] [4])
     (.ret))))
def a48 : AFun := ⟨2, b48, [.t 4]⟩

/-- unravel/unravelref01.Turn -/
def b49 : AC :=
  .seq (.reg [⟨some 4, .mv (.k (.sc (.int .i64 0))), none⟩] [0, 1])
  (.seq (.seq (.reg [⟨some 5, .mv (.t 0), none⟩,
       ⟨some 6, .bin .lss (.t 5) (.k (.sc (.int .i64 0))), none⟩] [0, 1, 6])
    (.cond (.t 6)
      (.seq (.reg [⟨some 4, .mv (.k (.sc (.int .i64 (-1)))), none⟩] [4])
       (.ret))
      (.skip)))
   (.seq (.reg [⟨some 7, .mv (.t 0), none⟩,
       ⟨some 8, .mv (.t 0), none⟩,
       ⟨some 9, .bin .rem (.t 8) (.k (.sc (.int .i64 4))), none⟩,
       ⟨some 10, .bin .sub (.t 7) (.t 9), none⟩,
       ⟨some 11, .mv (.t 0), none⟩,
       ⟨some 12, .bin .rem (.t 11) (.k (.sc (.int .i64 4))), none⟩,
       ⟨some 13, .mv (.t 1), none⟩,
       ⟨some 14, .bin .rem (.t 13) (.k (.sc (.int .i64 4))), none⟩,
       ⟨some 15, .bin .add (.t 12) (.t 14), none⟩,
       ⟨some 16, .bin .rem (.t 15) (.k (.sc (.int .i64 4))), none⟩,
       ⟨some 17, .bin .add (.t 16) (.k (.sc (.int .i64 4))), none⟩,
       ⟨some 18, .bin .rem (.t 17) (.k (.sc (.int .i64 4))), none⟩,
       ⟨some 19, .bin .add (.t 10) (.t 18), none⟩,
       ⟨some 4, .mv (.t 19), none⟩] [4])
    (.ret)))
def a49 : AFun := ⟨2, b49, [.t 4]⟩

def FT : FuncId → Option AFun
  | 6 => some a6
  | 10 => some a10
  | 11 => some a11
  | 12 => some a12
  | 13 => some a13
  | 14 => some a14
  | 16 => some a16
  | 17 => some a17
  | 18 => some a18
  | 19 => some a19
  | 20 => some a20
  | 22 => some a22
  | 23 => some a23
  | 24 => some a24
  | 26 => some a26
  | 28 => some a28
  | 29 => some a29
  | 30 => some a30
  | 31 => some a31
  | 32 => some a32
  | 33 => some a33
  | 34 => some a34
  | 35 => some a35
  | 36 => some a36
  | 37 => some a37
  | 38 => some a38
  | 39 => some a39
  | 40 => some a40
  | 41 => some a41
  | 42 => some a42
  | 43 => some a43
  | 44 => some a44
  | 45 => some a45
  | 46 => some a46
  | 47 => some a47
  | 48 => some a48
  | 49 => some a49
  | _ => none

theorem ok6 : okFun Try.prog a6 Try.f6 = true := by kernel_rfl
theorem ok10 : okFun Try.prog a10 Try.f10 = true := by kernel_rfl
theorem ok11 : okFun Try.prog a11 Try.f11 = true := by kernel_rfl
theorem ok12 : okFun Try.prog a12 Try.f12 = true := by kernel_rfl
theorem ok13 : okFun Try.prog a13 Try.f13 = true := by kernel_rfl
theorem ok14 : okFun Try.prog a14 Try.f14 = true := by kernel_rfl
theorem ok16 : okFun Try.prog a16 Try.f16 = true := by kernel_rfl
theorem ok17 : okFun Try.prog a17 Try.f17 = true := by kernel_rfl
theorem ok18 : okFun Try.prog a18 Try.f18 = true := by kernel_rfl
theorem ok19 : okFun Try.prog a19 Try.f19 = true := by kernel_rfl
theorem ok20 : okFun Try.prog a20 Try.f20 = true := by kernel_rfl
theorem ok22 : okFun Try.prog a22 Try.f22 = true := by kernel_rfl
theorem ok23 : okFun Try.prog a23 Try.f23 = true := by kernel_rfl
theorem ok24 : okFun Try.prog a24 Try.f24 = true := by kernel_rfl
theorem ok26 : okFun Try.prog a26 Try.f26 = true := by kernel_rfl
theorem ok28 : okFun Try.prog a28 Try.f28 = true := by kernel_rfl
theorem ok29 : okFun Try.prog a29 Try.f29 = true := by kernel_rfl
theorem ok30 : okFun Try.prog a30 Try.f30 = true := by kernel_rfl
theorem ok31 : okFun Try.prog a31 Try.f31 = true := by kernel_rfl
theorem ok32 : okFun Try.prog a32 Try.f32 = true := by kernel_rfl
theorem ok33 : okFun Try.prog a33 Try.f33 = true := by kernel_rfl
theorem ok34 : okFun Try.prog a34 Try.f34 = true := by kernel_rfl
theorem ok35 : okFun Try.prog a35 Try.f35 = true := by kernel_rfl
theorem ok36 : okFun Try.prog a36 Try.f36 = true := by kernel_rfl
theorem ok37 : okFun Try.prog a37 Try.f37 = true := by kernel_rfl
theorem ok38 : okFun Try.prog a38 Try.f38 = true := by kernel_rfl
theorem ok39 : okFun Try.prog a39 Try.f39 = true := by kernel_rfl
theorem ok40 : okFun Try.prog a40 Try.f40 = true := by kernel_rfl
theorem ok41 : okFun Try.prog a41 Try.f41 = true := by kernel_rfl
theorem ok42 : okFun Try.prog a42 Try.f42 = true := by kernel_rfl
theorem ok43 : okFun Try.prog a43 Try.f43 = true := by kernel_rfl
theorem ok44 : okFun Try.prog a44 Try.f44 = true := by kernel_rfl
theorem ok45 : okFun Try.prog a45 Try.f45 = true := by kernel_rfl
theorem ok46 : okFun Try.prog a46 Try.f46 = true := by kernel_rfl
theorem ok47 : okFun Try.prog a47 Try.f47 = true := by kernel_rfl
theorem ok48 : okFun Try.prog a48 Try.f48 = true := by kernel_rfl
theorem ok49 : okFun Try.prog a49 Try.f49 = true := by kernel_rfl
theorem mixed : Try.prog.follows .mixedOrders = true := by kernel_rfl
theorem ft_ok : FTok Try.prog FT := by
  refine ⟨mixed, fun f F h => ?_⟩
  unfold FT at h
  split at h
  · simp at h; subst h; exact ⟨_, Try.func6, ok6⟩
  · simp at h; subst h; exact ⟨_, Try.func10, ok10⟩
  · simp at h; subst h; exact ⟨_, Try.func11, ok11⟩
  · simp at h; subst h; exact ⟨_, Try.func12, ok12⟩
  · simp at h; subst h; exact ⟨_, Try.func13, ok13⟩
  · simp at h; subst h; exact ⟨_, Try.func14, ok14⟩
  · simp at h; subst h; exact ⟨_, Try.func16, ok16⟩
  · simp at h; subst h; exact ⟨_, Try.func17, ok17⟩
  · simp at h; subst h; exact ⟨_, Try.func18, ok18⟩
  · simp at h; subst h; exact ⟨_, Try.func19, ok19⟩
  · simp at h; subst h; exact ⟨_, Try.func20, ok20⟩
  · simp at h; subst h; exact ⟨_, Try.func22, ok22⟩
  · simp at h; subst h; exact ⟨_, Try.func23, ok23⟩
  · simp at h; subst h; exact ⟨_, Try.func24, ok24⟩
  · simp at h; subst h; exact ⟨_, Try.func26, ok26⟩
  · simp at h; subst h; exact ⟨_, Try.func28, ok28⟩
  · simp at h; subst h; exact ⟨_, Try.func29, ok29⟩
  · simp at h; subst h; exact ⟨_, Try.func30, ok30⟩
  · simp at h; subst h; exact ⟨_, Try.func31, ok31⟩
  · simp at h; subst h; exact ⟨_, Try.func32, ok32⟩
  · simp at h; subst h; exact ⟨_, Try.func33, ok33⟩
  · simp at h; subst h; exact ⟨_, Try.func34, ok34⟩
  · simp at h; subst h; exact ⟨_, Try.func35, ok35⟩
  · simp at h; subst h; exact ⟨_, Try.func36, ok36⟩
  · simp at h; subst h; exact ⟨_, Try.func37, ok37⟩
  · simp at h; subst h; exact ⟨_, Try.func38, ok38⟩
  · simp at h; subst h; exact ⟨_, Try.func39, ok39⟩
  · simp at h; subst h; exact ⟨_, Try.func40, ok40⟩
  · simp at h; subst h; exact ⟨_, Try.func41, ok41⟩
  · simp at h; subst h; exact ⟨_, Try.func42, ok42⟩
  · simp at h; subst h; exact ⟨_, Try.func43, ok43⟩
  · simp at h; subst h; exact ⟨_, Try.func44, ok44⟩
  · simp at h; subst h; exact ⟨_, Try.func45, ok45⟩
  · simp at h; subst h; exact ⟨_, Try.func46, ok46⟩
  · simp at h; subst h; exact ⟨_, Try.func47, ok47⟩
  · simp at h; subst h; exact ⟨_, Try.func48, ok48⟩
  · simp at h; subst h; exact ⟨_, Try.func49, ok49⟩
  · simp at h
end Go.Proofs.Ytooafhbjbpaacaa
