/- The annotated code of this seat, printed by program (mkseat.py). -/
import Derived.Test.YtadelcikpkhclaaDoorProg
import Derived.KernelRfl
import Derived.Test.YtadelcikpkhclaaDoorAb17
namespace Go.Proofs.YtadelcikpkhclaaDoor
open Go.Ab

/-- unravel/unravellaw42.GridTells -/
def b3 : AC :=
  .seq (.reg [⟨some 1, .box (.t 0), none⟩,
     ⟨some 2, .mv (.k (.sc (.bool false))), none⟩] [1])
  (.seq (.seq (.reg [⟨some 3, .call 11 [], none⟩,
       ⟨some 4, .un .not (.t 3), none⟩,
       ⟨some 5, .mv (.t 4), none⟩,
       ⟨some 6, .ld 2 true (.t 1), (some (5, false))⟩,
       ⟨some 7, .call 12 [(.t 6)], (some (5, false))⟩,
       ⟨some 8, .un .not (.t 7), (some (5, false))⟩,
       ⟨some 9, .pick (.t 5) (.k (.sc (.bool true))) (.t 8), none⟩] [1, 9])
    (.cond (.t 9)
      (.seq (.reg [⟨some 10, .call 11 [], none⟩,
          ⟨some 2, .mv (.t 10), none⟩] [2])
       (.ret))
      (.skip)))
   (.seq (.seq (.regd [(⟨some 11, .ld 2 true (.t 1), none⟩, 0, false),
        (⟨some 12, .call 13 [(.t 11)], none⟩, 1, false),
        (⟨some 13, .ld 2 true (.t 1), none⟩, 2, false),
        (⟨some 14, .call 14 [(.t 13)], none⟩, 3, true),
        (⟨some 15, .beq true (.t 12) (.t 14), none⟩, 4, false)] [1, 15])
     (.cond (.t 15)
       (.seq (.reg [⟨some 2, .mv (.k (.sc (.bool false))), none⟩] [2])
        (.ret))
       (.skip)))
    (.seq (.seq (.reg [⟨some 16, .ld 2 true (.t 1), none⟩,
         ⟨some 17, .call 14 [(.t 16)], none⟩,
         ⟨some 18, .un .not (.t 17), none⟩] [1, 18])
      (.cond (.t 18)
        (.seq (.reg [⟨some 19, .ld 2 true (.t 1), none⟩,
            ⟨some 20, .call 15 [(.t 19)], none⟩,
            ⟨some 21, .bin .eql (.t 20) (.k (.sc (.int .i64 0))), none⟩,
            ⟨some 22, .mv (.t 21), none⟩,
            ⟨some 23, .ld 2 true (.t 1), (some (22, true))⟩,
            ⟨some 24, .call 16 [(.t 23)], (some (22, true))⟩,
            ⟨some 25, .len false (.t 24), (some (22, true))⟩,
            ⟨some 26, .bin .eql (.t 25) (.k (.sc (.int .i64 0))), (some (22, true))⟩,
            ⟨some 27, .pick (.t 22) (.t 26) (.k (.sc (.bool false))), none⟩,
            ⟨some 2, .mv (.t 27), none⟩] [2])
         (.ret))
        (.skip)))
     (.seq (.regd [(⟨some 28, .ld 2 true (.t 1), none⟩, 0, false),
         (⟨some 29, .call 15 [(.t 28)], none⟩, 1, false),
         (⟨some 30, .ld 2 true (.t 1), none⟩, 2, false),
         (⟨some 31, .call 17 [(.t 30)], none⟩, 3, true),
         (⟨some 32, .bin .eql (.t 29) (.t 31), none⟩, 4, false),
         (⟨some 33, .mv (.t 32), none⟩, 5, false),
         (⟨some 34, .ld 2 true (.t 1), (some (33, true))⟩, 6, false),
         (⟨some 35, .call 16 [(.t 34)], (some (33, true))⟩, 7, false),
         (⟨some 36, .ld 2 true (.t 1), (some (33, true))⟩, 8, false),
         (⟨some 37, .call 19 [(.t 36)], (some (33, true))⟩, 9, true),
         (⟨some 38, .call 18 [(.t 35), (.t 37)], (some (33, true))⟩, 10, true),
         (⟨some 39, .pick (.t 33) (.t 38) (.k (.sc (.bool false))), none⟩, 11, false),
         (⟨some 2, .mv (.t 39), none⟩, 12, false)] [2])
      (.ret)))))
def a3 : AFun := ⟨1, b3, [.t 2]⟩

def b4L0 : AC :=
  .seq (.reg [⟨some 33, .bin .lss (.t 32) (.t 31), none⟩] [1, 3, 4, 30, 31, 32, 33])
  (.seq (.cond (.t 33)
     (.skip)
     (.exit 0))
   (.seq (.block 1 (.seq (.reg [⟨some 34, .idxA 2 (.t 30) (.t 32), none⟩,
         ⟨some 35, .ld 2 true (.t 34), none⟩,
         ⟨some 6, .new [.int .i64 0, .int .i64 0], none⟩,
         ⟨none, .st 2 (.t 6) (.t 35), none⟩] [1, 3, 4, 6, 30, 31, 32])
      (.seq (.seq (.reg [⟨some 36, .idxP 2 1 (.t 6) (.k (.sc (.int .i64 0))), none⟩,
           ⟨some 37, .ld 1 false (.t 36), none⟩,
           ⟨some 38, .bin .lss (.t 37) (.k (.sc (.int .i64 0))), none⟩,
           ⟨some 39, .mv (.t 38), none⟩,
           ⟨some 40, .idxP 2 1 (.t 6) (.k (.sc (.int .i64 0))), (some (39, false))⟩,
           ⟨some 41, .ld 1 false (.t 40), (some (39, false))⟩,
           ⟨some 42, .fldA 0 (.t 1), (some (39, false))⟩,
           ⟨some 43, .ld 1 false (.t 42), (some (39, false))⟩,
           ⟨some 44, .len false (.t 43), (some (39, false))⟩,
           ⟨some 45, .bin .geq (.t 41) (.t 44), (some (39, false))⟩,
           ⟨some 46, .pick (.t 39) (.k (.sc (.bool true))) (.t 45), none⟩,
           ⟨some 47, .mv (.t 46), none⟩,
           ⟨some 48, .idxP 2 1 (.t 6) (.k (.sc (.int .i64 1))), (some (47, false))⟩,
           ⟨some 49, .ld 1 false (.t 48), (some (47, false))⟩,
           ⟨some 50, .bin .lss (.t 49) (.k (.sc (.int .i64 0))), (some (47, false))⟩,
           ⟨some 51, .pick (.t 47) (.k (.sc (.bool true))) (.t 50), none⟩,
           ⟨some 52, .mv (.t 51), none⟩,
           ⟨some 53, .idxP 2 1 (.t 6) (.k (.sc (.int .i64 1))), (some (52, false))⟩,
           ⟨some 54, .ld 1 false (.t 53), (some (52, false))⟩,
           ⟨some 55, .fldA 0 (.t 1), (some (52, false))⟩,
           ⟨some 56, .ld 1 false (.t 55), (some (52, false))⟩,
           ⟨some 57, .len false (.t 56), (some (52, false))⟩,
           ⟨some 58, .bin .geq (.t 54) (.t 57), (some (52, false))⟩,
           ⟨some 59, .pick (.t 52) (.k (.sc (.bool true))) (.t 58), none⟩,
           ⟨some 60, .mv (.t 59), none⟩,
           ⟨some 61, .idxP 2 1 (.t 6) (.k (.sc (.int .i64 0))), (some (60, false))⟩,
           ⟨some 62, .ld 1 false (.t 61), (some (60, false))⟩,
           ⟨some 63, .idxP 2 1 (.t 3) (.k (.sc (.int .i64 0))), (some (60, false))⟩,
           ⟨some 64, .ld 1 false (.t 63), (some (60, false))⟩,
           ⟨some 65, .bin .lss (.t 62) (.t 64), (some (60, false))⟩,
           ⟨some 66, .pick (.t 60) (.k (.sc (.bool true))) (.t 65), none⟩,
           ⟨some 67, .mv (.t 66), none⟩,
           ⟨some 68, .idxP 2 1 (.t 6) (.k (.sc (.int .i64 0))), (some (67, false))⟩,
           ⟨some 69, .ld 1 false (.t 68), (some (67, false))⟩,
           ⟨some 70, .idxP 2 1 (.t 3) (.k (.sc (.int .i64 0))), (some (67, false))⟩,
           ⟨some 71, .ld 1 false (.t 70), (some (67, false))⟩,
           ⟨some 72, .bin .eql (.t 69) (.t 71), (some (67, false))⟩,
           ⟨some 73, .mv (.t 72), (some (67, false))⟩,
           ⟨some 74, .idxP 2 1 (.t 6) (.k (.sc (.int .i64 1))), (some (73, true))⟩,
           ⟨some 75, .ld 1 false (.t 74), (some (73, true))⟩,
           ⟨some 76, .idxP 2 1 (.t 3) (.k (.sc (.int .i64 1))), (some (73, true))⟩,
           ⟨some 77, .ld 1 false (.t 76), (some (73, true))⟩,
           ⟨some 78, .bin .leq (.t 75) (.t 77), (some (73, true))⟩,
           ⟨some 79, .pick (.t 73) (.t 78) (.k (.sc (.bool false))), (some (67, false))⟩,
           ⟨some 80, .pick (.t 67) (.k (.sc (.bool true))) (.t 79), none⟩] [1, 3, 4, 6, 30, 31, 32, 80])
        (.cond (.t 80)
          (.seq (.reg [⟨some 2, .mv (.k (.sc (.bool false))), none⟩] [2])
           (.ret))
          (.skip)))
       (.seq (.regd [(⟨some 81, .fldA 0 (.t 1), none⟩, 0, false),
           (⟨some 82, .ld 1 false (.t 81), none⟩, 1, false),
           (⟨some 83, .idxP 2 1 (.t 6) (.k (.sc (.int .i64 1))), none⟩, 2, false),
           (⟨some 84, .ld 1 false (.t 83), none⟩, 3, false),
           (⟨some 85, .call 20 [(.t 82), (.t 84)], none⟩, 4, false),
           (⟨some 86, .fldA 1 (.t 1), none⟩, 5, false),
           (⟨some 87, .ld 1 false (.t 86), none⟩, 6, false),
           (⟨some 88, .idxP 2 1 (.t 6) (.k (.sc (.int .i64 1))), none⟩, 7, false),
           (⟨some 89, .ld 1 false (.t 88), none⟩, 8, false),
           (⟨some 90, .call 20 [(.t 87), (.t 89)], none⟩, 9, true),
           (⟨some 7, .mv (.t 85), none⟩, 10, false),
           (⟨some 8, .mv (.t 90), none⟩, 11, false)] [1, 3, 4, 6, 7, 8, 30, 31, 32])
        (.seq (.seq (.regd [(⟨some 91, .idxP 2 1 (.t 6) (.k (.sc (.int .i64 1))), none⟩, 0, false),
             (⟨some 92, .ld 1 false (.t 91), none⟩, 1, false),
             (⟨some 93, .fldA 0 (.t 1), none⟩, 2, false),
             (⟨some 94, .ld 1 false (.t 93), none⟩, 3, false),
             (⟨some 95, .idxP 2 1 (.t 6) (.k (.sc (.int .i64 0))), none⟩, 4, false),
             (⟨some 96, .ld 1 false (.t 95), none⟩, 5, false),
             (⟨some 97, .idxA 1 (.t 94) (.t 96), none⟩, 6, false),
             (⟨some 98, .ld 1 false (.t 97), none⟩, 7, false),
             (⟨some 99, .fldA 1 (.t 1), none⟩, 8, false),
             (⟨some 100, .ld 1 false (.t 99), none⟩, 9, false),
             (⟨some 101, .idxP 2 1 (.t 6) (.k (.sc (.int .i64 0))), none⟩, 10, false),
             (⟨some 102, .ld 1 false (.t 101), none⟩, 11, false),
             (⟨some 103, .idxA 1 (.t 100) (.t 102), none⟩, 12, false),
             (⟨some 104, .ld 1 false (.t 103), none⟩, 13, false),
             (⟨some 105, .mm false (.t 98) [(.t 104)], none⟩, 14, false),
             (⟨some 106, .bin .leq (.t 92) (.t 105), none⟩, 15, false),
             (⟨some 107, .mv (.t 106), none⟩, 16, false),
             (⟨some 108, .idxP 2 1 (.t 6) (.k (.sc (.int .i64 1))), (some (107, false))⟩, 17, false),
             (⟨some 109, .ld 1 false (.t 108), (some (107, false))⟩, 18, false),
             (⟨some 110, .fldA 0 (.t 1), (some (107, false))⟩, 19, false),
             (⟨some 111, .ld 1 false (.t 110), (some (107, false))⟩, 20, false),
             (⟨some 112, .idxP 2 1 (.t 6) (.k (.sc (.int .i64 0))), (some (107, false))⟩, 21, false),
             (⟨some 113, .ld 1 false (.t 112), (some (107, false))⟩, 22, false),
             (⟨some 114, .idxA 1 (.t 111) (.t 113), (some (107, false))⟩, 23, false),
             (⟨some 115, .ld 1 false (.t 114), (some (107, false))⟩, 24, false),
             (⟨some 116, .fldA 1 (.t 1), (some (107, false))⟩, 25, false),
             (⟨some 117, .ld 1 false (.t 116), (some (107, false))⟩, 26, false),
             (⟨some 118, .idxP 2 1 (.t 6) (.k (.sc (.int .i64 0))), (some (107, false))⟩, 27, false),
             (⟨some 119, .ld 1 false (.t 118), (some (107, false))⟩, 28, false),
             (⟨some 120, .idxA 1 (.t 117) (.t 119), (some (107, false))⟩, 29, false),
             (⟨some 121, .ld 1 false (.t 120), (some (107, false))⟩, 30, false),
             (⟨some 122, .mm true (.t 115) [(.t 121)], (some (107, false))⟩, 31, false),
             (⟨some 123, .bin .geq (.t 109) (.t 122), (some (107, false))⟩, 32, false),
             (⟨some 124, .pick (.t 107) (.k (.sc (.bool true))) (.t 123), none⟩, 33, false),
             (⟨some 125, .mv (.t 124), none⟩, 34, false),
             (⟨some 126, .idxP 2 1 (.t 6) (.k (.sc (.int .i64 0))), (some (125, false))⟩, 35, false),
             (⟨some 127, .ld 1 false (.t 126), (some (125, false))⟩, 36, true),
             (⟨some 128, .mv (.t 7), (some (125, false))⟩, 37, false),
             (⟨some 129, .mv (.t 8), (some (125, false))⟩, 38, false),
             (⟨some 130, .mm false (.t 128) [(.t 129)], (some (125, false))⟩, 39, false),
             (⟨some 131, .bin .leq (.t 127) (.t 130), (some (125, false))⟩, 40, false),
             (⟨some 132, .pick (.t 125) (.k (.sc (.bool true))) (.t 131), none⟩, 41, false),
             (⟨some 133, .mv (.t 132), none⟩, 42, false),
             (⟨some 134, .idxP 2 1 (.t 6) (.k (.sc (.int .i64 0))), (some (133, false))⟩, 43, false),
             (⟨some 135, .ld 1 false (.t 134), (some (133, false))⟩, 44, true),
             (⟨some 136, .mv (.t 7), (some (133, false))⟩, 45, false),
             (⟨some 137, .mv (.t 8), (some (133, false))⟩, 46, false),
             (⟨some 138, .mm true (.t 136) [(.t 137)], (some (133, false))⟩, 47, false),
             (⟨some 139, .bin .geq (.t 135) (.t 138), (some (133, false))⟩, 48, false),
             (⟨some 140, .pick (.t 133) (.k (.sc (.bool true))) (.t 139), none⟩, 49, false)] [1, 3, 4, 6, 30, 31, 32, 140])
          (.cond (.t 140)
            (.seq (.reg [⟨some 2, .mv (.k (.sc (.bool false))), none⟩] [2])
             (.ret))
            (.skip)))
         (.seq (.reg [⟨some 141, .mv (.t 4), none⟩,
             ⟨some 142, .idxP 2 1 (.t 6) (.k (.sc (.int .i64 0))), none⟩,
             ⟨some 143, .ld 1 false (.t 142), none⟩,
             ⟨some 144, .idxA 1 (.t 141) (.t 143), none⟩,
             ⟨some 145, .ld 1 false (.t 144), none⟩,
             ⟨some 146, .bin .add (.t 145) (.k (.sc (.int .i64 1))), none⟩,
             ⟨some 147, .idxA 1 (.t 141) (.t 143), none⟩,
             ⟨none, .st 1 (.t 147) (.t 146), none⟩] [1, 3, 4, 6, 30, 31, 32])
          (.reg [⟨some 148, .ld 2 true (.t 6), none⟩,
             ⟨none, .st 2 (.t 3) (.t 148), none⟩] [1, 3, 4, 30, 31, 32])))))))
    (.reg [⟨some 149, .bin .add (.t 32) (.k (.sc (.int .i64 1))), none⟩,
       ⟨some 32, .mv (.t 149), none⟩] [1, 3, 4, 30, 31, 32])))
def b4L1 : AC :=
  .seq (.reg [⟨some 153, .bin .lss (.t 152) (.t 151), none⟩] [1, 150, 151, 152, 153])
  (.seq (.cond (.t 153)
     (.skip)
     (.exit 2))
   (.seq (.block 3 (.seq (.reg [⟨some 154, .mv (.t 152), none⟩,
         ⟨some 155, .idxA 1 (.t 150) (.t 152), none⟩,
         ⟨some 156, .ld 1 false (.t 155), none⟩,
         ⟨some 9, .mv (.t 154), none⟩,
         ⟨some 10, .mv (.t 156), none⟩] [1, 9, 10, 150, 151, 152])
      (.seq (.regd [(⟨some 157, .mv (.t 10), none⟩, 0, false),
          (⟨some 158, .fldA 0 (.t 1), none⟩, 1, false),
          (⟨some 159, .ld 1 false (.t 158), none⟩, 2, false),
          (⟨some 160, .mv (.t 9), none⟩, 3, false),
          (⟨some 161, .idxA 1 (.t 159) (.t 160), none⟩, 4, false),
          (⟨some 162, .ld 1 false (.t 161), none⟩, 5, false),
          (⟨some 163, .fldA 1 (.t 1), none⟩, 6, false),
          (⟨some 164, .ld 1 false (.t 163), none⟩, 7, false),
          (⟨some 165, .mv (.t 9), none⟩, 8, false),
          (⟨some 166, .idxA 1 (.t 164) (.t 165), none⟩, 9, false),
          (⟨some 167, .ld 1 false (.t 166), none⟩, 10, false),
          (⟨some 168, .mm true (.t 162) [(.t 167)], none⟩, 11, false),
          (⟨some 169, .fldA 0 (.t 1), none⟩, 12, false),
          (⟨some 170, .ld 1 false (.t 169), none⟩, 13, false),
          (⟨some 171, .mv (.t 9), none⟩, 14, false),
          (⟨some 172, .idxA 1 (.t 170) (.t 171), none⟩, 15, false),
          (⟨some 173, .ld 1 false (.t 172), none⟩, 16, false),
          (⟨some 174, .fldA 1 (.t 1), none⟩, 17, false),
          (⟨some 175, .ld 1 false (.t 174), none⟩, 18, false),
          (⟨some 176, .mv (.t 9), none⟩, 19, false),
          (⟨some 177, .idxA 1 (.t 175) (.t 176), none⟩, 20, false),
          (⟨some 178, .ld 1 false (.t 177), none⟩, 21, false),
          (⟨some 179, .mm false (.t 173) [(.t 178)], none⟩, 22, false),
          (⟨some 180, .bin .sub (.t 168) (.t 179), none⟩, 23, false),
          (⟨some 181, .bin .sub (.t 180) (.k (.sc (.int .i64 1))), none⟩, 24, false),
          (⟨some 182, .bin .gtr (.t 157) (.t 181), none⟩, 25, false)] [1, 150, 151, 152, 182])
       (.cond (.t 182)
         (.seq (.reg [⟨some 2, .mv (.k (.sc (.bool false))), none⟩] [2])
          (.ret))
         (.skip)))))
    (.reg [⟨some 183, .bin .add (.t 152) (.k (.sc (.int .i64 1))), none⟩,
       ⟨some 152, .mv (.t 183), none⟩] [1, 150, 151, 152])))
/-- unravel/unravellaw42.GridCrosses -/
def b4 : AC :=
  .seq (.reg [⟨some 1, .box (.t 0), none⟩,
     ⟨some 2, .mv (.k (.sc (.bool false))), none⟩] [1])
  (.seq (.seq (.reg [⟨some 11, .call 11 [], none⟩,
       ⟨some 12, .un .not (.t 11), none⟩,
       ⟨some 13, .mv (.t 12), none⟩,
       ⟨some 14, .ld 2 true (.t 1), (some (13, false))⟩,
       ⟨some 15, .call 12 [(.t 14)], (some (13, false))⟩,
       ⟨some 16, .un .not (.t 15), (some (13, false))⟩,
       ⟨some 17, .pick (.t 13) (.k (.sc (.bool true))) (.t 16), none⟩,
       ⟨some 18, .mv (.t 17), none⟩,
       ⟨some 19, .ld 2 true (.t 1), (some (18, false))⟩,
       ⟨some 20, .call 13 [(.t 19)], (some (18, false))⟩,
       ⟨some 21, .un .not (.t 20), (some (18, false))⟩,
       ⟨some 22, .pick (.t 18) (.k (.sc (.bool true))) (.t 21), none⟩] [1, 22])
    (.cond (.t 22)
      (.seq (.reg [⟨some 23, .call 11 [], none⟩,
          ⟨some 2, .mv (.t 23), none⟩] [2])
       (.ret))
      (.skip)))
   (.seq (.reg [⟨some 24, .bld [.int .i64 0, .int .i64 0] [(0, 1, .k (.sc (.int .i64 (-1)))), (1, 1, .k (.sc (.int .i64 (-1))))], none⟩,
       ⟨some 3, .new [.int .i64 0, .int .i64 0], none⟩,
       ⟨none, .st 2 (.t 3) (.t 24), none⟩] [1, 3])
    (.seq (.reg [⟨some 25, .fldA 0 (.t 1), none⟩,
        ⟨some 26, .ld 1 false (.t 25), none⟩,
        ⟨some 27, .len false (.t 26), none⟩,
        ⟨some 28, .mk 1 8 [.int .i64 0] (.t 27) (.t 27), none⟩,
        ⟨some 4, .mv (.t 28), none⟩] [1, 3, 4])
     (.seq (.seq (.reg [⟨some 29, .ld 2 true (.t 1), none⟩,
          ⟨some 30, .call 16 [(.t 29)], none⟩,
          ⟨some 31, .len false (.t 30), none⟩,
          ⟨some 32, .mv (.k (.sc (.int .i64 0))), none⟩] [1, 3, 4, 30, 31, 32])
       (.block 0 (.loop [1, 3, 4, 30, 31, 32] b4L0)))
      (.seq (.seq (.reg [⟨some 150, .mv (.t 4), none⟩,
           ⟨some 151, .len false (.t 150), none⟩,
           ⟨some 152, .mv (.k (.sc (.int .i64 0))), none⟩] [1, 150, 151, 152])
        (.block 2 (.loop [1, 150, 151, 152] b4L1)))
       (.seq (.reg [⟨some 2, .mv (.k (.sc (.bool true))), none⟩] [2])
        (.ret)))))))
def a4 : AFun := ⟨1, b4, [.t 2]⟩

def b5L0 : AC :=
  .seq (.reg [⟨some 21, .bin .lss (.t 20) (.k (.sc (.int .i64 4))), none⟩] [1, 3, 20, 21])
  (.seq (.cond (.t 21)
     (.skip)
     (.exit 0))
   (.seq (.block 1 (.seq (.reg [⟨some 23, .ld 2 true (.t 3), none⟩,
         ⟨some 24, .call 21 [(.t 23)], none⟩,
         ⟨some 22, .mv (.t 24), none⟩,
         ⟨some 25, .ext (.t 22) 0, none⟩,
         ⟨some 26, .ext (.t 22) 1, none⟩,
         ⟨some 4, .new [.nilS, .nilS], none⟩,
         ⟨none, .st 2 (.t 4) (.t 25), none⟩,
         ⟨some 5, .mv (.t 26), none⟩] [1, 3, 4, 5, 20])
      (.seq (.seq (.regd [(⟨some 27, .mv (.t 5), none⟩, 0, false),
           (⟨some 28, .bin .neq (.t 27) (.k (.sc (.int .i64 0))), none⟩, 1, false),
           (⟨some 29, .mv (.t 28), none⟩, 2, false),
           (⟨some 30, .ld 2 true (.t 4), (some (29, false))⟩, 3, true),
           (⟨some 31, .call 13 [(.t 30)], (some (29, false))⟩, 4, true),
           (⟨some 32, .un .not (.t 31), (some (29, false))⟩, 5, false),
           (⟨some 33, .pick (.t 29) (.k (.sc (.bool true))) (.t 32), none⟩, 6, false),
           (⟨some 34, .mv (.t 33), none⟩, 7, false),
           (⟨some 35, .ld 2 true (.t 4), (some (34, false))⟩, 8, false),
           (⟨some 36, .call 15 [(.t 35)], (some (34, false))⟩, 9, false),
           (⟨some 37, .ld 2 true (.t 1), (some (34, false))⟩, 10, false),
           (⟨some 38, .call 15 [(.t 37)], (some (34, false))⟩, 11, true),
           (⟨some 39, .bin .neq (.t 36) (.t 38), (some (34, false))⟩, 12, false),
           (⟨some 40, .pick (.t 34) (.k (.sc (.bool true))) (.t 39), none⟩, 13, false),
           (⟨some 41, .mv (.t 40), none⟩, 14, false),
           (⟨some 42, .ld 2 true (.t 4), (some (41, false))⟩, 15, false),
           (⟨some 43, .call 16 [(.t 42)], (some (41, false))⟩, 16, false),
           (⟨some 44, .len false (.t 43), (some (41, false))⟩, 17, false),
           (⟨some 45, .ld 2 true (.t 1), (some (41, false))⟩, 18, false),
           (⟨some 46, .call 16 [(.t 45)], (some (41, false))⟩, 19, true),
           (⟨some 47, .len false (.t 46), (some (41, false))⟩, 20, false),
           (⟨some 48, .bin .neq (.t 44) (.t 47), (some (41, false))⟩, 21, false),
           (⟨some 49, .pick (.t 41) (.k (.sc (.bool true))) (.t 48), none⟩, 22, false)] [1, 3, 4, 20, 49])
        (.cond (.t 49)
          (.seq (.reg [⟨some 2, .mv (.k (.sc (.bool false))), none⟩] [2])
           (.ret))
          (.skip)))
       (.reg [⟨some 50, .ld 2 true (.t 4), none⟩,
          ⟨none, .st 2 (.t 3) (.t 50), none⟩] [1, 3, 20]))))
    (.reg [⟨some 51, .bin .add (.t 20) (.k (.sc (.int .i64 1))), none⟩,
       ⟨some 20, .mv (.t 51), none⟩] [1, 3, 20])))
/-- unravel/unravellaw42.GridRotates -/
def b5 : AC :=
  .seq (.reg [⟨some 1, .box (.t 0), none⟩,
     ⟨some 2, .mv (.k (.sc (.bool false))), none⟩] [1])
  (.seq (.seq (.reg [⟨some 6, .call 11 [], none⟩,
       ⟨some 7, .un .not (.t 6), none⟩,
       ⟨some 8, .mv (.t 7), none⟩,
       ⟨some 9, .ld 2 true (.t 1), (some (8, false))⟩,
       ⟨some 10, .call 12 [(.t 9)], (some (8, false))⟩,
       ⟨some 11, .un .not (.t 10), (some (8, false))⟩,
       ⟨some 12, .pick (.t 8) (.k (.sc (.bool true))) (.t 11), none⟩,
       ⟨some 13, .mv (.t 12), none⟩,
       ⟨some 14, .ld 2 true (.t 1), (some (13, false))⟩,
       ⟨some 15, .call 13 [(.t 14)], (some (13, false))⟩,
       ⟨some 16, .un .not (.t 15), (some (13, false))⟩,
       ⟨some 17, .pick (.t 13) (.k (.sc (.bool true))) (.t 16), none⟩] [1, 17])
    (.cond (.t 17)
      (.seq (.reg [⟨some 18, .call 11 [], none⟩,
          ⟨some 2, .mv (.t 18), none⟩] [2])
       (.ret))
      (.skip)))
   (.seq (.reg [⟨some 19, .ld 2 true (.t 1), none⟩,
       ⟨some 3, .new [.nilS, .nilS], none⟩,
       ⟨none, .st 2 (.t 3) (.t 19), none⟩] [1, 3])
    (.seq (.seq (.reg [⟨some 20, .mv (.k (.sc (.int .i64 0))), none⟩] [1, 3, 20])
      (.block 0 (.loop [1, 3, 20] b5L0)))
     (.seq (.reg [⟨some 52, .fldA 0 (.t 3), none⟩,
         ⟨some 53, .ld 1 false (.t 52), none⟩,
         ⟨some 54, .fldA 0 (.t 1), none⟩,
         ⟨some 55, .ld 1 false (.t 54), none⟩,
         ⟨some 56, .call 22 [(.t 53), (.t 55)], none⟩,
         ⟨some 57, .mv (.t 56), none⟩,
         ⟨some 58, .fldA 1 (.t 3), (some (57, true))⟩,
         ⟨some 59, .ld 1 false (.t 58), (some (57, true))⟩,
         ⟨some 60, .fldA 1 (.t 1), (some (57, true))⟩,
         ⟨some 61, .ld 1 false (.t 60), (some (57, true))⟩,
         ⟨some 62, .call 22 [(.t 59), (.t 61)], (some (57, true))⟩,
         ⟨some 63, .pick (.t 57) (.t 62) (.k (.sc (.bool false))), none⟩,
         ⟨some 2, .mv (.t 63), none⟩] [2])
      (.ret)))))
def a5 : AFun := ⟨1, b5, [.t 2]⟩

/-- unravel/unravellaw42.GridShifts -/
def b6 : AC :=
  .seq (.reg [⟨some 5, .box (.t 0), none⟩,
     ⟨some 10, .mv (.k (.sc (.bool false))), none⟩] [1, 2, 3, 4, 5])
  (.seq (.seq (.reg [⟨some 17, .call 11 [], none⟩,
       ⟨some 18, .un .not (.t 17), none⟩,
       ⟨some 19, .mv (.t 18), none⟩,
       ⟨some 20, .ld 2 true (.t 5), (some (19, false))⟩,
       ⟨some 21, .call 12 [(.t 20)], (some (19, false))⟩,
       ⟨some 22, .un .not (.t 21), (some (19, false))⟩,
       ⟨some 23, .pick (.t 19) (.k (.sc (.bool true))) (.t 22), none⟩,
       ⟨some 24, .mv (.t 23), none⟩,
       ⟨some 25, .ld 2 true (.t 5), (some (24, false))⟩,
       ⟨some 26, .call 13 [(.t 25)], (some (24, false))⟩,
       ⟨some 27, .un .not (.t 26), (some (24, false))⟩,
       ⟨some 28, .pick (.t 24) (.k (.sc (.bool true))) (.t 27), none⟩] [1, 2, 3, 4, 5, 28])
    (.cond (.t 28)
      (.seq (.reg [⟨some 29, .call 11 [], none⟩,
          ⟨some 10, .mv (.t 29), none⟩] [10])
       (.ret))
      (.skip)))
   (.seq (.reg [⟨some 31, .ld 2 true (.t 5), none⟩,
       ⟨some 32, .mv (.t 1), none⟩,
       ⟨some 33, .conv .i64 (.t 32), none⟩,
       ⟨some 34, .mv (.t 2), none⟩,
       ⟨some 35, .conv .i64 (.t 34), none⟩,
       ⟨some 36, .call 23 [(.t 31), (.t 33), (.t 35)], none⟩,
       ⟨some 30, .mv (.t 36), none⟩,
       ⟨some 37, .ext (.t 30) 0, none⟩,
       ⟨some 38, .ext (.t 30) 1, none⟩,
       ⟨some 11, .new [.nilS, .nilS], none⟩,
       ⟨none, .st 2 (.t 11) (.t 37), none⟩,
       ⟨some 12, .mv (.t 38), none⟩] [1, 2, 3, 4, 5, 11, 12])
    (.seq (.reg [⟨some 40, .ld 2 true (.t 11), none⟩,
        ⟨some 41, .mv (.t 3), none⟩,
        ⟨some 42, .conv .i64 (.t 41), none⟩,
        ⟨some 43, .mv (.t 4), none⟩,
        ⟨some 44, .conv .i64 (.t 43), none⟩,
        ⟨some 45, .call 23 [(.t 40), (.t 42), (.t 44)], none⟩,
        ⟨some 39, .mv (.t 45), none⟩,
        ⟨some 46, .ext (.t 39) 0, none⟩,
        ⟨some 47, .ext (.t 39) 1, none⟩,
        ⟨some 13, .new [.nilS, .nilS], none⟩,
        ⟨none, .st 2 (.t 13) (.t 46), none⟩,
        ⟨some 14, .mv (.t 47), none⟩] [1, 2, 3, 4, 5, 11, 12, 13, 14])
     (.seq (.reg [⟨some 49, .ld 2 true (.t 5), none⟩,
         ⟨some 50, .mv (.t 1), none⟩,
         ⟨some 51, .conv .i64 (.t 50), none⟩,
         ⟨some 52, .mv (.t 3), none⟩,
         ⟨some 53, .conv .i64 (.t 52), none⟩,
         ⟨some 54, .bin .add (.t 51) (.t 53), none⟩,
         ⟨some 55, .fldA 0 (.t 5), none⟩,
         ⟨some 56, .ld 1 false (.t 55), none⟩,
         ⟨some 57, .len false (.t 56), none⟩,
         ⟨some 58, .bin .add (.t 54) (.t 57), none⟩,
         ⟨some 59, .mv (.t 2), none⟩,
         ⟨some 60, .conv .i64 (.t 59), none⟩,
         ⟨some 61, .mv (.t 4), none⟩,
         ⟨some 62, .conv .i64 (.t 61), none⟩,
         ⟨some 63, .bin .add (.t 60) (.t 62), none⟩,
         ⟨some 64, .fldA 0 (.t 5), none⟩,
         ⟨some 65, .ld 1 false (.t 64), none⟩,
         ⟨some 66, .len false (.t 65), none⟩,
         ⟨some 67, .bin .sub (.t 63) (.t 66), none⟩,
         ⟨some 68, .call 23 [(.t 49), (.t 58), (.t 67)], none⟩,
         ⟨some 48, .mv (.t 68), none⟩,
         ⟨some 69, .ext (.t 48) 0, none⟩,
         ⟨some 70, .ext (.t 48) 1, none⟩,
         ⟨some 15, .new [.nilS, .nilS], none⟩,
         ⟨none, .st 2 (.t 15) (.t 69), none⟩,
         ⟨some 16, .mv (.t 70), none⟩] [5, 11, 12, 13, 14, 15, 16])
      (.seq (.regd [(⟨some 71, .mv (.t 12), none⟩, 0, false),
          (⟨some 72, .bin .eql (.t 71) (.k (.sc (.int .i64 0))), none⟩, 1, false),
          (⟨some 73, .mv (.t 72), none⟩, 2, false),
          (⟨some 74, .mv (.t 14), (some (73, true))⟩, 3, false),
          (⟨some 75, .bin .eql (.t 74) (.k (.sc (.int .i64 0))), (some (73, true))⟩, 4, false),
          (⟨some 76, .pick (.t 73) (.t 75) (.k (.sc (.bool false))), none⟩, 5, false),
          (⟨some 77, .mv (.t 76), none⟩, 6, false),
          (⟨some 78, .mv (.t 16), (some (77, true))⟩, 7, false),
          (⟨some 79, .bin .eql (.t 78) (.k (.sc (.int .i64 0))), (some (77, true))⟩, 8, false),
          (⟨some 80, .pick (.t 77) (.t 79) (.k (.sc (.bool false))), none⟩, 9, false),
          (⟨some 81, .mv (.t 80), none⟩, 10, false),
          (⟨some 82, .fldA 0 (.t 13), (some (81, true))⟩, 11, false),
          (⟨some 83, .ld 1 false (.t 82), (some (81, true))⟩, 12, false),
          (⟨some 84, .fldA 0 (.t 15), (some (81, true))⟩, 13, false),
          (⟨some 85, .ld 1 false (.t 84), (some (81, true))⟩, 14, false),
          (⟨some 86, .call 22 [(.t 83), (.t 85)], (some (81, true))⟩, 15, true),
          (⟨some 87, .pick (.t 81) (.t 86) (.k (.sc (.bool false))), none⟩, 16, false),
          (⟨some 88, .mv (.t 87), none⟩, 17, false),
          (⟨some 89, .fldA 1 (.t 13), (some (88, true))⟩, 18, false),
          (⟨some 90, .ld 1 false (.t 89), (some (88, true))⟩, 19, false),
          (⟨some 91, .fldA 1 (.t 15), (some (88, true))⟩, 20, false),
          (⟨some 92, .ld 1 false (.t 91), (some (88, true))⟩, 21, false),
          (⟨some 93, .call 22 [(.t 90), (.t 92)], (some (88, true))⟩, 22, true),
          (⟨some 94, .pick (.t 88) (.t 93) (.k (.sc (.bool false))), none⟩, 23, false),
          (⟨some 95, .mv (.t 94), none⟩, 24, false),
          (⟨some 96, .ld 2 true (.t 11), (some (95, true))⟩, 25, true),
          (⟨some 97, .call 13 [(.t 96)], (some (95, true))⟩, 26, true),
          (⟨some 98, .pick (.t 95) (.t 97) (.k (.sc (.bool false))), none⟩, 27, false),
          (⟨some 99, .mv (.t 98), none⟩, 28, false),
          (⟨some 100, .ld 2 true (.t 11), (some (99, true))⟩, 29, false),
          (⟨some 101, .call 15 [(.t 100)], (some (99, true))⟩, 30, false),
          (⟨some 102, .ld 2 true (.t 5), (some (99, true))⟩, 31, false),
          (⟨some 103, .call 15 [(.t 102)], (some (99, true))⟩, 32, true),
          (⟨some 104, .bin .eql (.t 101) (.t 103), (some (99, true))⟩, 33, false),
          (⟨some 105, .pick (.t 99) (.t 104) (.k (.sc (.bool false))), none⟩, 34, false),
          (⟨some 10, .mv (.t 105), none⟩, 35, false)] [10])
       (.ret))))))
def a6 : AFun := ⟨5, b6, [.t 10]⟩

def b7L1 : AC :=
  .seq (.reg [⟨some 125, .bin .lss (.t 124) (.t 123), none⟩] [3, 9, 15, 117, 118, 123, 124, 125])
  (.seq (.cond (.t 125)
     (.skip)
     (.exit 2))
   (.seq (.block 3 (.seq (.reg [⟨some 126, .mv (.t 124), none⟩,
         ⟨some 16, .mv (.t 126), none⟩] [3, 9, 15, 16, 117, 118, 123, 124])
      (.seq (.reg [⟨some 128, .ld 2 true (.t 3), none⟩,
          ⟨some 129, .mv (.t 15), none⟩,
          ⟨some 130, .mv (.t 16), none⟩,
          ⟨some 131, .call 23 [(.t 128), (.t 129), (.t 130)], none⟩,
          ⟨some 127, .mv (.t 131), none⟩,
          ⟨some 132, .ext (.t 127) 0, none⟩,
          ⟨some 133, .ext (.t 127) 1, none⟩,
          ⟨some 17, .new [.nilS, .nilS], none⟩,
          ⟨none, .st 2 (.t 17) (.t 132), none⟩,
          ⟨some 18, .mv (.t 133), none⟩] [3, 9, 15, 17, 18, 117, 118, 123, 124])
       (.seq (.reg [⟨some 134, .mv (.t 18), none⟩,
           ⟨some 135, .bin .eql (.t 134) (.k (.sc (.int .i64 0))), none⟩,
           ⟨some 136, .mv (.t 135), none⟩,
           ⟨some 137, .fldA 0 (.t 17), (some (136, true))⟩,
           ⟨some 138, .ld 1 false (.t 137), (some (136, true))⟩,
           ⟨some 139, .fldA 0 (.t 9), (some (136, true))⟩,
           ⟨some 140, .ld 1 false (.t 139), (some (136, true))⟩,
           ⟨some 141, .call 22 [(.t 138), (.t 140)], (some (136, true))⟩,
           ⟨some 142, .pick (.t 136) (.t 141) (.k (.sc (.bool false))), none⟩,
           ⟨some 143, .mv (.t 142), none⟩,
           ⟨some 144, .fldA 1 (.t 17), (some (143, true))⟩,
           ⟨some 145, .ld 1 false (.t 144), (some (143, true))⟩,
           ⟨some 146, .fldA 1 (.t 9), (some (143, true))⟩,
           ⟨some 147, .ld 1 false (.t 146), (some (143, true))⟩,
           ⟨some 148, .call 22 [(.t 145), (.t 147)], (some (143, true))⟩,
           ⟨some 149, .pick (.t 143) (.t 148) (.k (.sc (.bool false))), none⟩] [3, 9, 15, 117, 118, 123, 124, 149])
        (.cond (.t 149)
          (.seq (.reg [⟨some 6, .mv (.k (.sc (.bool true))), none⟩] [6])
           (.ret))
          (.skip))))))
    (.reg [⟨some 150, .bin .add (.t 124) (.k (.sc (.int .i64 1))), none⟩,
       ⟨some 124, .mv (.t 150), none⟩] [3, 9, 15, 117, 118, 123, 124])))
def b7L0 : AC :=
  .seq (.reg [⟨some 119, .bin .lss (.t 118) (.t 117), none⟩] [3, 9, 117, 118, 119])
  (.seq (.cond (.t 119)
     (.skip)
     (.exit 0))
   (.seq (.block 1 (.seq (.reg [⟨some 120, .mv (.t 118), none⟩,
         ⟨some 15, .mv (.t 120), none⟩] [3, 9, 15, 117, 118])
      (.seq (.reg [⟨some 121, .fldA 0 (.t 9), none⟩,
          ⟨some 122, .ld 1 false (.t 121), none⟩,
          ⟨some 123, .len false (.t 122), none⟩,
          ⟨some 124, .mv (.k (.sc (.int .i64 0))), none⟩] [3, 9, 15, 117, 118, 123, 124])
       (.block 2 (.loop [3, 9, 15, 117, 118, 123, 124] b7L1)))))
    (.reg [⟨some 151, .bin .add (.t 118) (.k (.sc (.int .i64 1))), none⟩,
       ⟨some 118, .mv (.t 151), none⟩] [3, 9, 117, 118])))
/-- unravel/unravellaw42.GridLeast -/
def b7 : AC :=
  .seq (.reg [⟨some 3, .box (.t 0), none⟩,
     ⟨some 6, .mv (.k (.sc (.bool false))), none⟩] [1, 2, 3])
  (.seq (.seq (.reg [⟨some 19, .call 11 [], none⟩,
       ⟨some 20, .un .not (.t 19), none⟩,
       ⟨some 21, .mv (.t 20), none⟩,
       ⟨some 22, .ld 2 true (.t 3), (some (21, false))⟩,
       ⟨some 23, .call 12 [(.t 22)], (some (21, false))⟩,
       ⟨some 24, .un .not (.t 23), (some (21, false))⟩,
       ⟨some 25, .pick (.t 21) (.k (.sc (.bool true))) (.t 24), none⟩,
       ⟨some 26, .mv (.t 25), none⟩,
       ⟨some 27, .ld 2 true (.t 3), (some (26, false))⟩,
       ⟨some 28, .call 13 [(.t 27)], (some (26, false))⟩,
       ⟨some 29, .un .not (.t 28), (some (26, false))⟩,
       ⟨some 30, .pick (.t 26) (.k (.sc (.bool true))) (.t 29), none⟩] [1, 2, 3, 30])
    (.cond (.t 30)
      (.seq (.reg [⟨some 31, .call 11 [], none⟩,
          ⟨some 6, .mv (.t 31), none⟩] [6])
       (.ret))
      (.skip)))
   (.seq (.reg [⟨some 33, .ld 2 true (.t 3), none⟩,
       ⟨some 34, .mv (.t 1), none⟩,
       ⟨some 35, .conv .i64 (.t 34), none⟩,
       ⟨some 36, .mv (.t 2), none⟩,
       ⟨some 37, .conv .i64 (.t 36), none⟩,
       ⟨some 38, .call 23 [(.t 33), (.t 35), (.t 37)], none⟩,
       ⟨some 32, .mv (.t 38), none⟩,
       ⟨some 39, .ext (.t 32) 0, none⟩,
       ⟨some 40, .ext (.t 32) 1, none⟩,
       ⟨some 7, .new [.nilS, .nilS], none⟩,
       ⟨none, .st 2 (.t 7) (.t 39), none⟩,
       ⟨some 8, .mv (.t 40), none⟩] [3, 7, 8])
    (.seq (.reg [⟨some 42, .ld 2 true (.t 3), none⟩,
        ⟨some 43, .call 24 [(.t 42)], none⟩,
        ⟨some 41, .mv (.t 43), none⟩,
        ⟨some 44, .ext (.t 41) 0, none⟩,
        ⟨some 45, .ext (.t 41) 1, none⟩,
        ⟨some 9, .new [.nilS, .nilS], none⟩,
        ⟨none, .st 2 (.t 9) (.t 44), none⟩,
        ⟨some 10, .mv (.t 45), none⟩] [3, 7, 8, 9, 10])
     (.seq (.reg [⟨some 47, .ld 2 true (.t 7), none⟩,
         ⟨some 48, .call 24 [(.t 47)], none⟩,
         ⟨some 46, .mv (.t 48), none⟩,
         ⟨some 49, .ext (.t 46) 0, none⟩,
         ⟨some 50, .ext (.t 46) 1, none⟩,
         ⟨some 11, .new [.nilS, .nilS], none⟩,
         ⟨none, .st 2 (.t 11) (.t 49), none⟩,
         ⟨some 12, .mv (.t 50), none⟩] [3, 8, 9, 10, 11, 12])
      (.seq (.reg [⟨some 52, .ld 2 true (.t 9), none⟩,
          ⟨some 53, .call 24 [(.t 52)], none⟩,
          ⟨some 51, .mv (.t 53), none⟩,
          ⟨some 54, .ext (.t 51) 0, none⟩,
          ⟨some 55, .ext (.t 51) 1, none⟩,
          ⟨some 13, .new [.nilS, .nilS], none⟩,
          ⟨none, .st 2 (.t 13) (.t 54), none⟩,
          ⟨some 14, .mv (.t 55), none⟩] [3, 8, 9, 10, 11, 12, 13, 14])
       (.seq (.seq (.reg [⟨some 56, .mv (.t 8), none⟩,
            ⟨some 57, .bin .neq (.t 56) (.k (.sc (.int .i64 0))), none⟩,
            ⟨some 58, .mv (.t 57), none⟩,
            ⟨some 59, .mv (.t 10), (some (58, false))⟩,
            ⟨some 60, .bin .neq (.t 59) (.k (.sc (.int .i64 0))), (some (58, false))⟩,
            ⟨some 61, .pick (.t 58) (.k (.sc (.bool true))) (.t 60), none⟩,
            ⟨some 62, .mv (.t 61), none⟩,
            ⟨some 63, .mv (.t 12), (some (62, false))⟩,
            ⟨some 64, .bin .neq (.t 63) (.k (.sc (.int .i64 0))), (some (62, false))⟩,
            ⟨some 65, .pick (.t 62) (.k (.sc (.bool true))) (.t 64), none⟩,
            ⟨some 66, .mv (.t 65), none⟩,
            ⟨some 67, .mv (.t 14), (some (66, false))⟩,
            ⟨some 68, .bin .neq (.t 67) (.k (.sc (.int .i64 0))), (some (66, false))⟩,
            ⟨some 69, .pick (.t 66) (.k (.sc (.bool true))) (.t 68), none⟩,
            ⟨some 70, .mv (.t 69), none⟩,
            ⟨some 71, .fldA 0 (.t 9), (some (70, false))⟩,
            ⟨some 72, .ld 1 false (.t 71), (some (70, false))⟩,
            ⟨some 73, .fldA 0 (.t 11), (some (70, false))⟩,
            ⟨some 74, .ld 1 false (.t 73), (some (70, false))⟩,
            ⟨some 75, .call 22 [(.t 72), (.t 74)], (some (70, false))⟩,
            ⟨some 76, .un .not (.t 75), (some (70, false))⟩,
            ⟨some 77, .pick (.t 70) (.k (.sc (.bool true))) (.t 76), none⟩,
            ⟨some 78, .mv (.t 77), none⟩,
            ⟨some 79, .fldA 1 (.t 9), (some (78, false))⟩,
            ⟨some 80, .ld 1 false (.t 79), (some (78, false))⟩,
            ⟨some 81, .fldA 1 (.t 11), (some (78, false))⟩,
            ⟨some 82, .ld 1 false (.t 81), (some (78, false))⟩,
            ⟨some 83, .call 22 [(.t 80), (.t 82)], (some (78, false))⟩,
            ⟨some 84, .un .not (.t 83), (some (78, false))⟩,
            ⟨some 85, .pick (.t 78) (.k (.sc (.bool true))) (.t 84), none⟩,
            ⟨some 86, .mv (.t 85), none⟩,
            ⟨some 87, .fldA 0 (.t 9), (some (86, false))⟩,
            ⟨some 88, .ld 1 false (.t 87), (some (86, false))⟩,
            ⟨some 89, .fldA 0 (.t 13), (some (86, false))⟩,
            ⟨some 90, .ld 1 false (.t 89), (some (86, false))⟩,
            ⟨some 91, .call 22 [(.t 88), (.t 90)], (some (86, false))⟩,
            ⟨some 92, .un .not (.t 91), (some (86, false))⟩,
            ⟨some 93, .pick (.t 86) (.k (.sc (.bool true))) (.t 92), none⟩,
            ⟨some 94, .mv (.t 93), none⟩,
            ⟨some 95, .fldA 1 (.t 9), (some (94, false))⟩,
            ⟨some 96, .ld 1 false (.t 95), (some (94, false))⟩,
            ⟨some 97, .fldA 1 (.t 13), (some (94, false))⟩,
            ⟨some 98, .ld 1 false (.t 97), (some (94, false))⟩,
            ⟨some 99, .call 22 [(.t 96), (.t 98)], (some (94, false))⟩,
            ⟨some 100, .un .not (.t 99), (some (94, false))⟩,
            ⟨some 101, .pick (.t 94) (.k (.sc (.bool true))) (.t 100), none⟩,
            ⟨some 102, .mv (.t 101), none⟩,
            ⟨some 103, .fldA 0 (.t 9), (some (102, false))⟩,
            ⟨some 104, .ld 1 false (.t 103), (some (102, false))⟩,
            ⟨some 105, .len false (.t 104), (some (102, false))⟩,
            ⟨some 106, .bin .eql (.t 105) (.k (.sc (.int .i64 0))), (some (102, false))⟩,
            ⟨some 107, .pick (.t 102) (.k (.sc (.bool true))) (.t 106), none⟩,
            ⟨some 108, .mv (.t 107), none⟩,
            ⟨some 109, .fldA 0 (.t 9), (some (108, false))⟩,
            ⟨some 110, .ld 1 false (.t 109), (some (108, false))⟩,
            ⟨some 111, .idxA 1 (.t 110) (.k (.sc (.int .i64 0))), (some (108, false))⟩,
            ⟨some 112, .ld 1 false (.t 111), (some (108, false))⟩,
            ⟨some 113, .bin .neq (.t 112) (.k (.sc (.int .i64 0))), (some (108, false))⟩,
            ⟨some 114, .pick (.t 108) (.k (.sc (.bool true))) (.t 113), none⟩] [3, 9, 114])
         (.cond (.t 114)
           (.seq (.reg [⟨some 6, .mv (.k (.sc (.bool false))), none⟩] [6])
            (.ret))
           (.skip)))
        (.seq (.seq (.reg [⟨some 115, .fldA 0 (.t 9), none⟩,
             ⟨some 116, .ld 1 false (.t 115), none⟩,
             ⟨some 117, .len false (.t 116), none⟩,
             ⟨some 118, .mv (.k (.sc (.int .i64 0))), none⟩] [3, 9, 117, 118])
          (.block 0 (.loop [3, 9, 117, 118] b7L0)))
         (.seq (.reg [⟨some 6, .mv (.k (.sc (.bool false))), none⟩] [6])
          (.ret)))))))))
def a7 : AFun := ⟨3, b7, [.t 6]⟩

/-- unravel/unravellaw42.GridTurns -/
def b8 : AC :=
  .seq (.reg [⟨some 3, .box (.t 0), none⟩,
     ⟨some 6, .mv (.k (.sc (.bool false))), none⟩] [1, 2, 3])
  (.seq (.seq (.reg [⟨some 13, .call 11 [], none⟩,
       ⟨some 14, .un .not (.t 13), none⟩,
       ⟨some 15, .mv (.t 14), none⟩,
       ⟨some 16, .ld 2 true (.t 3), (some (15, false))⟩,
       ⟨some 17, .call 12 [(.t 16)], (some (15, false))⟩,
       ⟨some 18, .un .not (.t 17), (some (15, false))⟩,
       ⟨some 19, .pick (.t 15) (.k (.sc (.bool true))) (.t 18), none⟩] [1, 2, 3, 19])
    (.cond (.t 19)
      (.seq (.reg [⟨some 20, .call 11 [], none⟩,
          ⟨some 6, .mv (.t 20), none⟩] [6])
       (.ret))
      (.skip)))
   (.seq (.reg [⟨some 22, .ld 2 true (.t 3), none⟩,
       ⟨some 23, .call 21 [(.t 22)], none⟩,
       ⟨some 21, .mv (.t 23), none⟩,
       ⟨some 24, .ext (.t 21) 0, none⟩,
       ⟨some 25, .ext (.t 21) 1, none⟩,
       ⟨some 7, .new [.nilS, .nilS], none⟩,
       ⟨none, .st 2 (.t 7) (.t 24), none⟩,
       ⟨some 8, .mv (.t 25), none⟩] [1, 2, 3, 7, 8])
    (.seq (.reg [⟨some 27, .ld 2 true (.t 3), none⟩,
        ⟨some 28, .mv (.t 1), none⟩,
        ⟨some 29, .mv (.t 2), none⟩,
        ⟨some 30, .call 23 [(.t 27), (.t 28), (.t 29)], none⟩,
        ⟨some 26, .mv (.t 30), none⟩,
        ⟨some 31, .ext (.t 26) 0, none⟩,
        ⟨some 32, .ext (.t 26) 1, none⟩,
        ⟨some 9, .new [.nilS, .nilS], none⟩,
        ⟨none, .st 2 (.t 9) (.t 31), none⟩,
        ⟨some 10, .mv (.t 32), none⟩] [1, 2, 3, 7, 8, 9, 10])
     (.seq (.reg [⟨some 34, .ld 2 true (.t 3), none⟩,
         ⟨some 35, .call 24 [(.t 34)], none⟩,
         ⟨some 33, .mv (.t 35), none⟩,
         ⟨some 36, .ext (.t 33) 0, none⟩,
         ⟨some 37, .ext (.t 33) 1, none⟩,
         ⟨some 11, .new [.nilS, .nilS], none⟩,
         ⟨none, .st 2 (.t 11) (.t 36), none⟩,
         ⟨some 12, .mv (.t 37), none⟩] [1, 2, 3, 7, 8, 9, 10, 11, 12])
      (.seq (.seq (.reg [⟨some 38, .ld 2 true (.t 3), none⟩,
           ⟨some 39, .call 14 [(.t 38)], none⟩,
           ⟨some 40, .un .not (.t 39), none⟩] [1, 2, 3, 7, 8, 9, 10, 11, 12, 40])
        (.cond (.t 40)
          (.seq (.reg [⟨some 41, .mv (.t 8), none⟩,
              ⟨some 42, .bin .eql (.t 41) (.k (.sc (.int .i64 1))), none⟩,
              ⟨some 43, .mv (.t 42), none⟩,
              ⟨some 44, .mv (.t 10), (some (43, true))⟩,
              ⟨some 45, .bin .eql (.t 44) (.k (.sc (.int .i64 1))), (some (43, true))⟩,
              ⟨some 46, .pick (.t 43) (.t 45) (.k (.sc (.bool false))), none⟩,
              ⟨some 47, .mv (.t 46), none⟩,
              ⟨some 48, .mv (.t 12), (some (47, true))⟩,
              ⟨some 49, .bin .eql (.t 48) (.k (.sc (.int .i64 1))), (some (47, true))⟩,
              ⟨some 50, .pick (.t 47) (.t 49) (.k (.sc (.bool false))), none⟩,
              ⟨some 51, .mv (.t 50), none⟩,
              ⟨some 52, .ld 2 true (.t 7), (some (51, true))⟩,
              ⟨some 53, .call 25 [(.t 52)], (some (51, true))⟩,
              ⟨some 54, .pick (.t 51) (.t 53) (.k (.sc (.bool false))), none⟩,
              ⟨some 55, .mv (.t 54), none⟩,
              ⟨some 56, .ld 2 true (.t 9), (some (55, true))⟩,
              ⟨some 57, .call 25 [(.t 56)], (some (55, true))⟩,
              ⟨some 58, .pick (.t 55) (.t 57) (.k (.sc (.bool false))), none⟩,
              ⟨some 59, .mv (.t 58), none⟩,
              ⟨some 60, .ld 2 true (.t 11), (some (59, true))⟩,
              ⟨some 61, .call 25 [(.t 60)], (some (59, true))⟩,
              ⟨some 62, .pick (.t 59) (.t 61) (.k (.sc (.bool false))), none⟩,
              ⟨some 6, .mv (.t 62), none⟩] [6])
           (.ret))
          (.skip)))
       (.seq (.regd [(⟨some 63, .mv (.t 8), none⟩, 0, false),
           (⟨some 64, .bin .eql (.t 63) (.k (.sc (.int .i64 0))), none⟩, 1, false),
           (⟨some 65, .mv (.t 64), none⟩, 2, false),
           (⟨some 66, .mv (.t 10), (some (65, true))⟩, 3, false),
           (⟨some 67, .bin .eql (.t 66) (.k (.sc (.int .i64 0))), (some (65, true))⟩, 4, false),
           (⟨some 68, .pick (.t 65) (.t 67) (.k (.sc (.bool false))), none⟩, 5, false),
           (⟨some 69, .mv (.t 68), none⟩, 6, false),
           (⟨some 70, .mv (.t 12), (some (69, true))⟩, 7, false),
           (⟨some 71, .bin .eql (.t 70) (.k (.sc (.int .i64 0))), (some (69, true))⟩, 8, false),
           (⟨some 72, .pick (.t 69) (.t 71) (.k (.sc (.bool false))), none⟩, 9, false),
           (⟨some 73, .mv (.t 72), none⟩, 10, false),
           (⟨some 74, .ld 2 true (.t 7), (some (73, true))⟩, 11, false),
           (⟨some 75, .ld 2 true (.t 3), (some (73, true))⟩, 12, false),
           (⟨some 76, .call 27 [(.t 75)], (some (73, true))⟩, 13, false),
           (⟨some 77, .call 26 [(.t 74), (.t 76)], (some (73, true))⟩, 14, true),
           (⟨some 78, .pick (.t 73) (.t 77) (.k (.sc (.bool false))), none⟩, 15, false),
           (⟨some 79, .mv (.t 78), none⟩, 16, false),
           (⟨some 80, .ld 2 true (.t 9), (some (79, true))⟩, 17, false),
           (⟨some 81, .ld 2 true (.t 3), (some (79, true))⟩, 18, false),
           (⟨some 82, .mv (.t 1), (some (79, true))⟩, 19, false),
           (⟨some 83, .mv (.t 2), (some (79, true))⟩, 20, false),
           (⟨some 84, .call 28 [(.t 81), (.t 82), (.t 83)], (some (79, true))⟩, 21, false),
           (⟨some 85, .call 26 [(.t 80), (.t 84)], (some (79, true))⟩, 22, true),
           (⟨some 86, .pick (.t 79) (.t 85) (.k (.sc (.bool false))), none⟩, 23, false),
           (⟨some 87, .mv (.t 86), none⟩, 24, false),
           (⟨some 88, .ld 2 true (.t 11), (some (87, true))⟩, 25, false),
           (⟨some 89, .ld 2 true (.t 3), (some (87, true))⟩, 26, false),
           (⟨some 90, .call 29 [(.t 89)], (some (87, true))⟩, 27, false),
           (⟨some 91, .call 26 [(.t 88), (.t 90)], (some (87, true))⟩, 28, true),
           (⟨some 92, .pick (.t 87) (.t 91) (.k (.sc (.bool false))), none⟩, 29, false),
           (⟨some 6, .mv (.t 92), none⟩, 30, false)] [6])
        (.ret)))))))
def a8 : AFun := ⟨3, b8, [.t 6]⟩

/-- unravel/unravellaw42.GridText -/
def b9 : AC :=
  .seq (.reg [⟨some 1, .box (.t 0), none⟩,
     ⟨some 2, .mv (.k (.sc (.bool false))), none⟩] [1])
  (.seq (.seq (.reg [⟨some 7, .call 11 [], none⟩,
       ⟨some 8, .un .not (.t 7), none⟩,
       ⟨some 9, .mv (.t 8), none⟩,
       ⟨some 10, .ld 2 true (.t 1), (some (9, false))⟩,
       ⟨some 11, .call 12 [(.t 10)], (some (9, false))⟩,
       ⟨some 12, .un .not (.t 11), (some (9, false))⟩,
       ⟨some 13, .pick (.t 9) (.k (.sc (.bool true))) (.t 12), none⟩] [1, 13])
    (.cond (.t 13)
      (.seq (.reg [⟨some 14, .call 11 [], none⟩,
          ⟨some 2, .mv (.t 14), none⟩] [2])
       (.ret))
      (.skip)))
   (.seq (.reg [⟨some 16, .ld 2 true (.t 1), none⟩,
       ⟨some 17, .call 30 [(.t 16)], none⟩,
       ⟨some 15, .mv (.t 17), none⟩,
       ⟨some 18, .ext (.t 15) 0, none⟩,
       ⟨some 19, .ext (.t 15) 1, none⟩,
       ⟨some 3, .mv (.t 18), none⟩,
       ⟨some 4, .mv (.t 19), none⟩] [1, 3, 4])
    (.seq (.seq (.reg [⟨some 20, .ld 2 true (.t 1), none⟩,
         ⟨some 21, .call 14 [(.t 20)], none⟩,
         ⟨some 22, .un .not (.t 21), none⟩] [1, 3, 4, 22])
      (.cond (.t 22)
        (.seq (.reg [⟨some 23, .mv (.t 4), none⟩,
            ⟨some 24, .bin .eql (.t 23) (.k (.sc (.int .i64 1))), none⟩,
            ⟨some 25, .mv (.t 24), none⟩,
            ⟨some 26, .mv (.t 3), (some (25, true))⟩,
            ⟨some 27, .bin .eql (.t 26) (.k (.sc (.str ⟨#[]⟩))), (some (25, true))⟩,
            ⟨some 28, .pick (.t 25) (.t 27) (.k (.sc (.bool false))), none⟩,
            ⟨some 2, .mv (.t 28), none⟩] [2])
         (.ret))
        (.skip)))
     (.seq (.reg [⟨some 30, .mv (.t 3), none⟩,
         ⟨some 31, .call 31 [(.t 30)], none⟩,
         ⟨some 29, .mv (.t 31), none⟩,
         ⟨some 32, .ext (.t 29) 0, none⟩,
         ⟨some 33, .ext (.t 29) 1, none⟩,
         ⟨some 5, .new [.nilS, .nilS], none⟩,
         ⟨none, .st 2 (.t 5) (.t 32), none⟩,
         ⟨some 6, .mv (.t 33), none⟩] [1, 3, 4, 5, 6])
      (.seq (.reg [⟨some 34, .mv (.t 4), none⟩,
          ⟨some 35, .bin .eql (.t 34) (.k (.sc (.int .i64 0))), none⟩,
          ⟨some 36, .mv (.t 35), none⟩,
          ⟨some 37, .mv (.t 3), (some (36, true))⟩,
          ⟨some 38, .ld 2 true (.t 1), (some (36, true))⟩,
          ⟨some 39, .call 32 [(.t 38)], (some (36, true))⟩,
          ⟨some 40, .bin .eql (.t 37) (.t 39), (some (36, true))⟩,
          ⟨some 41, .pick (.t 36) (.t 40) (.k (.sc (.bool false))), none⟩,
          ⟨some 42, .mv (.t 41), none⟩,
          ⟨some 43, .mv (.t 6), (some (42, true))⟩,
          ⟨some 44, .bin .eql (.t 43) (.k (.sc (.int .i64 0))), (some (42, true))⟩,
          ⟨some 45, .pick (.t 42) (.t 44) (.k (.sc (.bool false))), none⟩,
          ⟨some 46, .mv (.t 45), none⟩,
          ⟨some 47, .ld 2 true (.t 1), (some (46, true))⟩,
          ⟨some 48, .ld 2 true (.t 5), (some (46, true))⟩,
          ⟨some 49, .call 26 [(.t 47), (.t 48)], (some (46, true))⟩,
          ⟨some 50, .pick (.t 46) (.t 49) (.k (.sc (.bool false))), none⟩,
          ⟨some 2, .mv (.t 50), none⟩] [2])
       (.ret))))))
def a9 : AFun := ⟨1, b9, [.t 2]⟩

/-- unravel/unravellaw42.GridParses -/
def b10 : AC :=
  .seq (.reg [⟨some 2, .mv (.k (.sc (.bool false))), none⟩] [0])
  (.seq (.seq (.reg [⟨some 9, .call 11 [], none⟩,
       ⟨some 10, .un .not (.t 9), none⟩,
       ⟨some 11, .mv (.t 10), none⟩,
       ⟨some 12, .mv (.t 0), (some (11, false))⟩,
       ⟨some 13, .len true (.t 12), (some (11, false))⟩,
       ⟨some 14, .bin .gtr (.t 13) (.k (.sc (.int .i64 400))), (some (11, false))⟩,
       ⟨some 15, .pick (.t 11) (.k (.sc (.bool true))) (.t 14), none⟩] [0, 15])
    (.cond (.t 15)
      (.seq (.reg [⟨some 16, .call 11 [], none⟩,
          ⟨some 2, .mv (.t 16), none⟩] [2])
       (.ret))
      (.skip)))
   (.seq (.reg [⟨some 18, .mv (.t 0), none⟩,
       ⟨some 19, .call 31 [(.t 18)], none⟩,
       ⟨some 17, .mv (.t 19), none⟩,
       ⟨some 20, .ext (.t 17) 0, none⟩,
       ⟨some 21, .ext (.t 17) 1, none⟩,
       ⟨some 3, .new [.nilS, .nilS], none⟩,
       ⟨none, .st 2 (.t 3) (.t 20), none⟩,
       ⟨some 4, .mv (.t 21), none⟩] [0, 3, 4])
    (.seq (.reg [⟨some 23, .mv (.t 0), none⟩,
        ⟨some 24, .call 33 [(.t 23)], none⟩,
        ⟨some 22, .mv (.t 24), none⟩,
        ⟨some 25, .ext (.t 22) 0, none⟩,
        ⟨some 26, .ext (.t 22) 1, none⟩,
        ⟨some 5, .new [.nilS, .nilS], none⟩,
        ⟨none, .st 2 (.t 5) (.t 25), none⟩,
        ⟨some 6, .mv (.t 26), none⟩] [0, 3, 4, 5, 6])
     (.seq (.seq (.reg [⟨some 27, .mv (.t 4), none⟩,
          ⟨some 28, .mv (.t 6), none⟩,
          ⟨some 29, .bin .neq (.t 27) (.t 28), none⟩,
          ⟨some 30, .mv (.t 29), none⟩,
          ⟨some 31, .ld 2 true (.t 3), (some (30, false))⟩,
          ⟨some 32, .ld 2 true (.t 5), (some (30, false))⟩,
          ⟨some 33, .call 26 [(.t 31), (.t 32)], (some (30, false))⟩,
          ⟨some 34, .un .not (.t 33), (some (30, false))⟩,
          ⟨some 35, .pick (.t 30) (.k (.sc (.bool true))) (.t 34), none⟩] [0, 3, 4, 35])
       (.cond (.t 35)
         (.seq (.reg [⟨some 2, .mv (.k (.sc (.bool false))), none⟩] [2])
          (.ret))
         (.skip)))
      (.seq (.reg [⟨some 37, .ld 2 true (.t 3), none⟩,
          ⟨some 38, .call 30 [(.t 37)], none⟩,
          ⟨some 36, .mv (.t 38), none⟩,
          ⟨some 39, .ext (.t 36) 0, none⟩,
          ⟨some 40, .ext (.t 36) 1, none⟩,
          ⟨some 7, .mv (.t 39), none⟩,
          ⟨some 8, .mv (.t 40), none⟩] [0, 4, 7, 8])
       (.seq (.reg [⟨some 41, .mv (.t 4), none⟩,
           ⟨some 42, .bin .neq (.t 41) (.k (.sc (.int .i64 0))), none⟩,
           ⟨some 43, .mv (.t 42), none⟩,
           ⟨some 44, .mv (.t 8), (some (43, false))⟩,
           ⟨some 45, .bin .eql (.t 44) (.k (.sc (.int .i64 0))), (some (43, false))⟩,
           ⟨some 46, .mv (.t 45), (some (43, false))⟩,
           ⟨some 47, .mv (.t 7), (some (46, true))⟩,
           ⟨some 48, .mv (.t 0), (some (46, true))⟩,
           ⟨some 49, .bin .eql (.t 47) (.t 48), (some (46, true))⟩,
           ⟨some 50, .pick (.t 46) (.t 49) (.k (.sc (.bool false))), (some (43, false))⟩,
           ⟨some 51, .pick (.t 43) (.k (.sc (.bool true))) (.t 50), none⟩,
           ⟨some 2, .mv (.t 51), none⟩] [2])
        (.ret)))))))
def a10 : AFun := ⟨1, b10, [.t 2]⟩

/-- unravel/unravellaw42.awake -/
def b11 : AC :=
  .seq (.reg [⟨some 0, .mv (.k (.sc (.bool false))), none⟩] [])
  (.seq (.reg [⟨some 5, .bsl 1 [.int .i64 0] 2 [(0, .k (.sc (.int .i64 0))), (1, .k (.sc (.int .i64 1)))], none⟩,
      ⟨some 6, .bsl 1 [.int .i64 0] 2 [(0, .k (.sc (.int .i64 1))), (1, .k (.sc (.int .i64 0)))], none⟩,
      ⟨some 7, .bld [.nilS, .nilS] [(0, 1, .t 5), (1, 1, .t 6)], none⟩,
      ⟨some 1, .new [.nilS, .nilS], none⟩,
      ⟨none, .st 2 (.t 1) (.t 7), none⟩] [1])
   (.seq (.reg [⟨some 8, .bsl 1 [.int .i64 0] 5 [(0, .k (.sc (.int .i64 0))), (1, .k (.sc (.int .i64 1))), (2, .k (.sc (.int .i64 2))), (3, .k (.sc (.int .i64 3))), (4, .k (.sc (.int .i64 4)))], none⟩,
       ⟨some 9, .bsl 1 [.int .i64 0] 5 [(0, .k (.sc (.int .i64 2))), (1, .k (.sc (.int .i64 3))), (2, .k (.sc (.int .i64 4))), (3, .k (.sc (.int .i64 0))), (4, .k (.sc (.int .i64 1)))], none⟩,
       ⟨some 10, .bld [.nilS, .nilS] [(0, 1, .t 8), (1, 1, .t 9)], none⟩,
       ⟨some 2, .new [.nilS, .nilS], none⟩,
       ⟨none, .st 2 (.t 2) (.t 10), none⟩] [1, 2])
    (.seq (.reg [⟨some 12, .ld 2 true (.t 2), none⟩,
        ⟨some 13, .call 30 [(.t 12)], none⟩,
        ⟨some 11, .mv (.t 13), none⟩,
        ⟨some 14, .ext (.t 11) 0, none⟩,
        ⟨some 15, .ext (.t 11) 1, none⟩,
        ⟨some 3, .mv (.t 14), none⟩,
        ⟨some 4, .mv (.t 15), none⟩] [1, 2, 3, 4])
     (.seq (.reg [⟨some 16, .ld 2 true (.t 1), none⟩,
         ⟨some 17, .call 15 [(.t 16)], none⟩,
         ⟨some 18, .bin .eql (.t 17) (.k (.sc (.int .i64 1))), none⟩,
         ⟨some 19, .mv (.t 18), none⟩,
         ⟨some 20, .ld 2 true (.t 1), (some (19, true))⟩,
         ⟨some 21, .call 16 [(.t 20)], (some (19, true))⟩,
         ⟨some 22, .len false (.t 21), (some (19, true))⟩,
         ⟨some 23, .bin .eql (.t 22) (.k (.sc (.int .i64 0))), (some (19, true))⟩,
         ⟨some 24, .pick (.t 19) (.t 23) (.k (.sc (.bool false))), none⟩,
         ⟨some 25, .mv (.t 24), none⟩,
         ⟨some 26, .ld 2 true (.t 2), (some (25, true))⟩,
         ⟨some 27, .call 16 [(.t 26)], (some (25, true))⟩,
         ⟨some 28, .bld [.int .i64 0, .int .i64 0] [(0, 1, .k (.sc (.int .i64 1))), (1, 1, .k (.sc (.int .i64 2)))], (some (25, true))⟩,
         ⟨some 29, .bld [.int .i64 0, .int .i64 0] [(0, 1, .k (.sc (.int .i64 2))), (1, 1, .k (.sc (.int .i64 3)))], (some (25, true))⟩,
         ⟨some 30, .bld [.int .i64 0, .int .i64 0] [(0, 1, .k (.sc (.int .i64 3))), (1, 1, .k (.sc (.int .i64 1)))], (some (25, true))⟩,
         ⟨some 31, .bsl 2 [.int .i64 0, .int .i64 0] 3 [(0, .t 28), (1, .t 29), (2, .t 30)], (some (25, true))⟩,
         ⟨some 32, .call 18 [(.t 27), (.t 31)], (some (25, true))⟩,
         ⟨some 33, .pick (.t 25) (.t 32) (.k (.sc (.bool false))), none⟩,
         ⟨some 34, .mv (.t 33), none⟩,
         ⟨some 35, .mv (.t 4), (some (34, true))⟩,
         ⟨some 36, .bin .eql (.t 35) (.k (.sc (.int .i64 0))), (some (34, true))⟩,
         ⟨some 37, .pick (.t 34) (.t 36) (.k (.sc (.bool false))), none⟩,
         ⟨some 38, .mv (.t 37), none⟩,
         ⟨some 39, .mv (.t 3), (some (38, true))⟩,
         ⟨some 40, .bin .eql (.t 39) (.k (.sc (.str ⟨#[48, 32, 49, 32, 50, 32, 51, 32, 52, 32, 47, 32, 50, 32, 51, 32, 52, 32, 48, 32, 49]⟩))), (some (38, true))⟩,
         ⟨some 41, .pick (.t 38) (.t 40) (.k (.sc (.bool false))), none⟩,
         ⟨some 0, .mv (.t 41), none⟩] [0])
      (.ret)))))
def a11 : AFun := ⟨0, b11, [.t 0]⟩

/-- unravel/unravellaw42.few -/
def b12 : AC :=
  .seq (.reg [⟨some 1, .box (.t 0), none⟩,
     ⟨some 2, .mv (.k (.sc (.bool false))), none⟩] [1])
  (.seq (.reg [⟨some 3, .fldA 0 (.t 1), none⟩,
      ⟨some 4, .ld 1 false (.t 3), none⟩,
      ⟨some 5, .len false (.t 4), none⟩,
      ⟨some 6, .bin .leq (.t 5) (.k (.sc (.int .i64 16))), none⟩,
      ⟨some 7, .mv (.t 6), none⟩,
      ⟨some 8, .fldA 1 (.t 1), (some (7, true))⟩,
      ⟨some 9, .ld 1 false (.t 8), (some (7, true))⟩,
      ⟨some 10, .len false (.t 9), (some (7, true))⟩,
      ⟨some 11, .bin .leq (.t 10) (.k (.sc (.int .i64 32))), (some (7, true))⟩,
      ⟨some 12, .pick (.t 7) (.t 11) (.k (.sc (.bool false))), none⟩,
      ⟨some 2, .mv (.t 12), none⟩] [2])
   (.ret))
def a12 : AFun := ⟨1, b12, [.t 2]⟩

def b13L0 : AC :=
  .seq (.reg [⟨some 23, .bin .lss (.t 22) (.t 21), none⟩] [1, 21, 22, 23])
  (.seq (.cond (.t 23)
     (.skip)
     (.exit 0))
   (.seq (.block 1 (.seq (.reg [⟨some 24, .mv (.t 22), none⟩,
         ⟨some 4, .mv (.t 24), none⟩] [1, 4, 21, 22])
      (.seq (.regd [(⟨some 25, .fldA 0 (.t 1), none⟩, 0, false),
          (⟨some 26, .ld 1 false (.t 25), none⟩, 1, false),
          (⟨some 27, .mv (.t 4), none⟩, 2, false),
          (⟨some 28, .idxA 1 (.t 26) (.t 27), none⟩, 3, false),
          (⟨some 29, .ld 1 false (.t 28), none⟩, 4, false),
          (⟨some 30, .fldA 1 (.t 1), none⟩, 5, false),
          (⟨some 31, .ld 1 false (.t 30), none⟩, 6, false),
          (⟨some 32, .mv (.t 4), none⟩, 7, false),
          (⟨some 33, .idxA 1 (.t 31) (.t 32), none⟩, 8, false),
          (⟨some 34, .ld 1 false (.t 33), none⟩, 9, false),
          (⟨some 35, .bin .eql (.t 29) (.t 34), none⟩, 10, false)] [1, 21, 22, 35])
       (.cond (.t 35)
         (.seq (.reg [⟨some 2, .mv (.k (.sc (.bool false))), none⟩] [2])
          (.ret))
         (.skip)))))
    (.reg [⟨some 36, .bin .add (.t 22) (.k (.sc (.int .i64 1))), none⟩,
       ⟨some 22, .mv (.t 36), none⟩] [1, 21, 22])))
/-- unravel/grid.Valid -/
def b13 : AC :=
  .seq (.reg [⟨some 1, .box (.t 0), none⟩,
     ⟨some 2, .mv (.k (.sc (.bool false))), none⟩] [1])
  (.seq (.reg [⟨some 5, .fldA 0 (.t 1), none⟩,
      ⟨some 6, .ld 1 false (.t 5), none⟩,
      ⟨some 7, .len false (.t 6), none⟩,
      ⟨some 3, .mv (.t 7), none⟩] [1, 3])
   (.seq (.seq (.reg [⟨some 8, .mv (.t 3), none⟩,
        ⟨some 9, .bin .lss (.t 8) (.k (.sc (.int .i64 2))), none⟩,
        ⟨some 10, .mv (.t 9), none⟩,
        ⟨some 11, .mv (.t 3), (some (10, false))⟩,
        ⟨some 12, .bin .gtr (.t 11) (.k (.sc (.int .i64 40))), (some (10, false))⟩,
        ⟨some 13, .pick (.t 10) (.k (.sc (.bool true))) (.t 12), none⟩,
        ⟨some 14, .mv (.t 13), none⟩,
        ⟨some 15, .fldA 1 (.t 1), (some (14, false))⟩,
        ⟨some 16, .ld 1 false (.t 15), (some (14, false))⟩,
        ⟨some 17, .len false (.t 16), (some (14, false))⟩,
        ⟨some 18, .mv (.t 3), (some (14, false))⟩,
        ⟨some 19, .bin .neq (.t 17) (.t 18), (some (14, false))⟩,
        ⟨some 20, .pick (.t 14) (.k (.sc (.bool true))) (.t 19), none⟩] [1, 3, 20])
     (.cond (.t 20)
       (.seq (.reg [⟨some 2, .mv (.k (.sc (.bool false))), none⟩] [2])
        (.ret))
       (.skip)))
    (.seq (.seq (.reg [⟨some 21, .mv (.t 3), none⟩,
         ⟨some 22, .mv (.k (.sc (.int .i64 0))), none⟩] [1, 21, 22])
      (.block 0 (.loop [1, 21, 22] b13L0)))
     (.seq (.reg [⟨some 37, .fldA 0 (.t 1), none⟩,
         ⟨some 38, .ld 1 false (.t 37), none⟩,
         ⟨some 39, .call 34 [(.t 38)], none⟩,
         ⟨some 40, .mv (.t 39), none⟩,
         ⟨some 41, .fldA 1 (.t 1), (some (40, true))⟩,
         ⟨some 42, .ld 1 false (.t 41), (some (40, true))⟩,
         ⟨some 43, .call 34 [(.t 42)], (some (40, true))⟩,
         ⟨some 44, .pick (.t 40) (.t 43) (.k (.sc (.bool false))), none⟩,
         ⟨some 2, .mv (.t 44), none⟩] [2])
      (.ret)))))
def a13 : AFun := ⟨1, b13, [.t 2]⟩

def b14L0 : AC :=
  .seq (.seq (.reg [⟨some 28, .mv (.t 4), none⟩,
      ⟨some 29, .mv (.t 3), none⟩,
      ⟨some 30, .bin .lss (.t 28) (.t 29), none⟩] [1, 3, 4, 30])
   (.cond (.t 30)
     (.skip)
     (.exit 0)))
  (.seq (.block 1 (.seq (.regd [(⟨some 33, .fldA 0 (.t 1), none⟩, 0, false),
        (⟨some 34, .ld 1 false (.t 33), none⟩, 1, false),
        (⟨some 35, .mv (.t 4), none⟩, 2, false),
        (⟨some 36, .idxA 1 (.t 34) (.t 35), none⟩, 3, false),
        (⟨some 37, .ld 1 false (.t 36), none⟩, 4, false),
        (⟨some 38, .fldA 1 (.t 1), none⟩, 5, false),
        (⟨some 39, .ld 1 false (.t 38), none⟩, 6, false),
        (⟨some 40, .mv (.t 4), none⟩, 7, false),
        (⟨some 41, .idxA 1 (.t 39) (.t 40), none⟩, 8, false),
        (⟨some 42, .ld 1 false (.t 41), none⟩, 9, false),
        (⟨some 43, .bin .eql (.t 37) (.t 42), none⟩, 10, false)] [1, 3, 4, 43])
     (.cond (.t 43)
       (.seq (.reg [⟨some 2, .mv (.k (.sc (.bool false))), none⟩] [2])
        (.ret))
       (.skip))))
   (.reg [⟨some 31, .mv (.t 4), none⟩,
      ⟨some 32, .bin .add (.t 31) (.k (.sc (.int .i64 1))), none⟩,
      ⟨some 4, .mv (.t 32), none⟩] [1, 3, 4]))
/-- unravel/unravelref42.Valid -/
def b14 : AC :=
  .seq (.reg [⟨some 1, .box (.t 0), none⟩,
     ⟨some 2, .mv (.k (.sc (.bool false))), none⟩] [1])
  (.seq (.reg [⟨some 5, .fldA 0 (.t 1), none⟩,
      ⟨some 6, .ld 1 false (.t 5), none⟩,
      ⟨some 7, .len false (.t 6), none⟩,
      ⟨some 3, .mv (.t 7), none⟩] [1, 3])
   (.seq (.seq (.reg [⟨some 8, .mv (.t 3), none⟩,
        ⟨some 9, .bin .lss (.t 8) (.k (.sc (.int .i64 2))), none⟩,
        ⟨some 10, .mv (.t 9), none⟩,
        ⟨some 11, .mv (.t 3), (some (10, false))⟩,
        ⟨some 12, .bin .gtr (.t 11) (.k (.sc (.int .i64 40))), (some (10, false))⟩,
        ⟨some 13, .pick (.t 10) (.k (.sc (.bool true))) (.t 12), none⟩,
        ⟨some 14, .mv (.t 13), none⟩,
        ⟨some 15, .fldA 0 (.t 1), (some (14, false))⟩,
        ⟨some 16, .ld 1 false (.t 15), (some (14, false))⟩,
        ⟨some 17, .mv (.t 3), (some (14, false))⟩,
        ⟨some 18, .call 35 [(.t 16), (.t 17)], (some (14, false))⟩,
        ⟨some 19, .un .not (.t 18), (some (14, false))⟩,
        ⟨some 20, .pick (.t 14) (.k (.sc (.bool true))) (.t 19), none⟩,
        ⟨some 21, .mv (.t 20), none⟩,
        ⟨some 22, .fldA 1 (.t 1), (some (21, false))⟩,
        ⟨some 23, .ld 1 false (.t 22), (some (21, false))⟩,
        ⟨some 24, .mv (.t 3), (some (21, false))⟩,
        ⟨some 25, .call 35 [(.t 23), (.t 24)], (some (21, false))⟩,
        ⟨some 26, .un .not (.t 25), (some (21, false))⟩,
        ⟨some 27, .pick (.t 21) (.k (.sc (.bool true))) (.t 26), none⟩] [1, 3, 27])
     (.cond (.t 27)
       (.seq (.reg [⟨some 2, .mv (.k (.sc (.bool false))), none⟩] [2])
        (.ret))
       (.skip)))
    (.seq (.seq (.reg [⟨some 4, .mv (.k (.sc (.int .i64 0))), none⟩] [1, 3, 4])
      (.block 0 (.loop [1, 3, 4] b14L0)))
     (.seq (.reg [⟨some 2, .mv (.k (.sc (.bool true))), none⟩] [2])
      (.ret)))))
def a14 : AFun := ⟨1, b14, [.t 2]⟩

def b15L1 : AC :=
  .seq (.seq (.reg [⟨some 29, .mv (.t 4), none⟩,
      ⟨some 30, .mv (.t 6), none⟩,
      ⟨some 31, .idxA 1 (.t 29) (.t 30), none⟩,
      ⟨some 32, .ld 1 false (.t 31), none⟩,
      ⟨some 33, .un .not (.t 32), none⟩] [1, 3, 4, 5, 6, 19, 20, 33])
   (.cond (.t 33)
     (.skip)
     (.exit 2)))
  (.block 3 (.seq (.reg [⟨some 34, .mv (.t 4), none⟩,
       ⟨some 35, .mv (.t 6), none⟩,
       ⟨some 36, .idxA 1 (.t 34) (.t 35), none⟩,
       ⟨none, .st 1 (.t 36) (.k (.sc (.bool true))), none⟩] [1, 3, 4, 5, 6, 19, 20])
    (.reg [⟨some 37, .mv (.t 3), none⟩,
       ⟨some 38, .fldA 1 (.t 1), none⟩,
       ⟨some 39, .ld 1 false (.t 38), none⟩,
       ⟨some 40, .mv (.t 6), none⟩,
       ⟨some 41, .idxA 1 (.t 39) (.t 40), none⟩,
       ⟨some 42, .ld 1 false (.t 41), none⟩,
       ⟨some 43, .callv (.t 37) [(.t 42)], none⟩,
       ⟨some 6, .mv (.t 43), none⟩] [1, 3, 4, 5, 6, 19, 20])))
def b15L0 : AC :=
  .seq (.reg [⟨some 21, .bin .lss (.t 20) (.t 19), none⟩] [1, 3, 4, 5, 19, 20, 21])
  (.seq (.cond (.t 21)
     (.skip)
     (.exit 0))
   (.seq (.block 1 (.seq (.reg [⟨some 22, .mv (.t 20), none⟩,
         ⟨some 6, .mv (.t 22), none⟩] [1, 3, 4, 5, 6, 19, 20])
      (.seq (.seq (.reg [⟨some 23, .mv (.t 4), none⟩,
           ⟨some 24, .mv (.t 6), none⟩,
           ⟨some 25, .idxA 1 (.t 23) (.t 24), none⟩,
           ⟨some 26, .ld 1 false (.t 25), none⟩] [1, 3, 4, 5, 6, 19, 20, 26])
        (.cond (.t 26)
          (.exit 1)
          (.skip)))
       (.seq (.reg [⟨some 27, .mv (.t 5), none⟩,
           ⟨some 28, .bin .add (.t 27) (.k (.sc (.int .i64 1))), none⟩,
           ⟨some 5, .mv (.t 28), none⟩] [1, 3, 4, 5, 6, 19, 20])
        (.block 2 (.loop [1, 3, 4, 5, 6, 19, 20] b15L1))))))
    (.reg [⟨some 44, .bin .add (.t 20) (.k (.sc (.int .i64 1))), none⟩,
       ⟨some 20, .mv (.t 44), none⟩] [1, 3, 4, 5, 19, 20])))
/-- unravel/grid.Components -/
def b15 : AC :=
  .seq (.reg [⟨some 1, .box (.t 0), none⟩,
     ⟨some 2, .mv (.k (.sc (.int .i64 0))), none⟩] [1])
  (.seq (.seq (.reg [⟨some 7, .ld 2 true (.t 1), none⟩,
       ⟨some 8, .call 13 [(.t 7)], none⟩,
       ⟨some 9, .un .not (.t 8), none⟩] [1, 9])
    (.cond (.t 9)
      (.seq (.reg [⟨some 2, .mv (.k (.sc (.int .i64 0))), none⟩] [2])
       (.ret))
      (.skip)))
   (.seq (.reg [⟨some 10, .fldA 0 (.t 1), none⟩,
       ⟨some 11, .ld 1 false (.t 10), none⟩,
       ⟨some 12, .call 36 [(.t 11)], none⟩,
       ⟨some 3, .mv (.t 12), none⟩] [1, 3])
    (.seq (.reg [⟨some 13, .fldA 0 (.t 1), none⟩,
        ⟨some 14, .ld 1 false (.t 13), none⟩,
        ⟨some 15, .len false (.t 14), none⟩,
        ⟨some 16, .mk 1 1 [.bool false] (.t 15) (.t 15), none⟩,
        ⟨some 4, .mv (.t 16), none⟩] [1, 3, 4])
     (.seq (.reg [⟨some 5, .mv (.k (.sc (.int .i64 0))), none⟩] [1, 3, 4, 5])
      (.seq (.seq (.reg [⟨some 17, .fldA 0 (.t 1), none⟩,
           ⟨some 18, .ld 1 false (.t 17), none⟩,
           ⟨some 19, .len false (.t 18), none⟩,
           ⟨some 20, .mv (.k (.sc (.int .i64 0))), none⟩] [1, 3, 4, 5, 19, 20])
        (.block 0 (.loop [1, 3, 4, 5, 19, 20] b15L0)))
       (.seq (.reg [⟨some 45, .mv (.t 5), none⟩,
           ⟨some 2, .mv (.t 45), none⟩] [2])
        (.ret)))))))
def a15 : AFun := ⟨1, b15, [.t 2]⟩

def b16L1 : AC :=
  .seq (.seq (.regd [(⟨some 37, .mv (.t 7), none⟩, 0, false),
      (⟨some 38, .fldA 0 (.t 1), none⟩, 1, false),
      (⟨some 39, .ld 1 false (.t 38), none⟩, 2, false),
      (⟨some 40, .mv (.t 6), none⟩, 3, false),
      (⟨some 41, .idxA 1 (.t 39) (.t 40), none⟩, 4, false),
      (⟨some 42, .ld 1 false (.t 41), none⟩, 5, false),
      (⟨some 43, .fldA 1 (.t 1), none⟩, 6, false),
      (⟨some 44, .ld 1 false (.t 43), none⟩, 7, false),
      (⟨some 45, .mv (.t 6), none⟩, 8, false),
      (⟨some 46, .idxA 1 (.t 44) (.t 45), none⟩, 9, false),
      (⟨some 47, .ld 1 false (.t 46), none⟩, 10, false),
      (⟨some 48, .mm true (.t 42) [(.t 47)], none⟩, 11, false),
      (⟨some 49, .bin .lss (.t 37) (.t 48), none⟩, 12, false)] [1, 3, 4, 5, 6, 7, 21, 22, 49])
   (.cond (.t 49)
     (.skip)
     (.exit 2)))
  (.seq (.block 3 (.seq (.reg [⟨some 52, .mv (.t 3), none⟩,
        ⟨some 53, .mv (.t 7), none⟩,
        ⟨some 54, .callv (.t 52) [(.t 53)], none⟩,
        ⟨some 55, .mv (.t 4), none⟩,
        ⟨some 56, .mv (.t 7), none⟩,
        ⟨some 57, .callv (.t 55) [(.t 56)], none⟩,
        ⟨some 8, .mv (.t 54), none⟩,
        ⟨some 9, .mv (.t 57), none⟩] [1, 3, 4, 5, 6, 7, 8, 9, 21, 22])
     (.seq (.reg [⟨some 58, .mv (.t 8), none⟩,
         ⟨some 59, .mv (.t 9), none⟩,
         ⟨some 60, .mm false (.t 58) [(.t 59)], none⟩,
         ⟨some 61, .mv (.t 6), none⟩,
         ⟨some 62, .bin .lss (.t 60) (.t 61), none⟩,
         ⟨some 63, .mv (.t 62), none⟩,
         ⟨some 64, .mv (.t 6), (some (63, true))⟩,
         ⟨some 65, .mv (.t 8), (some (63, true))⟩,
         ⟨some 66, .mv (.t 9), (some (63, true))⟩,
         ⟨some 67, .mm true (.t 65) [(.t 66)], (some (63, true))⟩,
         ⟨some 68, .bin .lss (.t 64) (.t 67), (some (63, true))⟩,
         ⟨some 69, .pick (.t 63) (.t 68) (.k (.sc (.bool false))), none⟩] [1, 3, 4, 5, 6, 7, 21, 22, 69])
      (.cond (.t 69)
        (.reg [⟨some 70, .mv (.t 5), none⟩,
           ⟨some 71, .mv (.t 6), none⟩,
           ⟨some 72, .mv (.t 7), none⟩,
           ⟨some 73, .bld [.int .i64 0, .int .i64 0] [(0, 1, .t 71), (1, 1, .t 72)], none⟩,
           ⟨some 74, .bsl 2 [.int .i64 0, .int .i64 0] 1 [(0, .t 73)], none⟩,
           ⟨some 75, .app 2 16 [.int .i64 0, .int .i64 0] (.t 70) (.t 74), none⟩,
           ⟨some 5, .mv (.t 75), none⟩] [1, 3, 4, 5, 6, 7, 21, 22])
        (.skip)))))
   (.reg [⟨some 50, .mv (.t 7), none⟩,
      ⟨some 51, .bin .add (.t 50) (.k (.sc (.int .i64 1))), none⟩,
      ⟨some 7, .mv (.t 51), none⟩] [1, 3, 4, 5, 6, 7, 21, 22]))
def b16L0 : AC :=
  .seq (.reg [⟨some 23, .bin .lss (.t 22) (.t 21), none⟩] [1, 3, 4, 5, 21, 22, 23])
  (.seq (.cond (.t 23)
     (.skip)
     (.exit 0))
   (.seq (.block 1 (.seq (.reg [⟨some 24, .mv (.t 22), none⟩,
         ⟨some 6, .mv (.t 24), none⟩] [1, 3, 4, 5, 6, 21, 22])
      (.seq (.regd [(⟨some 25, .fldA 0 (.t 1), none⟩, 0, false),
          (⟨some 26, .ld 1 false (.t 25), none⟩, 1, false),
          (⟨some 27, .mv (.t 6), none⟩, 2, false),
          (⟨some 28, .idxA 1 (.t 26) (.t 27), none⟩, 3, false),
          (⟨some 29, .ld 1 false (.t 28), none⟩, 4, false),
          (⟨some 30, .fldA 1 (.t 1), none⟩, 5, false),
          (⟨some 31, .ld 1 false (.t 30), none⟩, 6, false),
          (⟨some 32, .mv (.t 6), none⟩, 7, false),
          (⟨some 33, .idxA 1 (.t 31) (.t 32), none⟩, 8, false),
          (⟨some 34, .ld 1 false (.t 33), none⟩, 9, false),
          (⟨some 35, .mm false (.t 29) [(.t 34)], none⟩, 10, false),
          (⟨some 36, .bin .add (.t 35) (.k (.sc (.int .i64 1))), none⟩, 11, false),
          (⟨some 7, .mv (.t 36), none⟩, 12, false)] [1, 3, 4, 5, 6, 7, 21, 22])
       (.block 2 (.loop [1, 3, 4, 5, 6, 7, 21, 22] b16L1)))))
    (.reg [⟨some 76, .bin .add (.t 22) (.k (.sc (.int .i64 1))), none⟩,
       ⟨some 22, .mv (.t 76), none⟩] [1, 3, 4, 5, 21, 22])))
/-- unravel/grid.Crossings -/
def b16 : AC :=
  .seq (.reg [⟨some 1, .box (.t 0), none⟩,
     ⟨some 2, .mv (.k (.sc .nilS)), none⟩] [1])
  (.seq (.seq (.reg [⟨some 10, .ld 2 true (.t 1), none⟩,
       ⟨some 11, .call 13 [(.t 10)], none⟩,
       ⟨some 12, .un .not (.t 11), none⟩] [1, 12])
    (.cond (.t 12)
      (.seq (.reg [⟨some 2, .mv (.k (.sc .nilS)), none⟩] [2])
       (.ret))
      (.skip)))
   (.seq (.regd [(⟨some 13, .fldA 0 (.t 1), none⟩, 0, false),
       (⟨some 14, .ld 1 false (.t 13), none⟩, 1, false),
       (⟨some 15, .call 36 [(.t 14)], none⟩, 2, false),
       (⟨some 16, .fldA 1 (.t 1), none⟩, 3, false),
       (⟨some 17, .ld 1 false (.t 16), none⟩, 4, false),
       (⟨some 18, .call 36 [(.t 17)], none⟩, 5, true),
       (⟨some 3, .mv (.t 15), none⟩, 6, false),
       (⟨some 4, .mv (.t 18), none⟩, 7, false)] [1, 3, 4])
    (.seq (.reg [⟨some 5, .mv (.k (.sc .nilS)), none⟩] [1, 3, 4, 5])
     (.seq (.seq (.reg [⟨some 19, .fldA 0 (.t 1), none⟩,
          ⟨some 20, .ld 1 false (.t 19), none⟩,
          ⟨some 21, .len false (.t 20), none⟩,
          ⟨some 22, .mv (.k (.sc (.int .i64 0))), none⟩] [1, 3, 4, 5, 21, 22])
       (.block 0 (.loop [1, 3, 4, 5, 21, 22] b16L0)))
      (.seq (.reg [⟨some 77, .mv (.t 5), none⟩,
          ⟨some 2, .mv (.t 77), none⟩] [2])
       (.ret))))))
def a16 : AFun := ⟨1, b16, [.t 2]⟩

def b17L0 : AC :=
  .seq (.seq (.reg [⟨some 15, .mv (.t 4), none⟩,
      ⟨some 16, .mv (.t 3), none⟩,
      ⟨some 17, .len false (.t 16), none⟩,
      ⟨some 18, .bin .lss (.t 15) (.t 17), none⟩] [1, 3, 4, 18])
   (.cond (.t 18)
     (.skip)
     (.exit 0)))
  (.seq (.block 1 (.reg [⟨some 21, .mv (.t 3), none⟩,
       ⟨some 22, .mv (.t 4), none⟩,
       ⟨some 23, .mv (.t 4), none⟩,
       ⟨some 24, .idxA 1 (.t 21) (.t 22), none⟩,
       ⟨none, .st 1 (.t 24) (.t 23), none⟩] [1, 3, 4]))
   (.reg [⟨some 19, .mv (.t 4), none⟩,
      ⟨some 20, .bin .add (.t 19) (.k (.sc (.int .i64 1))), none⟩,
      ⟨some 4, .mv (.t 20), none⟩] [1, 3, 4]))
def b17L2 : AC :=
  .seq (.seq (.reg [⟨some 31, .mv (.t 6), none⟩,
      ⟨some 32, .mv (.t 3), none⟩,
      ⟨some 33, .len false (.t 32), none⟩,
      ⟨some 34, .bin .lss (.t 31) (.t 33), none⟩] [1, 3, 5, 6, 34])
   (.cond (.t 34)
     (.skip)
     (.exit 4)))
  (.seq (.block 5 (.seq (.regd [(⟨some 37, .fldA 0 (.t 1), none⟩, 0, false),
        (⟨some 38, .ld 1 false (.t 37), none⟩, 1, false),
        (⟨some 39, .fldA 1 (.t 1), none⟩, 2, false),
        (⟨some 40, .ld 1 false (.t 39), none⟩, 3, false),
        (⟨some 41, .mv (.t 6), none⟩, 4, false),
        (⟨some 42, .idxA 1 (.t 40) (.t 41), none⟩, 5, false),
        (⟨some 43, .ld 1 false (.t 42), none⟩, 6, false),
        (⟨some 44, .call 37 [(.t 38), (.t 43)], none⟩, 7, true),
        (⟨some 7, .mv (.t 44), none⟩, 8, false)] [1, 3, 5, 6, 7])
     (.seq (.regd [(⟨some 45, .mv (.t 3), none⟩, 0, false),
         (⟨some 46, .mv (.t 6), none⟩, 1, false),
         (⟨some 47, .idxA 1 (.t 45) (.t 46), none⟩, 2, false),
         (⟨some 48, .ld 1 false (.t 47), none⟩, 3, false),
         (⟨some 49, .mv (.t 3), none⟩, 4, false),
         (⟨some 50, .mv (.t 7), none⟩, 5, false),
         (⟨some 51, .idxA 1 (.t 49) (.t 50), none⟩, 6, false),
         (⟨some 52, .ld 1 false (.t 51), none⟩, 7, false),
         (⟨some 53, .mm false (.t 48) [(.t 52)], none⟩, 8, false),
         (⟨some 8, .mv (.t 53), none⟩, 9, false)] [1, 3, 5, 6, 7, 8])
      (.seq (.reg [⟨some 54, .mv (.t 3), none⟩,
          ⟨some 55, .mv (.t 6), none⟩,
          ⟨some 56, .mv (.t 8), none⟩,
          ⟨some 57, .idxA 1 (.t 54) (.t 55), none⟩,
          ⟨none, .st 1 (.t 57) (.t 56), none⟩] [1, 3, 5, 6, 7, 8])
       (.reg [⟨some 58, .mv (.t 3), none⟩,
          ⟨some 59, .mv (.t 7), none⟩,
          ⟨some 60, .mv (.t 8), none⟩,
          ⟨some 61, .idxA 1 (.t 58) (.t 59), none⟩,
          ⟨none, .st 1 (.t 61) (.t 60), none⟩] [1, 3, 5, 6])))))
   (.reg [⟨some 35, .mv (.t 6), none⟩,
      ⟨some 36, .bin .add (.t 35) (.k (.sc (.int .i64 1))), none⟩,
      ⟨some 6, .mv (.t 36), none⟩] [1, 3, 5, 6]))
def b17L1 : AC :=
  .seq (.seq (.reg [⟨some 25, .mv (.t 5), none⟩,
      ⟨some 26, .mv (.t 3), none⟩,
      ⟨some 27, .len false (.t 26), none⟩,
      ⟨some 28, .bin .lss (.t 25) (.t 27), none⟩] [1, 3, 5, 28])
   (.cond (.t 28)
     (.skip)
     (.exit 2)))
  (.seq (.block 3 (.seq (.reg [⟨some 6, .mv (.k (.sc (.int .i64 0))), none⟩] [1, 3, 5, 6])
     (.block 4 (.loop [1, 3, 5, 6] b17L2))))
   (.reg [⟨some 29, .mv (.t 5), none⟩,
      ⟨some 30, .bin .add (.t 29) (.k (.sc (.int .i64 1))), none⟩,
      ⟨some 5, .mv (.t 30), none⟩] [1, 3, 5]))
def b17L3 : AC :=
  .seq (.seq (.reg [⟨some 62, .mv (.t 10), none⟩,
      ⟨some 63, .mv (.t 3), none⟩,
      ⟨some 64, .len false (.t 63), none⟩,
      ⟨some 65, .bin .lss (.t 62) (.t 64), none⟩] [3, 9, 10, 65])
   (.cond (.t 65)
     (.skip)
     (.exit 6)))
  (.seq (.block 7 (.seq (.reg [⟨some 68, .mv (.t 3), none⟩,
        ⟨some 69, .mv (.t 10), none⟩,
        ⟨some 70, .idxA 1 (.t 68) (.t 69), none⟩,
        ⟨some 71, .ld 1 false (.t 70), none⟩,
        ⟨some 72, .mv (.t 10), none⟩,
        ⟨some 73, .bin .eql (.t 71) (.t 72), none⟩] [3, 9, 10, 73])
     (.cond (.t 73)
       (.reg [⟨some 74, .mv (.t 9), none⟩,
          ⟨some 75, .bin .add (.t 74) (.k (.sc (.int .i64 1))), none⟩,
          ⟨some 9, .mv (.t 75), none⟩] [3, 9, 10])
       (.skip))))
   (.reg [⟨some 66, .mv (.t 10), none⟩,
      ⟨some 67, .bin .add (.t 66) (.k (.sc (.int .i64 1))), none⟩,
      ⟨some 10, .mv (.t 67), none⟩] [3, 9, 10]))
/-- unravel/unravelref42.Components -/
def b17 : AC :=
  .seq (.reg [⟨some 1, .box (.t 0), none⟩,
     ⟨some 2, .mv (.k (.sc (.int .i64 0))), none⟩] [1])
  (.seq (.reg [⟨some 11, .fldA 0 (.t 1), none⟩,
      ⟨some 12, .ld 1 false (.t 11), none⟩,
      ⟨some 13, .len false (.t 12), none⟩,
      ⟨some 14, .mk 1 8 [.int .i64 0] (.t 13) (.t 13), none⟩,
      ⟨some 3, .mv (.t 14), none⟩] [1, 3])
   (.seq (.seq (.reg [⟨some 4, .mv (.k (.sc (.int .i64 0))), none⟩] [1, 3, 4])
     (.block 0 (.loop [1, 3, 4] b17L0)))
    (.seq (.seq (.reg [⟨some 5, .mv (.k (.sc (.int .i64 0))), none⟩] [1, 3, 5])
      (.block 2 (.loop [1, 3, 5] b17L1)))
     (.seq (.reg [⟨some 9, .mv (.k (.sc (.int .i64 0))), none⟩] [3, 9])
      (.seq (.seq (.reg [⟨some 10, .mv (.k (.sc (.int .i64 0))), none⟩] [3, 9, 10])
        (.block 6 (.loop [3, 9, 10] b17L3)))
       (.seq (.reg [⟨some 76, .mv (.t 9), none⟩,
           ⟨some 2, .mv (.t 76), none⟩] [2])
        (.ret)))))))
def a17 : AFun := ⟨1, b17, [.t 2]⟩

def b18L0 : AC :=
  .seq (.reg [⟨some 14, .bin .lss (.t 13) (.t 12), none⟩] [0, 1, 12, 13, 14])
  (.seq (.cond (.t 14)
     (.skip)
     (.exit 0))
   (.seq (.block 1 (.seq (.reg [⟨some 15, .mv (.t 13), none⟩,
         ⟨some 5, .mv (.t 15), none⟩] [0, 1, 5, 12, 13])
      (.seq (.regd [(⟨some 16, .mv (.t 0), none⟩, 0, false),
          (⟨some 17, .mv (.t 5), none⟩, 1, false),
          (⟨some 18, .idxA 2 (.t 16) (.t 17), none⟩, 2, false),
          (⟨some 19, .ld 2 true (.t 18), none⟩, 3, false),
          (⟨some 20, .mv (.t 1), none⟩, 4, false),
          (⟨some 21, .mv (.t 5), none⟩, 5, false),
          (⟨some 22, .idxA 2 (.t 20) (.t 21), none⟩, 6, false),
          (⟨some 23, .ld 2 true (.t 22), none⟩, 7, false),
          (⟨some 24, .aeq true 2 (.t 19) (.t 23), none⟩, 8, false)] [0, 1, 12, 13, 24])
       (.cond (.t 24)
         (.seq (.reg [⟨some 4, .mv (.k (.sc (.bool false))), none⟩] [4])
          (.ret))
         (.skip)))))
    (.reg [⟨some 25, .bin .add (.t 13) (.k (.sc (.int .i64 1))), none⟩,
       ⟨some 13, .mv (.t 25), none⟩] [0, 1, 12, 13])))
/-- slices.Equal[[][2]int,[2]int] -/
def b18 : AC :=
  .seq (.reg [⟨some 4, .mv (.k (.sc (.bool false))), none⟩] [0, 1])
  (.seq (.seq (.reg [⟨some 6, .mv (.t 0), none⟩,
       ⟨some 7, .len false (.t 6), none⟩,
       ⟨some 8, .mv (.t 1), none⟩,
       ⟨some 9, .len false (.t 8), none⟩,
       ⟨some 10, .bin .neq (.t 7) (.t 9), none⟩] [0, 1, 10])
    (.cond (.t 10)
      (.seq (.reg [⟨some 4, .mv (.k (.sc (.bool false))), none⟩] [4])
       (.ret))
      (.skip)))
   (.seq (.seq (.reg [⟨some 11, .mv (.t 0), none⟩,
        ⟨some 12, .len false (.t 11), none⟩,
        ⟨some 13, .mv (.k (.sc (.int .i64 0))), none⟩] [0, 1, 12, 13])
     (.block 0 (.loop [0, 1, 12, 13] b18L0)))
    (.seq (.reg [⟨some 4, .mv (.k (.sc (.bool true))), none⟩] [4])
     (.ret))))
def a18 : AFun := ⟨2, b18, [.t 4]⟩

def b19L1 : AC :=
  .seq (.seq (.reg [⟨some 13, .mv (.t 5), none⟩,
      ⟨some 14, .fldA 0 (.t 1), none⟩,
      ⟨some 15, .ld 1 false (.t 14), none⟩,
      ⟨some 16, .len false (.t 15), none⟩,
      ⟨some 17, .bin .lss (.t 13) (.t 16), none⟩] [1, 3, 4, 5, 17])
   (.cond (.t 17)
     (.skip)
     (.exit 2)))
  (.seq (.block 3 (.seq (.regd [(⟨some 20, .mv (.t 5), none⟩, 0, false),
        (⟨some 21, .fldA 0 (.t 1), none⟩, 1, false),
        (⟨some 22, .ld 1 false (.t 21), none⟩, 2, false),
        (⟨some 23, .mv (.t 4), none⟩, 3, false),
        (⟨some 24, .idxA 1 (.t 22) (.t 23), none⟩, 4, false),
        (⟨some 25, .ld 1 false (.t 24), none⟩, 5, false),
        (⟨some 26, .fldA 1 (.t 1), none⟩, 6, false),
        (⟨some 27, .ld 1 false (.t 26), none⟩, 7, false),
        (⟨some 28, .mv (.t 4), none⟩, 8, false),
        (⟨some 29, .idxA 1 (.t 27) (.t 28), none⟩, 9, false),
        (⟨some 30, .ld 1 false (.t 29), none⟩, 10, false),
        (⟨some 31, .call 38 [(.t 20), (.t 25), (.t 30)], none⟩, 11, true),
        (⟨some 32, .mv (.t 31), none⟩, 12, false),
        (⟨some 33, .mv (.t 4), (some (32, true))⟩, 13, false),
        (⟨some 34, .fldA 0 (.t 1), (some (32, true))⟩, 14, false),
        (⟨some 35, .ld 1 false (.t 34), (some (32, true))⟩, 15, false),
        (⟨some 36, .mv (.t 5), (some (32, true))⟩, 16, false),
        (⟨some 37, .call 37 [(.t 35), (.t 36)], (some (32, true))⟩, 17, false),
        (⟨some 38, .fldA 1 (.t 1), (some (32, true))⟩, 18, false),
        (⟨some 39, .ld 1 false (.t 38), (some (32, true))⟩, 19, false),
        (⟨some 40, .mv (.t 5), (some (32, true))⟩, 20, false),
        (⟨some 41, .call 37 [(.t 39), (.t 40)], (some (32, true))⟩, 21, true),
        (⟨some 42, .call 38 [(.t 33), (.t 37), (.t 41)], (some (32, true))⟩, 22, true),
        (⟨some 43, .pick (.t 32) (.t 42) (.k (.sc (.bool false))), none⟩, 23, false)] [1, 3, 4, 5, 43])
     (.cond (.t 43)
       (.reg [⟨some 44, .mv (.t 3), none⟩,
          ⟨some 45, .mv (.t 4), none⟩,
          ⟨some 46, .mv (.t 5), none⟩,
          ⟨some 47, .bld [.int .i64 0, .int .i64 0] [(0, 1, .t 45), (1, 1, .t 46)], none⟩,
          ⟨some 48, .bsl 2 [.int .i64 0, .int .i64 0] 1 [(0, .t 47)], none⟩,
          ⟨some 49, .app 2 16 [.int .i64 0, .int .i64 0] (.t 44) (.t 48), none⟩,
          ⟨some 3, .mv (.t 49), none⟩] [1, 3, 4, 5])
       (.skip))))
   (.reg [⟨some 18, .mv (.t 5), none⟩,
      ⟨some 19, .bin .add (.t 18) (.k (.sc (.int .i64 1))), none⟩,
      ⟨some 5, .mv (.t 19), none⟩] [1, 3, 4, 5]))
def b19L0 : AC :=
  .seq (.seq (.reg [⟨some 6, .mv (.t 4), none⟩,
      ⟨some 7, .fldA 0 (.t 1), none⟩,
      ⟨some 8, .ld 1 false (.t 7), none⟩,
      ⟨some 9, .len false (.t 8), none⟩,
      ⟨some 10, .bin .lss (.t 6) (.t 9), none⟩] [1, 3, 4, 10])
   (.cond (.t 10)
     (.skip)
     (.exit 0)))
  (.seq (.block 1 (.seq (.reg [⟨some 5, .mv (.k (.sc (.int .i64 0))), none⟩] [1, 3, 4, 5])
     (.block 2 (.loop [1, 3, 4, 5] b19L1))))
   (.reg [⟨some 11, .mv (.t 4), none⟩,
      ⟨some 12, .bin .add (.t 11) (.k (.sc (.int .i64 1))), none⟩,
      ⟨some 4, .mv (.t 12), none⟩] [1, 3, 4]))
/-- unravel/unravelref42.Crossings -/
def b19 : AC :=
  .seq (.reg [⟨some 1, .box (.t 0), none⟩,
     ⟨some 2, .mv (.k (.sc .nilS)), none⟩] [1])
  (.seq (.reg [⟨some 3, .mv (.k (.sc .nilS)), none⟩] [1, 3])
   (.seq (.seq (.reg [⟨some 4, .mv (.k (.sc (.int .i64 0))), none⟩] [1, 3, 4])
     (.block 0 (.loop [1, 3, 4] b19L0)))
    (.seq (.reg [⟨some 50, .mv (.t 3), none⟩,
        ⟨some 2, .mv (.t 50), none⟩] [2])
     (.ret))))
def a19 : AFun := ⟨1, b19, [.t 2]⟩

def b20L0 : AC :=
  .seq (.reg [⟨some 9, .bin .lss (.t 8) (.t 7), none⟩] [0, 1, 7, 8, 9])
  (.seq (.cond (.t 9)
     (.skip)
     (.exit 0))
   (.seq (.block 1 (.seq (.reg [⟨some 10, .mv (.t 8), none⟩,
         ⟨some 5, .mv (.t 10), none⟩] [0, 1, 5, 7, 8])
      (.seq (.reg [⟨some 11, .mv (.t 1), none⟩,
          ⟨some 12, .mv (.t 0), none⟩,
          ⟨some 13, .mv (.t 5), none⟩,
          ⟨some 14, .idxA 1 (.t 12) (.t 13), none⟩,
          ⟨some 15, .ld 1 false (.t 14), none⟩,
          ⟨some 16, .bin .eql (.t 11) (.t 15), none⟩] [0, 1, 5, 7, 8, 16])
       (.cond (.t 16)
         (.seq (.reg [⟨some 17, .mv (.t 5), none⟩,
             ⟨some 4, .mv (.t 17), none⟩] [4])
          (.ret))
         (.skip)))))
    (.reg [⟨some 18, .bin .add (.t 8) (.k (.sc (.int .i64 1))), none⟩,
       ⟨some 8, .mv (.t 18), none⟩] [0, 1, 7, 8])))
/-- slices.Index[[]int,int] -/
def b20 : AC :=
  .seq (.reg [⟨some 4, .mv (.k (.sc (.int .i64 0))), none⟩] [0, 1])
  (.seq (.seq (.reg [⟨some 6, .mv (.t 0), none⟩,
       ⟨some 7, .len false (.t 6), none⟩,
       ⟨some 8, .mv (.k (.sc (.int .i64 0))), none⟩] [0, 1, 7, 8])
    (.block 0 (.loop [0, 1, 7, 8] b20L0)))
   (.seq (.reg [⟨some 4, .mv (.k (.sc (.int .i64 (-1)))), none⟩] [4])
    (.ret)))
def a20 : AFun := ⟨2, b20, [.t 4]⟩

def b21L0 : AC :=
  .seq (.reg [⟨some 21, .bin .lss (.t 20) (.t 19), none⟩] [1, 2, 4, 5, 19, 20, 21])
  (.seq (.cond (.t 21)
     (.skip)
     (.exit 0))
   (.seq (.block 1 (.seq (.reg [⟨some 22, .mv (.t 20), none⟩,
         ⟨some 6, .mv (.t 22), none⟩] [1, 2, 4, 5, 6, 19, 20])
      (.seq (.regd [(⟨some 23, .fldA 1 (.t 5), none⟩, 0, false),
          (⟨some 24, .ld 1 false (.t 23), none⟩, 1, false),
          (⟨some 25, .mv (.t 4), none⟩, 2, false),
          (⟨some 26, .bin .sub (.t 25) (.k (.sc (.int .i64 1))), none⟩, 3, false),
          (⟨some 27, .fldA 0 (.t 1), none⟩, 4, false),
          (⟨some 28, .ld 1 false (.t 27), none⟩, 5, false),
          (⟨some 29, .mv (.t 6), none⟩, 6, false),
          (⟨some 30, .idxA 1 (.t 28) (.t 29), none⟩, 7, false),
          (⟨some 31, .ld 1 false (.t 30), none⟩, 8, false),
          (⟨some 32, .bin .sub (.t 26) (.t 31), none⟩, 9, false),
          (⟨some 33, .mv (.t 6), none⟩, 10, false),
          (⟨some 34, .idxA 1 (.t 24) (.t 32), none⟩, 11, false),
          (⟨none, .st 1 (.t 34) (.t 33), none⟩, 12, true)] [1, 2, 4, 5, 6, 19, 20])
       (.regd [(⟨some 35, .fldA 0 (.t 5), none⟩, 0, false),
          (⟨some 36, .ld 1 false (.t 35), none⟩, 1, false),
          (⟨some 37, .mv (.t 4), none⟩, 2, false),
          (⟨some 38, .bin .sub (.t 37) (.k (.sc (.int .i64 1))), none⟩, 3, false),
          (⟨some 39, .fldA 1 (.t 1), none⟩, 4, false),
          (⟨some 40, .ld 1 false (.t 39), none⟩, 5, false),
          (⟨some 41, .mv (.t 6), none⟩, 6, false),
          (⟨some 42, .idxA 1 (.t 40) (.t 41), none⟩, 7, false),
          (⟨some 43, .ld 1 false (.t 42), none⟩, 8, false),
          (⟨some 44, .bin .sub (.t 38) (.t 43), none⟩, 9, false),
          (⟨some 45, .mv (.t 6), none⟩, 10, false),
          (⟨some 46, .idxA 1 (.t 36) (.t 44), none⟩, 11, false),
          (⟨none, .st 1 (.t 46) (.t 45), none⟩, 12, true)] [1, 2, 4, 5, 19, 20]))))
    (.reg [⟨some 47, .bin .add (.t 20) (.k (.sc (.int .i64 1))), none⟩,
       ⟨some 20, .mv (.t 47), none⟩] [1, 2, 4, 5, 19, 20])))
/-- unravel/grid.Rotate -/
def b21 : AC :=
  .seq (.reg [⟨some 1, .box (.t 0), none⟩,
     ⟨some 2, .new [.nilS, .nilS], none⟩,
     ⟨some 3, .mv (.k (.sc (.int .i64 0))), none⟩] [1, 2])
  (.seq (.seq (.reg [⟨some 7, .ld 2 true (.t 1), none⟩,
       ⟨some 8, .call 13 [(.t 7)], none⟩,
       ⟨some 9, .un .not (.t 8), none⟩] [1, 2, 9])
    (.cond (.t 9)
      (.seq (.reg [⟨some 10, .bld [.nilS, .nilS] [], none⟩,
          ⟨none, .st 2 (.t 2) (.t 10), none⟩,
          ⟨some 3, .mv (.k (.sc (.int .i64 1))), none⟩] [2, 3])
       (.ret))
      (.skip)))
   (.seq (.reg [⟨some 11, .fldA 0 (.t 1), none⟩,
       ⟨some 12, .ld 1 false (.t 11), none⟩,
       ⟨some 13, .len false (.t 12), none⟩,
       ⟨some 4, .mv (.t 13), none⟩] [1, 2, 4])
    (.seq (.regd [(⟨some 14, .mv (.t 4), none⟩, 0, false),
        (⟨some 15, .mk 1 8 [.int .i64 0] (.t 14) (.t 14), none⟩, 1, false),
        (⟨some 16, .mv (.t 4), none⟩, 2, false),
        (⟨some 17, .mk 1 8 [.int .i64 0] (.t 16) (.t 16), none⟩, 3, false),
        (⟨some 18, .bld [.nilS, .nilS] [(0, 1, .t 15), (1, 1, .t 17)], none⟩, 4, false),
        (⟨some 5, .new [.nilS, .nilS], none⟩, 5, false),
        (⟨none, .st 2 (.t 5) (.t 18), none⟩, 6, true)] [1, 2, 4, 5])
     (.seq (.seq (.reg [⟨some 19, .mv (.t 4), none⟩,
          ⟨some 20, .mv (.k (.sc (.int .i64 0))), none⟩] [1, 2, 4, 5, 19, 20])
       (.block 0 (.loop [1, 2, 4, 5, 19, 20] b21L0)))
      (.seq (.reg [⟨some 48, .ld 2 true (.t 5), none⟩,
          ⟨none, .st 2 (.t 2) (.t 48), none⟩,
          ⟨some 3, .mv (.k (.sc (.int .i64 0))), none⟩] [2, 3])
       (.ret))))))
def a21 : AFun := ⟨1, b21, [.cell 2 2 true, .t 3]⟩

def b22L0 : AC :=
  .seq (.reg [⟨some 14, .bin .lss (.t 13) (.t 12), none⟩] [0, 1, 12, 13, 14])
  (.seq (.cond (.t 14)
     (.skip)
     (.exit 0))
   (.seq (.block 1 (.seq (.reg [⟨some 15, .mv (.t 13), none⟩,
         ⟨some 5, .mv (.t 15), none⟩] [0, 1, 5, 12, 13])
      (.seq (.regd [(⟨some 16, .mv (.t 0), none⟩, 0, false),
          (⟨some 17, .mv (.t 5), none⟩, 1, false),
          (⟨some 18, .idxA 1 (.t 16) (.t 17), none⟩, 2, false),
          (⟨some 19, .ld 1 false (.t 18), none⟩, 3, false),
          (⟨some 20, .mv (.t 1), none⟩, 4, false),
          (⟨some 21, .mv (.t 5), none⟩, 5, false),
          (⟨some 22, .idxA 1 (.t 20) (.t 21), none⟩, 6, false),
          (⟨some 23, .ld 1 false (.t 22), none⟩, 7, false),
          (⟨some 24, .bin .neq (.t 19) (.t 23), none⟩, 8, false)] [0, 1, 12, 13, 24])
       (.cond (.t 24)
         (.seq (.reg [⟨some 4, .mv (.k (.sc (.bool false))), none⟩] [4])
          (.ret))
         (.skip)))))
    (.reg [⟨some 25, .bin .add (.t 13) (.k (.sc (.int .i64 1))), none⟩,
       ⟨some 13, .mv (.t 25), none⟩] [0, 1, 12, 13])))
/-- slices.Equal[[]int,int] -/
def b22 : AC :=
  .seq (.reg [⟨some 4, .mv (.k (.sc (.bool false))), none⟩] [0, 1])
  (.seq (.seq (.reg [⟨some 6, .mv (.t 0), none⟩,
       ⟨some 7, .len false (.t 6), none⟩,
       ⟨some 8, .mv (.t 1), none⟩,
       ⟨some 9, .len false (.t 8), none⟩,
       ⟨some 10, .bin .neq (.t 7) (.t 9), none⟩] [0, 1, 10])
    (.cond (.t 10)
      (.seq (.reg [⟨some 4, .mv (.k (.sc (.bool false))), none⟩] [4])
       (.ret))
      (.skip)))
   (.seq (.seq (.reg [⟨some 11, .mv (.t 0), none⟩,
        ⟨some 12, .len false (.t 11), none⟩,
        ⟨some 13, .mv (.k (.sc (.int .i64 0))), none⟩] [0, 1, 12, 13])
     (.block 0 (.loop [0, 1, 12, 13] b22L0)))
    (.seq (.reg [⟨some 4, .mv (.k (.sc (.bool true))), none⟩] [4])
     (.ret))))
def a22 : AFun := ⟨2, b22, [.t 4]⟩

/-- unravel/grid.Shift -/
def b23 : AC :=
  .seq (.reg [⟨some 3, .box (.t 0), none⟩,
     ⟨some 6, .new [.nilS, .nilS], none⟩,
     ⟨some 7, .mv (.k (.sc (.int .i64 0))), none⟩] [1, 2, 3, 6])
  (.seq (.seq (.reg [⟨some 9, .ld 2 true (.t 3), none⟩,
       ⟨some 10, .call 13 [(.t 9)], none⟩,
       ⟨some 11, .un .not (.t 10), none⟩] [1, 2, 3, 6, 11])
    (.cond (.t 11)
      (.seq (.reg [⟨some 12, .bld [.nilS, .nilS] [], none⟩,
          ⟨none, .st 2 (.t 6) (.t 12), none⟩,
          ⟨some 7, .mv (.k (.sc (.int .i64 1))), none⟩] [6, 7])
       (.ret))
      (.skip)))
   (.seq (.reg [⟨some 13, .fldA 0 (.t 3), none⟩,
       ⟨some 14, .ld 1 false (.t 13), none⟩,
       ⟨some 15, .len false (.t 14), none⟩,
       ⟨some 8, .mv (.t 15), none⟩] [1, 2, 3, 6, 8])
    (.seq (.regd [(⟨some 16, .ld 2 true (.t 3), none⟩, 0, true),
        (⟨some 17, .mv (.t 1), none⟩, 1, false),
        (⟨some 18, .mv (.t 8), none⟩, 2, false),
        (⟨some 19, .bin .rem (.t 17) (.t 18), none⟩, 3, false),
        (⟨some 20, .mv (.t 8), none⟩, 4, false),
        (⟨some 21, .bin .add (.t 19) (.t 20), none⟩, 5, false),
        (⟨some 22, .mv (.t 8), none⟩, 6, false),
        (⟨some 23, .bin .rem (.t 21) (.t 22), none⟩, 7, false),
        (⟨some 24, .mv (.t 2), none⟩, 8, false),
        (⟨some 25, .mv (.t 8), none⟩, 9, false),
        (⟨some 26, .bin .rem (.t 24) (.t 25), none⟩, 10, false),
        (⟨some 27, .mv (.t 8), none⟩, 11, false),
        (⟨some 28, .bin .add (.t 26) (.t 27), none⟩, 12, false),
        (⟨some 29, .mv (.t 8), none⟩, 13, false),
        (⟨some 30, .bin .rem (.t 28) (.t 29), none⟩, 14, false),
        (⟨some 31, .call 39 [(.t 16), (.t 23), (.t 30)], none⟩, 15, true),
        (⟨none, .st 2 (.t 6) (.t 31), none⟩, 16, true),
        (⟨some 7, .mv (.k (.sc (.int .i64 0))), none⟩, 17, false)] [6, 7])
     (.ret))))
def a23 : AFun := ⟨3, b23, [.cell 6 2 true, .t 7]⟩

def b24L0 : AC :=
  .seq (.reg [⟨some 17, .bin .lss (.t 16) (.t 15), none⟩] [1, 2, 4, 5, 15, 16, 17])
  (.seq (.cond (.t 17)
     (.skip)
     (.exit 0))
   (.seq (.block 1 (.seq (.reg [⟨some 18, .mv (.t 16), none⟩,
         ⟨some 6, .mv (.t 18), none⟩] [1, 2, 4, 5, 6, 15, 16])
      (.seq (.regd [(⟨some 19, .ld 2 true (.t 1), none⟩, 0, false),
          (⟨some 20, .mv (.t 4), none⟩, 1, false),
          (⟨some 21, .mv (.t 6), none⟩, 2, false),
          (⟨some 22, .bin .sub (.t 20) (.t 21), none⟩, 3, false),
          (⟨some 23, .mv (.t 4), none⟩, 4, false),
          (⟨some 24, .bin .rem (.t 22) (.t 23), none⟩, 5, false),
          (⟨some 25, .mv (.t 4), none⟩, 6, false),
          (⟨some 26, .fldA 0 (.t 1), none⟩, 7, false),
          (⟨some 27, .ld 1 false (.t 26), none⟩, 8, false),
          (⟨some 28, .mv (.t 6), none⟩, 9, false),
          (⟨some 29, .idxA 1 (.t 27) (.t 28), none⟩, 10, false),
          (⟨some 30, .ld 1 false (.t 29), none⟩, 11, false),
          (⟨some 31, .bin .sub (.t 25) (.t 30), none⟩, 12, false),
          (⟨some 32, .mv (.t 4), none⟩, 13, false),
          (⟨some 33, .bin .rem (.t 31) (.t 32), none⟩, 14, false),
          (⟨some 34, .call 39 [(.t 19), (.t 24), (.t 33)], none⟩, 15, false),
          (⟨some 7, .new [.nilS, .nilS], none⟩, 16, false),
          (⟨none, .st 2 (.t 7) (.t 34), none⟩, 17, true)] [1, 2, 4, 5, 6, 7, 15, 16])
       (.seq (.reg [⟨some 35, .mv (.t 6), none⟩,
           ⟨some 36, .bin .eql (.t 35) (.k (.sc (.int .i64 0))), none⟩,
           ⟨some 37, .mv (.t 36), none⟩,
           ⟨some 38, .ld 2 true (.t 7), (some (37, false))⟩,
           ⟨some 39, .ld 2 true (.t 5), (some (37, false))⟩,
           ⟨some 40, .call 40 [(.t 38), (.t 39)], (some (37, false))⟩,
           ⟨some 41, .bin .lss (.t 40) (.k (.sc (.int .i64 0))), (some (37, false))⟩,
           ⟨some 42, .pick (.t 37) (.k (.sc (.bool true))) (.t 41), none⟩] [1, 2, 4, 5, 7, 15, 16, 42])
        (.cond (.t 42)
          (.reg [⟨some 43, .ld 2 true (.t 7), none⟩,
             ⟨none, .st 2 (.t 5) (.t 43), none⟩] [1, 2, 4, 5, 15, 16])
          (.skip))))))
    (.reg [⟨some 44, .bin .add (.t 16) (.k (.sc (.int .i64 1))), none⟩,
       ⟨some 16, .mv (.t 44), none⟩] [1, 2, 4, 5, 15, 16])))
/-- unravel/grid.Least -/
def b24 : AC :=
  .seq (.reg [⟨some 1, .box (.t 0), none⟩,
     ⟨some 2, .new [.nilS, .nilS], none⟩,
     ⟨some 3, .mv (.k (.sc (.int .i64 0))), none⟩] [1, 2])
  (.seq (.seq (.reg [⟨some 8, .ld 2 true (.t 1), none⟩,
       ⟨some 9, .call 13 [(.t 8)], none⟩,
       ⟨some 10, .un .not (.t 9), none⟩] [1, 2, 10])
    (.cond (.t 10)
      (.seq (.reg [⟨some 11, .bld [.nilS, .nilS] [], none⟩,
          ⟨none, .st 2 (.t 2) (.t 11), none⟩,
          ⟨some 3, .mv (.k (.sc (.int .i64 1))), none⟩] [2, 3])
       (.ret))
      (.skip)))
   (.seq (.reg [⟨some 12, .fldA 0 (.t 1), none⟩,
       ⟨some 13, .ld 1 false (.t 12), none⟩,
       ⟨some 14, .len false (.t 13), none⟩,
       ⟨some 4, .mv (.t 14), none⟩] [1, 2, 4])
    (.seq (.reg [⟨some 5, .new [.nilS, .nilS], none⟩] [1, 2, 4, 5])
     (.seq (.seq (.reg [⟨some 15, .mv (.t 4), none⟩,
          ⟨some 16, .mv (.k (.sc (.int .i64 0))), none⟩] [1, 2, 4, 5, 15, 16])
       (.block 0 (.loop [1, 2, 4, 5, 15, 16] b24L0)))
      (.seq (.reg [⟨some 45, .ld 2 true (.t 5), none⟩,
          ⟨none, .st 2 (.t 2) (.t 45), none⟩,
          ⟨some 3, .mv (.k (.sc (.int .i64 0))), none⟩] [2, 3])
       (.ret))))))
def a24 : AFun := ⟨1, b24, [.cell 2 2 true, .t 3]⟩

/-- unravel/unravellaw42.zero -/
def b25 : AC :=
  .seq (.reg [⟨some 1, .box (.t 0), none⟩,
     ⟨some 2, .mv (.k (.sc (.bool false))), none⟩] [1])
  (.seq (.reg [⟨some 3, .fldA 0 (.t 1), none⟩,
      ⟨some 4, .ld 1 false (.t 3), none⟩,
      ⟨some 5, .len false (.t 4), none⟩,
      ⟨some 6, .bin .eql (.t 5) (.k (.sc (.int .i64 0))), none⟩,
      ⟨some 7, .mv (.t 6), none⟩,
      ⟨some 8, .fldA 1 (.t 1), (some (7, true))⟩,
      ⟨some 9, .ld 1 false (.t 8), (some (7, true))⟩,
      ⟨some 10, .len false (.t 9), (some (7, true))⟩,
      ⟨some 11, .bin .eql (.t 10) (.k (.sc (.int .i64 0))), (some (7, true))⟩,
      ⟨some 12, .pick (.t 7) (.t 11) (.k (.sc (.bool false))), none⟩,
      ⟨some 2, .mv (.t 12), none⟩] [2])
   (.ret))
def a25 : AFun := ⟨1, b25, [.t 2]⟩

/-- unravel/unravelref42.Same -/
def b26 : AC :=
  .seq (.reg [⟨some 2, .box (.t 0), none⟩,
     ⟨some 3, .box (.t 1), none⟩,
     ⟨some 4, .mv (.k (.sc (.bool false))), none⟩] [2, 3])
  (.seq (.reg [⟨some 5, .fldA 0 (.t 2), none⟩,
      ⟨some 6, .ld 1 false (.t 5), none⟩,
      ⟨some 7, .fldA 0 (.t 3), none⟩,
      ⟨some 8, .ld 1 false (.t 7), none⟩,
      ⟨some 9, .call 41 [(.t 6), (.t 8)], none⟩,
      ⟨some 10, .mv (.t 9), none⟩,
      ⟨some 11, .fldA 1 (.t 2), (some (10, true))⟩,
      ⟨some 12, .ld 1 false (.t 11), (some (10, true))⟩,
      ⟨some 13, .fldA 1 (.t 3), (some (10, true))⟩,
      ⟨some 14, .ld 1 false (.t 13), (some (10, true))⟩,
      ⟨some 15, .call 41 [(.t 12), (.t 14)], (some (10, true))⟩,
      ⟨some 16, .pick (.t 10) (.t 15) (.k (.sc (.bool false))), none⟩,
      ⟨some 4, .mv (.t 16), none⟩] [4])
   (.ret))
def a26 : AFun := ⟨2, b26, [.t 4]⟩

def b27L0 : AC :=
  .seq (.seq (.reg [⟨some 14, .mv (.t 5), none⟩,
      ⟨some 15, .mv (.t 3), none⟩,
      ⟨some 16, .bin .lss (.t 14) (.t 15), none⟩] [1, 2, 3, 4, 5, 16])
   (.cond (.t 16)
     (.skip)
     (.exit 0)))
  (.seq (.block 1 (.seq (.regd [(⟨some 19, .fldA 1 (.t 4), none⟩, 0, false),
        (⟨some 20, .ld 1 false (.t 19), none⟩, 1, false),
        (⟨some 21, .mv (.t 3), none⟩, 2, false),
        (⟨some 22, .bin .sub (.t 21) (.k (.sc (.int .i64 1))), none⟩, 3, false),
        (⟨some 23, .fldA 0 (.t 1), none⟩, 4, false),
        (⟨some 24, .ld 1 false (.t 23), none⟩, 5, false),
        (⟨some 25, .mv (.t 5), none⟩, 6, false),
        (⟨some 26, .idxA 1 (.t 24) (.t 25), none⟩, 7, false),
        (⟨some 27, .ld 1 false (.t 26), none⟩, 8, false),
        (⟨some 28, .bin .sub (.t 22) (.t 27), none⟩, 9, false),
        (⟨some 29, .mv (.t 5), none⟩, 10, false),
        (⟨some 30, .idxA 1 (.t 20) (.t 28), none⟩, 11, false),
        (⟨none, .st 1 (.t 30) (.t 29), none⟩, 12, true)] [1, 2, 3, 4, 5])
     (.regd [(⟨some 31, .fldA 0 (.t 4), none⟩, 0, false),
        (⟨some 32, .ld 1 false (.t 31), none⟩, 1, false),
        (⟨some 33, .mv (.t 3), none⟩, 2, false),
        (⟨some 34, .bin .sub (.t 33) (.k (.sc (.int .i64 1))), none⟩, 3, false),
        (⟨some 35, .fldA 1 (.t 1), none⟩, 4, false),
        (⟨some 36, .ld 1 false (.t 35), none⟩, 5, false),
        (⟨some 37, .mv (.t 5), none⟩, 6, false),
        (⟨some 38, .idxA 1 (.t 36) (.t 37), none⟩, 7, false),
        (⟨some 39, .ld 1 false (.t 38), none⟩, 8, false),
        (⟨some 40, .bin .sub (.t 34) (.t 39), none⟩, 9, false),
        (⟨some 41, .mv (.t 5), none⟩, 10, false),
        (⟨some 42, .idxA 1 (.t 32) (.t 40), none⟩, 11, false),
        (⟨none, .st 1 (.t 42) (.t 41), none⟩, 12, true)] [1, 2, 3, 4, 5])))
   (.reg [⟨some 17, .mv (.t 5), none⟩,
      ⟨some 18, .bin .add (.t 17) (.k (.sc (.int .i64 1))), none⟩,
      ⟨some 5, .mv (.t 18), none⟩] [1, 2, 3, 4, 5]))
/-- unravel/unravelref42.Rotate -/
def b27 : AC :=
  .seq (.reg [⟨some 1, .box (.t 0), none⟩,
     ⟨some 2, .new [.nilS, .nilS], none⟩] [1, 2])
  (.seq (.reg [⟨some 6, .fldA 0 (.t 1), none⟩,
      ⟨some 7, .ld 1 false (.t 6), none⟩,
      ⟨some 8, .len false (.t 7), none⟩,
      ⟨some 3, .mv (.t 8), none⟩] [1, 2, 3])
   (.seq (.regd [(⟨some 9, .mv (.t 3), none⟩, 0, false),
       (⟨some 10, .mk 1 8 [.int .i64 0] (.t 9) (.t 9), none⟩, 1, false),
       (⟨some 11, .mv (.t 3), none⟩, 2, false),
       (⟨some 12, .mk 1 8 [.int .i64 0] (.t 11) (.t 11), none⟩, 3, false),
       (⟨some 13, .bld [.nilS, .nilS] [(0, 1, .t 10), (1, 1, .t 12)], none⟩, 4, false),
       (⟨some 4, .new [.nilS, .nilS], none⟩, 5, false),
       (⟨none, .st 2 (.t 4) (.t 13), none⟩, 6, true)] [1, 2, 3, 4])
    (.seq (.seq (.reg [⟨some 5, .mv (.k (.sc (.int .i64 0))), none⟩] [1, 2, 3, 4, 5])
      (.block 0 (.loop [1, 2, 3, 4, 5] b27L0)))
     (.seq (.reg [⟨some 43, .ld 2 true (.t 4), none⟩,
         ⟨none, .st 2 (.t 2) (.t 43), none⟩] [2])
      (.ret)))))
def a27 : AFun := ⟨1, b27, [.cell 2 2 true]⟩

def b28L0 : AC :=
  .seq (.seq (.reg [⟨some 19, .mv (.t 9), none⟩,
      ⟨some 20, .mv (.t 7), none⟩,
      ⟨some 21, .bin .lss (.t 19) (.t 20), none⟩] [1, 2, 3, 6, 7, 8, 9, 21])
   (.cond (.t 21)
     (.skip)
     (.exit 0)))
  (.seq (.block 1 (.seq (.reg [⟨some 24, .mv (.t 9), none⟩,
        ⟨some 25, .mv (.t 1), none⟩,
        ⟨some 26, .mv (.t 7), none⟩,
        ⟨some 27, .call 42 [(.t 25), (.t 26)], none⟩,
        ⟨some 28, .bin .add (.t 24) (.t 27), none⟩,
        ⟨some 29, .mv (.t 7), none⟩,
        ⟨some 30, .call 42 [(.t 28), (.t 29)], none⟩,
        ⟨some 10, .mv (.t 30), none⟩] [1, 2, 3, 6, 7, 8, 9, 10])
     (.seq (.regd [(⟨some 31, .fldA 0 (.t 8), none⟩, 0, false),
         (⟨some 32, .ld 1 false (.t 31), none⟩, 1, false),
         (⟨some 33, .mv (.t 10), none⟩, 2, false),
         (⟨some 34, .fldA 0 (.t 3), none⟩, 3, false),
         (⟨some 35, .ld 1 false (.t 34), none⟩, 4, false),
         (⟨some 36, .mv (.t 9), none⟩, 5, false),
         (⟨some 37, .idxA 1 (.t 35) (.t 36), none⟩, 6, false),
         (⟨some 38, .ld 1 false (.t 37), none⟩, 7, false),
         (⟨some 39, .mv (.t 2), none⟩, 8, false),
         (⟨some 40, .mv (.t 7), none⟩, 9, false),
         (⟨some 41, .call 42 [(.t 39), (.t 40)], none⟩, 10, false),
         (⟨some 42, .bin .add (.t 38) (.t 41), none⟩, 11, false),
         (⟨some 43, .mv (.t 7), none⟩, 12, false),
         (⟨some 44, .call 42 [(.t 42), (.t 43)], none⟩, 13, false),
         (⟨some 45, .idxA 1 (.t 32) (.t 33), none⟩, 14, false),
         (⟨none, .st 1 (.t 45) (.t 44), none⟩, 15, true)] [1, 2, 3, 6, 7, 8, 9, 10])
      (.regd [(⟨some 46, .fldA 1 (.t 8), none⟩, 0, false),
         (⟨some 47, .ld 1 false (.t 46), none⟩, 1, false),
         (⟨some 48, .mv (.t 10), none⟩, 2, false),
         (⟨some 49, .fldA 1 (.t 3), none⟩, 3, false),
         (⟨some 50, .ld 1 false (.t 49), none⟩, 4, false),
         (⟨some 51, .mv (.t 9), none⟩, 5, false),
         (⟨some 52, .idxA 1 (.t 50) (.t 51), none⟩, 6, false),
         (⟨some 53, .ld 1 false (.t 52), none⟩, 7, false),
         (⟨some 54, .mv (.t 2), none⟩, 8, false),
         (⟨some 55, .mv (.t 7), none⟩, 9, false),
         (⟨some 56, .call 42 [(.t 54), (.t 55)], none⟩, 10, false),
         (⟨some 57, .bin .add (.t 53) (.t 56), none⟩, 11, false),
         (⟨some 58, .mv (.t 7), none⟩, 12, false),
         (⟨some 59, .call 42 [(.t 57), (.t 58)], none⟩, 13, false),
         (⟨some 60, .idxA 1 (.t 47) (.t 48), none⟩, 14, false),
         (⟨none, .st 1 (.t 60) (.t 59), none⟩, 15, true)] [1, 2, 3, 6, 7, 8, 9]))))
   (.reg [⟨some 22, .mv (.t 9), none⟩,
      ⟨some 23, .bin .add (.t 22) (.k (.sc (.int .i64 1))), none⟩,
      ⟨some 9, .mv (.t 23), none⟩] [1, 2, 3, 6, 7, 8, 9]))
/-- unravel/unravelref42.Shift -/
def b28 : AC :=
  .seq (.reg [⟨some 3, .box (.t 0), none⟩,
     ⟨some 6, .new [.nilS, .nilS], none⟩] [1, 2, 3, 6])
  (.seq (.reg [⟨some 11, .fldA 0 (.t 3), none⟩,
      ⟨some 12, .ld 1 false (.t 11), none⟩,
      ⟨some 13, .len false (.t 12), none⟩,
      ⟨some 7, .mv (.t 13), none⟩] [1, 2, 3, 6, 7])
   (.seq (.regd [(⟨some 14, .mv (.t 7), none⟩, 0, false),
       (⟨some 15, .mk 1 8 [.int .i64 0] (.t 14) (.t 14), none⟩, 1, false),
       (⟨some 16, .mv (.t 7), none⟩, 2, false),
       (⟨some 17, .mk 1 8 [.int .i64 0] (.t 16) (.t 16), none⟩, 3, false),
       (⟨some 18, .bld [.nilS, .nilS] [(0, 1, .t 15), (1, 1, .t 17)], none⟩, 4, false),
       (⟨some 8, .new [.nilS, .nilS], none⟩, 5, false),
       (⟨none, .st 2 (.t 8) (.t 18), none⟩, 6, true)] [1, 2, 3, 6, 7, 8])
    (.seq (.seq (.reg [⟨some 9, .mv (.k (.sc (.int .i64 0))), none⟩] [1, 2, 3, 6, 7, 8, 9])
      (.block 0 (.loop [1, 2, 3, 6, 7, 8, 9] b28L0)))
     (.seq (.reg [⟨some 61, .ld 2 true (.t 8), none⟩,
         ⟨none, .st 2 (.t 6) (.t 61), none⟩] [6])
      (.ret)))))
def a28 : AFun := ⟨3, b28, [.cell 6 2 true]⟩

def b29L1 : AC :=
  .seq (.seq (.reg [⟨some 15, .mv (.t 5), none⟩,
      ⟨some 16, .fldA 0 (.t 1), none⟩,
      ⟨some 17, .ld 1 false (.t 16), none⟩,
      ⟨some 18, .len false (.t 17), none⟩,
      ⟨some 19, .bin .lss (.t 15) (.t 18), none⟩] [1, 2, 3, 4, 5, 19])
   (.cond (.t 19)
     (.skip)
     (.exit 2)))
  (.seq (.block 3 (.seq (.reg [⟨some 22, .ld 2 true (.t 1), none⟩,
        ⟨some 23, .mv (.t 4), none⟩,
        ⟨some 24, .mv (.t 5), none⟩,
        ⟨some 25, .call 28 [(.t 22), (.t 23), (.t 24)], none⟩,
        ⟨some 6, .new [.nilS, .nilS], none⟩,
        ⟨none, .st 2 (.t 6) (.t 25), none⟩] [1, 2, 3, 4, 5, 6])
     (.seq (.reg [⟨some 26, .ld 2 true (.t 6), none⟩,
         ⟨some 27, .ld 2 true (.t 3), none⟩,
         ⟨some 28, .call 43 [(.t 26), (.t 27)], none⟩] [1, 2, 3, 4, 5, 6, 28])
      (.cond (.t 28)
        (.reg [⟨some 29, .ld 2 true (.t 6), none⟩,
           ⟨none, .st 2 (.t 3) (.t 29), none⟩] [1, 2, 3, 4, 5])
        (.skip)))))
   (.reg [⟨some 20, .mv (.t 5), none⟩,
      ⟨some 21, .bin .add (.t 20) (.k (.sc (.int .i64 1))), none⟩,
      ⟨some 5, .mv (.t 21), none⟩] [1, 2, 3, 4, 5]))
def b29L0 : AC :=
  .seq (.seq (.reg [⟨some 8, .mv (.t 4), none⟩,
      ⟨some 9, .fldA 0 (.t 1), none⟩,
      ⟨some 10, .ld 1 false (.t 9), none⟩,
      ⟨some 11, .len false (.t 10), none⟩,
      ⟨some 12, .bin .lss (.t 8) (.t 11), none⟩] [1, 2, 3, 4, 12])
   (.cond (.t 12)
     (.skip)
     (.exit 0)))
  (.seq (.block 1 (.seq (.reg [⟨some 5, .mv (.k (.sc (.int .i64 0))), none⟩] [1, 2, 3, 4, 5])
     (.block 2 (.loop [1, 2, 3, 4, 5] b29L1))))
   (.reg [⟨some 13, .mv (.t 4), none⟩,
      ⟨some 14, .bin .add (.t 13) (.k (.sc (.int .i64 1))), none⟩,
      ⟨some 4, .mv (.t 14), none⟩] [1, 2, 3, 4]))
/-- unravel/unravelref42.Least -/
def b29 : AC :=
  .seq (.reg [⟨some 1, .box (.t 0), none⟩,
     ⟨some 2, .new [.nilS, .nilS], none⟩] [1, 2])
  (.seq (.reg [⟨some 7, .ld 2 true (.t 1), none⟩,
      ⟨some 3, .new [.nilS, .nilS], none⟩,
      ⟨none, .st 2 (.t 3) (.t 7), none⟩] [1, 2, 3])
   (.seq (.seq (.reg [⟨some 4, .mv (.k (.sc (.int .i64 0))), none⟩] [1, 2, 3, 4])
     (.block 0 (.loop [1, 2, 3, 4] b29L0)))
    (.seq (.reg [⟨some 30, .ld 2 true (.t 3), none⟩,
        ⟨none, .st 2 (.t 2) (.t 30), none⟩] [2])
     (.ret))))
def a29 : AFun := ⟨1, b29, [.cell 2 2 true]⟩

/-- unravel/grid.Format -/
def b30 : AC :=
  .seq (.reg [⟨some 1, .box (.t 0), none⟩,
     ⟨some 2, .mv (.k (.sc (.str ⟨#[]⟩))), none⟩,
     ⟨some 3, .mv (.k (.sc (.int .i64 0))), none⟩] [1])
  (.seq (.seq (.reg [⟨some 4, .ld 2 true (.t 1), none⟩,
       ⟨some 5, .call 13 [(.t 4)], none⟩,
       ⟨some 6, .un .not (.t 5), none⟩] [1, 6])
    (.cond (.t 6)
      (.seq (.reg [⟨some 2, .mv (.k (.sc (.str ⟨#[]⟩))), none⟩,
          ⟨some 3, .mv (.k (.sc (.int .i64 1))), none⟩] [2, 3])
       (.ret))
      (.skip)))
   (.seq (.regd [(⟨some 7, .fldA 0 (.t 1), none⟩, 0, false),
       (⟨some 8, .ld 1 false (.t 7), none⟩, 1, false),
       (⟨some 9, .call 44 [(.t 8)], none⟩, 2, false),
       (⟨some 10, .bin .add (.t 9) (.k (.sc (.str ⟨#[32, 47, 32]⟩))), none⟩, 3, false),
       (⟨some 11, .fldA 1 (.t 1), none⟩, 4, false),
       (⟨some 12, .ld 1 false (.t 11), none⟩, 5, false),
       (⟨some 13, .call 44 [(.t 12)], none⟩, 6, true),
       (⟨some 14, .bin .add (.t 10) (.t 13), none⟩, 7, false),
       (⟨some 2, .mv (.t 14), none⟩, 8, false),
       (⟨some 3, .mv (.k (.sc (.int .i64 0))), none⟩, 9, false)] [2, 3])
    (.ret)))
def a30 : AFun := ⟨1, b30, [.t 2, .t 3]⟩

/-- unravel/grid.Parse -/
def b31 : AC :=
  .seq (.reg [⟨some 2, .new [.nilS, .nilS], none⟩,
     ⟨some 3, .mv (.k (.sc (.int .i64 0))), none⟩] [0, 2])
  (.seq (.seq (.reg [⟨some 10, .mv (.t 0), none⟩,
       ⟨some 11, .len true (.t 10), none⟩,
       ⟨some 12, .bin .gtr (.t 11) (.k (.sc (.int .i64 65536))), none⟩] [0, 2, 12])
    (.cond (.t 12)
      (.seq (.reg [⟨some 13, .bld [.nilS, .nilS] [], none⟩,
          ⟨none, .st 2 (.t 2) (.t 13), none⟩,
          ⟨some 3, .mv (.k (.sc (.int .i64 5))), none⟩] [2, 3])
       (.ret))
      (.skip)))
   (.seq (.reg [⟨some 15, .mv (.t 0), none⟩,
       ⟨some 16, .call 45 [(.t 15), (.k (.sc (.str ⟨#[32, 47, 32]⟩)))], none⟩,
       ⟨some 14, .mv (.t 16), none⟩,
       ⟨some 17, .ext (.t 14) 0, none⟩,
       ⟨some 18, .ext (.t 14) 1, none⟩,
       ⟨some 19, .ext (.t 14) 2, none⟩,
       ⟨some 4, .mv (.t 17), none⟩,
       ⟨some 5, .mv (.t 18), none⟩,
       ⟨some 6, .mv (.t 19), none⟩] [0, 2, 4, 5])
    (.seq (.reg [⟨some 20, .mv (.t 4), none⟩,
        ⟨some 21, .call 46 [(.t 20)], none⟩,
        ⟨some 22, .mv (.t 5), none⟩,
        ⟨some 23, .call 46 [(.t 22)], none⟩,
        ⟨some 24, .bld [.nilS, .nilS] [(0, 1, .t 21), (1, 1, .t 23)], none⟩,
        ⟨some 7, .new [.nilS, .nilS], none⟩,
        ⟨none, .st 2 (.t 7) (.t 24), none⟩] [0, 2, 7])
     (.seq (.seq (.reg [⟨some 26, .ld 2 true (.t 7), none⟩,
          ⟨some 27, .call 30 [(.t 26)], none⟩,
          ⟨some 25, .mv (.t 27), none⟩,
          ⟨some 28, .ext (.t 25) 0, none⟩,
          ⟨some 29, .ext (.t 25) 1, none⟩,
          ⟨some 8, .mv (.t 28), none⟩,
          ⟨some 9, .mv (.t 29), none⟩] [0, 2, 7, 8, 9])
       (.seq (.reg [⟨some 30, .mv (.t 9), none⟩,
           ⟨some 31, .bin .neq (.t 30) (.k (.sc (.int .i64 0))), none⟩,
           ⟨some 32, .mv (.t 31), none⟩,
           ⟨some 33, .mv (.t 8), (some (32, false))⟩,
           ⟨some 34, .mv (.t 0), (some (32, false))⟩,
           ⟨some 35, .bin .neq (.t 33) (.t 34), (some (32, false))⟩,
           ⟨some 36, .pick (.t 32) (.k (.sc (.bool true))) (.t 35), none⟩] [2, 7, 36])
        (.cond (.t 36)
          (.seq (.reg [⟨some 37, .bld [.nilS, .nilS] [], none⟩,
              ⟨none, .st 2 (.t 2) (.t 37), none⟩,
              ⟨some 3, .mv (.k (.sc (.int .i64 3))), none⟩] [2, 3])
           (.ret))
          (.skip))))
      (.seq (.reg [⟨some 38, .ld 2 true (.t 7), none⟩,
          ⟨none, .st 2 (.t 2) (.t 38), none⟩,
          ⟨some 3, .mv (.k (.sc (.int .i64 0))), none⟩] [2, 3])
       (.ret))))))
def a31 : AFun := ⟨1, b31, [.cell 2 2 true, .t 3]⟩

/-- unravel/unravelref42.Format -/
def b32 : AC :=
  .seq (.reg [⟨some 1, .box (.t 0), none⟩,
     ⟨some 2, .mv (.k (.sc (.str ⟨#[]⟩))), none⟩] [1])
  (.seq (.regd [(⟨some 3, .fldA 0 (.t 1), none⟩, 0, false),
      (⟨some 4, .ld 1 false (.t 3), none⟩, 1, false),
      (⟨some 5, .call 47 [(.t 4)], none⟩, 2, false),
      (⟨some 6, .bin .add (.t 5) (.k (.sc (.str ⟨#[32, 47, 32]⟩))), none⟩, 3, false),
      (⟨some 7, .fldA 1 (.t 1), none⟩, 4, false),
      (⟨some 8, .ld 1 false (.t 7), none⟩, 5, false),
      (⟨some 9, .call 47 [(.t 8)], none⟩, 6, true),
      (⟨some 10, .bin .add (.t 6) (.t 9), none⟩, 7, false),
      (⟨some 2, .mv (.t 10), none⟩, 8, false)] [2])
   (.ret))
def a32 : AFun := ⟨1, b32, [.t 2]⟩

/-- unravel/unravelref42.Parse -/
def b33 : AC :=
  .seq (.reg [⟨some 2, .new [.nilS, .nilS], none⟩,
     ⟨some 3, .mv (.k (.sc (.int .i64 0))), none⟩] [0, 2])
  (.seq (.seq (.reg [⟨some 6, .mv (.t 0), none⟩,
       ⟨some 7, .len true (.t 6), none⟩,
       ⟨some 8, .bin .gtr (.t 7) (.k (.sc (.int .i64 65536))), none⟩] [0, 2, 8])
    (.cond (.t 8)
      (.seq (.reg [⟨some 9, .bld [.nilS, .nilS] [], none⟩,
          ⟨none, .st 2 (.t 2) (.t 9), none⟩,
          ⟨some 3, .mv (.k (.sc (.int .i64 5))), none⟩] [2, 3])
       (.ret))
      (.skip)))
   (.seq (.reg [⟨some 10, .mv (.t 0), none⟩,
       ⟨some 11, .call 48 [(.t 10)], none⟩,
       ⟨some 4, .mv (.t 11), none⟩] [0, 2, 4])
    (.seq (.regd [(⟨some 12, .mv (.t 4), none⟩, 0, false),
        (⟨some 13, .mv (.t 4), none⟩, 1, false),
        (⟨some 14, .len false (.t 13), none⟩, 2, false),
        (⟨some 15, .bin .quo (.t 14) (.k (.sc (.int .i64 2))), none⟩, 3, false),
        (⟨some 16, .sl1 (.t 12) none (some (.t 15)), none⟩, 4, false),
        (⟨some 17, .mv (.t 4), none⟩, 5, false),
        (⟨some 18, .mv (.t 4), none⟩, 6, false),
        (⟨some 19, .len false (.t 18), none⟩, 7, false),
        (⟨some 20, .bin .quo (.t 19) (.k (.sc (.int .i64 2))), none⟩, 8, false),
        (⟨some 21, .sl1 (.t 17) (some (.t 20)) none, none⟩, 9, false),
        (⟨some 22, .bld [.nilS, .nilS] [(0, 1, .t 16), (1, 1, .t 21)], none⟩, 10, false),
        (⟨some 5, .new [.nilS, .nilS], none⟩, 11, true),
        (⟨none, .st 2 (.t 5) (.t 22), none⟩, 12, true)] [0, 2, 5])
     (.seq (.seq (.reg [⟨some 23, .ld 2 true (.t 5), none⟩,
          ⟨some 24, .call 14 [(.t 23)], none⟩,
          ⟨some 25, .un .not (.t 24), none⟩,
          ⟨some 26, .mv (.t 25), none⟩,
          ⟨some 27, .ld 2 true (.t 5), (some (26, false))⟩,
          ⟨some 28, .call 32 [(.t 27)], (some (26, false))⟩,
          ⟨some 29, .mv (.t 0), (some (26, false))⟩,
          ⟨some 30, .bin .neq (.t 28) (.t 29), (some (26, false))⟩,
          ⟨some 31, .pick (.t 26) (.k (.sc (.bool true))) (.t 30), none⟩] [2, 5, 31])
       (.cond (.t 31)
         (.seq (.reg [⟨some 32, .bld [.nilS, .nilS] [], none⟩,
             ⟨none, .st 2 (.t 2) (.t 32), none⟩,
             ⟨some 3, .mv (.k (.sc (.int .i64 3))), none⟩] [2, 3])
          (.ret))
         (.skip)))
      (.seq (.reg [⟨some 33, .ld 2 true (.t 5), none⟩,
          ⟨none, .st 2 (.t 2) (.t 33), none⟩,
          ⟨some 3, .mv (.k (.sc (.int .i64 0))), none⟩] [2, 3])
       (.ret))))))
def a33 : AFun := ⟨1, b33, [.cell 2 2 true, .t 3]⟩

def b34L0 : AC :=
  .seq (.reg [⟨some 12, .bin .lss (.t 11) (.t 10), none⟩] [0, 3, 9, 10, 11, 12])
  (.seq (.cond (.t 12)
     (.skip)
     (.exit 0))
   (.seq (.block 1 (.seq (.reg [⟨some 13, .idxA 1 (.t 9) (.t 11), none⟩,
         ⟨some 14, .ld 1 false (.t 13), none⟩,
         ⟨some 5, .mv (.t 14), none⟩] [0, 3, 5, 9, 10, 11])
      (.seq (.seq (.reg [⟨some 15, .mv (.t 5), none⟩,
           ⟨some 16, .bin .lss (.t 15) (.k (.sc (.int .i64 0))), none⟩,
           ⟨some 17, .mv (.t 16), none⟩,
           ⟨some 18, .mv (.t 5), (some (17, false))⟩,
           ⟨some 19, .mv (.t 0), (some (17, false))⟩,
           ⟨some 20, .len false (.t 19), (some (17, false))⟩,
           ⟨some 21, .bin .geq (.t 18) (.t 20), (some (17, false))⟩,
           ⟨some 22, .pick (.t 17) (.k (.sc (.bool true))) (.t 21), none⟩,
           ⟨some 23, .mv (.t 22), none⟩,
           ⟨some 24, .mv (.t 3), (some (23, false))⟩,
           ⟨some 25, .mv (.t 5), (some (23, false))⟩,
           ⟨some 26, .idxA 1 (.t 24) (.t 25), (some (23, false))⟩,
           ⟨some 27, .ld 1 false (.t 26), (some (23, false))⟩,
           ⟨some 28, .pick (.t 23) (.k (.sc (.bool true))) (.t 27), none⟩] [0, 3, 5, 9, 10, 11, 28])
        (.cond (.t 28)
          (.seq (.reg [⟨some 2, .mv (.k (.sc (.bool false))), none⟩] [2])
           (.ret))
          (.skip)))
       (.reg [⟨some 29, .mv (.t 3), none⟩,
          ⟨some 30, .mv (.t 5), none⟩,
          ⟨some 31, .idxA 1 (.t 29) (.t 30), none⟩,
          ⟨none, .st 1 (.t 31) (.k (.sc (.bool true))), none⟩] [0, 3, 9, 10, 11]))))
    (.reg [⟨some 32, .bin .add (.t 11) (.k (.sc (.int .i64 1))), none⟩,
       ⟨some 11, .mv (.t 32), none⟩] [0, 3, 9, 10, 11])))
/-- unravel/grid.permutation -/
def b34 : AC :=
  .seq (.reg [⟨some 2, .mv (.k (.sc (.bool false))), none⟩] [0])
  (.seq (.reg [⟨some 6, .mv (.t 0), none⟩,
      ⟨some 7, .len false (.t 6), none⟩,
      ⟨some 8, .mk 1 1 [.bool false] (.t 7) (.t 7), none⟩,
      ⟨some 3, .mv (.t 8), none⟩] [0, 3])
   (.seq (.seq (.reg [⟨some 9, .mv (.t 0), none⟩,
        ⟨some 10, .len false (.t 9), none⟩,
        ⟨some 11, .mv (.k (.sc (.int .i64 0))), none⟩] [0, 3, 9, 10, 11])
     (.block 0 (.loop [0, 3, 9, 10, 11] b34L0)))
    (.seq (.reg [⟨some 2, .mv (.k (.sc (.bool true))), none⟩] [2])
     (.ret))))
def a34 : AFun := ⟨1, b34, [.t 2]⟩

def b35L0 : AC :=
  .seq (.seq (.reg [⟨some 10, .mv (.t 5), none⟩,
      ⟨some 11, .mv (.t 1), none⟩,
      ⟨some 12, .bin .lss (.t 10) (.t 11), none⟩] [0, 1, 5, 12])
   (.cond (.t 12)
     (.skip)
     (.exit 0)))
  (.seq (.block 1 (.seq (.reg [⟨some 15, .mv (.t 0), none⟩,
        ⟨some 16, .mv (.t 5), none⟩,
        ⟨some 17, .call 49 [(.t 15), (.t 16)], none⟩,
        ⟨some 18, .un .not (.t 17), none⟩] [0, 1, 5, 18])
     (.cond (.t 18)
       (.seq (.reg [⟨some 4, .mv (.k (.sc (.bool false))), none⟩] [4])
        (.ret))
       (.skip))))
   (.reg [⟨some 13, .mv (.t 5), none⟩,
      ⟨some 14, .bin .add (.t 13) (.k (.sc (.int .i64 1))), none⟩,
      ⟨some 5, .mv (.t 14), none⟩] [0, 1, 5]))
/-- unravel/unravelref01.IsPerm -/
def b35 : AC :=
  .seq (.reg [⟨some 4, .mv (.k (.sc (.bool false))), none⟩] [0, 1])
  (.seq (.seq (.reg [⟨some 6, .mv (.t 0), none⟩,
       ⟨some 7, .len false (.t 6), none⟩,
       ⟨some 8, .mv (.t 1), none⟩,
       ⟨some 9, .bin .neq (.t 7) (.t 8), none⟩] [0, 1, 9])
    (.cond (.t 9)
      (.seq (.reg [⟨some 4, .mv (.k (.sc (.bool false))), none⟩] [4])
       (.ret))
      (.skip)))
   (.seq (.seq (.reg [⟨some 5, .mv (.k (.sc (.int .i64 0))), none⟩] [0, 1, 5])
     (.block 0 (.loop [0, 1, 5] b35L0)))
    (.seq (.reg [⟨some 4, .mv (.k (.sc (.bool true))), none⟩] [4])
     (.ret))))
def a35 : AFun := ⟨2, b35, [.t 4]⟩

def b36L0 : AC :=
  .seq (.reg [⟨some 12, .bin .lss (.t 11) (.t 10), none⟩] [3, 9, 10, 11, 12])
  (.seq (.cond (.t 12)
     (.skip)
     (.exit 0))
   (.seq (.block 1 (.seq (.reg [⟨some 13, .mv (.t 11), none⟩,
         ⟨some 14, .idxA 1 (.t 9) (.t 11), none⟩,
         ⟨some 15, .ld 1 false (.t 14), none⟩,
         ⟨some 4, .mv (.t 13), none⟩,
         ⟨some 5, .mv (.t 15), none⟩] [3, 4, 5, 9, 10, 11])
      (.reg [⟨some 16, .ld 1 false (.t 3), none⟩,
         ⟨some 17, .mv (.t 5), none⟩,
         ⟨some 18, .mv (.t 4), none⟩,
         ⟨some 19, .idxA 1 (.t 16) (.t 17), none⟩,
         ⟨none, .st 1 (.t 19) (.t 18), none⟩] [3, 9, 10, 11])))
    (.reg [⟨some 20, .bin .add (.t 11) (.k (.sc (.int .i64 1))), none⟩,
       ⟨some 11, .mv (.t 20), none⟩] [3, 9, 10, 11])))
/-- unravel/grid.columns -/
def b36 : AC :=
  .seq (.reg [⟨some 2, .mv (.k (.sc .nilF)), none⟩] [0])
  (.seq (.reg [⟨some 6, .mv (.t 0), none⟩,
      ⟨some 7, .len false (.t 6), none⟩,
      ⟨some 8, .mk 1 8 [.int .i64 0] (.t 7) (.t 7), none⟩,
      ⟨some 3, .new [.nilS], none⟩,
      ⟨none, .st 1 (.t 3) (.t 8), none⟩] [0, 3])
   (.seq (.seq (.reg [⟨some 9, .mv (.t 0), none⟩,
        ⟨some 10, .len false (.t 9), none⟩,
        ⟨some 11, .mv (.k (.sc (.int .i64 0))), none⟩] [3, 9, 10, 11])
     (.block 0 (.loop [3, 9, 10, 11] b36L0)))
    (.seq (.reg [⟨some 21, .mkf 50 [(.t 3)], none⟩,
        ⟨some 2, .mv (.t 21), none⟩] [2])
     (.ret))))
def a36 : AFun := ⟨1, b36, [.t 2]⟩

def b37L0 : AC :=
  .seq (.seq (.reg [⟨some 6, .mv (.t 5), none⟩,
      ⟨some 7, .mv (.t 0), none⟩,
      ⟨some 8, .len false (.t 7), none⟩,
      ⟨some 9, .bin .lss (.t 6) (.t 8), none⟩] [0, 1, 5, 9])
   (.cond (.t 9)
     (.skip)
     (.exit 0)))
  (.seq (.block 1 (.seq (.reg [⟨some 12, .mv (.t 0), none⟩,
        ⟨some 13, .mv (.t 5), none⟩,
        ⟨some 14, .idxA 1 (.t 12) (.t 13), none⟩,
        ⟨some 15, .ld 1 false (.t 14), none⟩,
        ⟨some 16, .mv (.t 1), none⟩,
        ⟨some 17, .bin .eql (.t 15) (.t 16), none⟩] [0, 1, 5, 17])
     (.cond (.t 17)
       (.seq (.reg [⟨some 18, .mv (.t 5), none⟩,
           ⟨some 4, .mv (.t 18), none⟩] [4])
        (.ret))
       (.skip))))
   (.reg [⟨some 10, .mv (.t 5), none⟩,
      ⟨some 11, .bin .add (.t 10) (.k (.sc (.int .i64 1))), none⟩,
      ⟨some 5, .mv (.t 11), none⟩] [0, 1, 5]))
/-- unravel/unravelref42.Column -/
def b37 : AC :=
  .seq (.reg [⟨some 4, .mv (.k (.sc (.int .i64 0))), none⟩] [0, 1])
  (.seq (.seq (.reg [⟨some 5, .mv (.k (.sc (.int .i64 0))), none⟩] [0, 1, 5])
    (.block 0 (.loop [0, 1, 5] b37L0)))
   (.seq (.reg [⟨some 4, .mv (.k (.sc (.int .i64 (-1)))), none⟩] [4])
    (.ret)))
def a37 : AFun := ⟨2, b37, [.t 4]⟩

/-- unravel/unravelref42.between -/
def b38 : AC :=
  .seq (.reg [⟨some 6, .mv (.k (.sc (.bool false))), none⟩] [0, 1, 2])
  (.seq (.reg [⟨some 7, .mv (.t 1), none⟩,
      ⟨some 8, .mv (.t 2), none⟩,
      ⟨some 9, .mm false (.t 7) [(.t 8)], none⟩,
      ⟨some 10, .mv (.t 0), none⟩,
      ⟨some 11, .bin .lss (.t 9) (.t 10), none⟩,
      ⟨some 12, .mv (.t 11), none⟩,
      ⟨some 13, .mv (.t 0), (some (12, true))⟩,
      ⟨some 14, .mv (.t 1), (some (12, true))⟩,
      ⟨some 15, .mv (.t 2), (some (12, true))⟩,
      ⟨some 16, .mm true (.t 14) [(.t 15)], (some (12, true))⟩,
      ⟨some 17, .bin .lss (.t 13) (.t 16), (some (12, true))⟩,
      ⟨some 18, .pick (.t 12) (.t 17) (.k (.sc (.bool false))), none⟩,
      ⟨some 6, .mv (.t 18), none⟩] [6])
   (.ret))
def a38 : AFun := ⟨3, b38, [.t 6]⟩

def b39L0 : AC :=
  .seq (.reg [⟨some 21, .bin .lss (.t 20) (.t 19), none⟩] [1, 2, 3, 6, 7, 8, 19, 20, 21])
  (.seq (.cond (.t 21)
     (.skip)
     (.exit 0))
   (.seq (.block 1 (.seq (.reg [⟨some 22, .mv (.t 20), none⟩,
         ⟨some 9, .mv (.t 22), none⟩] [1, 2, 3, 6, 7, 8, 9, 19, 20])
      (.seq (.reg [⟨some 23, .mv (.t 9), none⟩,
          ⟨some 24, .mv (.t 1), none⟩,
          ⟨some 25, .bin .add (.t 23) (.t 24), none⟩,
          ⟨some 26, .mv (.t 7), none⟩,
          ⟨some 27, .bin .rem (.t 25) (.t 26), none⟩,
          ⟨some 10, .mv (.t 27), none⟩] [1, 2, 3, 6, 7, 8, 9, 10, 19, 20])
       (.seq (.regd [(⟨some 28, .fldA 0 (.t 8), none⟩, 0, false),
           (⟨some 29, .ld 1 false (.t 28), none⟩, 1, false),
           (⟨some 30, .mv (.t 10), none⟩, 2, false),
           (⟨some 31, .fldA 0 (.t 3), none⟩, 3, false),
           (⟨some 32, .ld 1 false (.t 31), none⟩, 4, false),
           (⟨some 33, .mv (.t 9), none⟩, 5, false),
           (⟨some 34, .idxA 1 (.t 32) (.t 33), none⟩, 6, false),
           (⟨some 35, .ld 1 false (.t 34), none⟩, 7, false),
           (⟨some 36, .mv (.t 2), none⟩, 8, false),
           (⟨some 37, .bin .add (.t 35) (.t 36), none⟩, 9, false),
           (⟨some 38, .mv (.t 7), none⟩, 10, false),
           (⟨some 39, .bin .rem (.t 37) (.t 38), none⟩, 11, false),
           (⟨some 40, .idxA 1 (.t 29) (.t 30), none⟩, 12, false),
           (⟨none, .st 1 (.t 40) (.t 39), none⟩, 13, true)] [1, 2, 3, 6, 7, 8, 9, 10, 19, 20])
        (.regd [(⟨some 41, .fldA 1 (.t 8), none⟩, 0, false),
           (⟨some 42, .ld 1 false (.t 41), none⟩, 1, false),
           (⟨some 43, .mv (.t 10), none⟩, 2, false),
           (⟨some 44, .fldA 1 (.t 3), none⟩, 3, false),
           (⟨some 45, .ld 1 false (.t 44), none⟩, 4, false),
           (⟨some 46, .mv (.t 9), none⟩, 5, false),
           (⟨some 47, .idxA 1 (.t 45) (.t 46), none⟩, 6, false),
           (⟨some 48, .ld 1 false (.t 47), none⟩, 7, false),
           (⟨some 49, .mv (.t 2), none⟩, 8, false),
           (⟨some 50, .bin .add (.t 48) (.t 49), none⟩, 9, false),
           (⟨some 51, .mv (.t 7), none⟩, 10, false),
           (⟨some 52, .bin .rem (.t 50) (.t 51), none⟩, 11, false),
           (⟨some 53, .idxA 1 (.t 42) (.t 43), none⟩, 12, false),
           (⟨none, .st 1 (.t 53) (.t 52), none⟩, 13, true)] [1, 2, 3, 6, 7, 8, 19, 20])))))
    (.reg [⟨some 54, .bin .add (.t 20) (.k (.sc (.int .i64 1))), none⟩,
       ⟨some 20, .mv (.t 54), none⟩] [1, 2, 3, 6, 7, 8, 19, 20])))
/-- unravel/grid.translate -/
def b39 : AC :=
  .seq (.reg [⟨some 3, .box (.t 0), none⟩,
     ⟨some 6, .new [.nilS, .nilS], none⟩] [1, 2, 3, 6])
  (.seq (.reg [⟨some 11, .fldA 0 (.t 3), none⟩,
      ⟨some 12, .ld 1 false (.t 11), none⟩,
      ⟨some 13, .len false (.t 12), none⟩,
      ⟨some 7, .mv (.t 13), none⟩] [1, 2, 3, 6, 7])
   (.seq (.regd [(⟨some 14, .mv (.t 7), none⟩, 0, false),
       (⟨some 15, .mk 1 8 [.int .i64 0] (.t 14) (.t 14), none⟩, 1, false),
       (⟨some 16, .mv (.t 7), none⟩, 2, false),
       (⟨some 17, .mk 1 8 [.int .i64 0] (.t 16) (.t 16), none⟩, 3, false),
       (⟨some 18, .bld [.nilS, .nilS] [(0, 1, .t 15), (1, 1, .t 17)], none⟩, 4, false),
       (⟨some 8, .new [.nilS, .nilS], none⟩, 5, false),
       (⟨none, .st 2 (.t 8) (.t 18), none⟩, 6, true)] [1, 2, 3, 6, 7, 8])
    (.seq (.seq (.reg [⟨some 19, .mv (.t 7), none⟩,
         ⟨some 20, .mv (.k (.sc (.int .i64 0))), none⟩] [1, 2, 3, 6, 7, 8, 19, 20])
      (.block 0 (.loop [1, 2, 3, 6, 7, 8, 19, 20] b39L0)))
     (.seq (.reg [⟨some 55, .ld 2 true (.t 8), none⟩,
         ⟨none, .st 2 (.t 6) (.t 55), none⟩] [6])
      (.ret)))))
def a39 : AFun := ⟨3, b39, [.cell 6 2 true]⟩

/-- unravel/grid.compare -/
def b40 : AC :=
  .seq (.reg [⟨some 2, .box (.t 0), none⟩,
     ⟨some 3, .box (.t 1), none⟩,
     ⟨some 4, .mv (.k (.sc (.int .i64 0))), none⟩] [2, 3])
  (.seq (.seq (.reg [⟨some 6, .fldA 0 (.t 2), none⟩,
       ⟨some 7, .ld 1 false (.t 6), none⟩,
       ⟨some 8, .fldA 0 (.t 3), none⟩,
       ⟨some 9, .ld 1 false (.t 8), none⟩,
       ⟨some 10, .call 51 [(.t 7), (.t 9)], none⟩,
       ⟨some 5, .mv (.t 10), none⟩] [2, 3, 5])
    (.seq (.reg [⟨some 11, .mv (.t 5), none⟩,
        ⟨some 12, .bin .neq (.t 11) (.k (.sc (.int .i64 0))), none⟩] [2, 3, 5, 12])
     (.cond (.t 12)
       (.seq (.reg [⟨some 13, .mv (.t 5), none⟩,
           ⟨some 4, .mv (.t 13), none⟩] [4])
        (.ret))
       (.skip))))
   (.seq (.reg [⟨some 14, .fldA 1 (.t 2), none⟩,
       ⟨some 15, .ld 1 false (.t 14), none⟩,
       ⟨some 16, .fldA 1 (.t 3), none⟩,
       ⟨some 17, .ld 1 false (.t 16), none⟩,
       ⟨some 18, .call 51 [(.t 15), (.t 17)], none⟩,
       ⟨some 4, .mv (.t 18), none⟩] [4])
    (.ret)))
def a40 : AFun := ⟨2, b40, [.t 4]⟩

def b41L0 : AC :=
  .seq (.seq (.reg [⟨some 11, .mv (.t 5), none⟩,
      ⟨some 12, .mv (.t 0), none⟩,
      ⟨some 13, .len false (.t 12), none⟩,
      ⟨some 14, .bin .lss (.t 11) (.t 13), none⟩] [0, 1, 5, 14])
   (.cond (.t 14)
     (.skip)
     (.exit 0)))
  (.seq (.block 1 (.seq (.regd [(⟨some 17, .mv (.t 0), none⟩, 0, false),
        (⟨some 18, .mv (.t 5), none⟩, 1, false),
        (⟨some 19, .idxA 1 (.t 17) (.t 18), none⟩, 2, false),
        (⟨some 20, .ld 1 false (.t 19), none⟩, 3, false),
        (⟨some 21, .mv (.t 1), none⟩, 4, false),
        (⟨some 22, .mv (.t 5), none⟩, 5, false),
        (⟨some 23, .idxA 1 (.t 21) (.t 22), none⟩, 6, false),
        (⟨some 24, .ld 1 false (.t 23), none⟩, 7, false),
        (⟨some 25, .bin .neq (.t 20) (.t 24), none⟩, 8, false)] [0, 1, 5, 25])
     (.cond (.t 25)
       (.seq (.reg [⟨some 4, .mv (.k (.sc (.bool false))), none⟩] [4])
        (.ret))
       (.skip))))
   (.reg [⟨some 15, .mv (.t 5), none⟩,
      ⟨some 16, .bin .add (.t 15) (.k (.sc (.int .i64 1))), none⟩,
      ⟨some 5, .mv (.t 16), none⟩] [0, 1, 5]))
/-- unravel/unravelref01.Ints -/
def b41 : AC :=
  .seq (.reg [⟨some 4, .mv (.k (.sc (.bool false))), none⟩] [0, 1])
  (.seq (.seq (.reg [⟨some 6, .mv (.t 0), none⟩,
       ⟨some 7, .len false (.t 6), none⟩,
       ⟨some 8, .mv (.t 1), none⟩,
       ⟨some 9, .len false (.t 8), none⟩,
       ⟨some 10, .bin .neq (.t 7) (.t 9), none⟩] [0, 1, 10])
    (.cond (.t 10)
      (.seq (.reg [⟨some 4, .mv (.k (.sc (.bool false))), none⟩] [4])
       (.ret))
      (.skip)))
   (.seq (.seq (.reg [⟨some 5, .mv (.k (.sc (.int .i64 0))), none⟩] [0, 1, 5])
     (.block 0 (.loop [0, 1, 5] b41L0)))
    (.seq (.reg [⟨some 4, .mv (.k (.sc (.bool true))), none⟩] [4])
     (.ret))))
def a41 : AFun := ⟨2, b41, [.t 4]⟩

/-- unravel/unravelref42.mod -/
def b42 : AC :=
  .seq (.reg [⟨some 4, .mv (.k (.sc (.int .i64 0))), none⟩] [0, 1])
  (.seq (.reg [⟨some 5, .mv (.t 0), none⟩,
      ⟨some 6, .mv (.t 1), none⟩,
      ⟨some 7, .bin .rem (.t 5) (.t 6), none⟩,
      ⟨some 8, .mv (.t 1), none⟩,
      ⟨some 9, .bin .add (.t 7) (.t 8), none⟩,
      ⟨some 10, .mv (.t 1), none⟩,
      ⟨some 11, .bin .rem (.t 9) (.t 10), none⟩,
      ⟨some 4, .mv (.t 11), none⟩] [4])
   (.ret))
def a42 : AFun := ⟨2, b42, [.t 4]⟩

def b43L0 : AC :=
  .seq (.seq (.reg [⟨some 22, .mv (.t 7), none⟩,
      ⟨some 23, .mv (.t 5), none⟩,
      ⟨some 24, .len false (.t 23), none⟩,
      ⟨some 25, .bin .lss (.t 22) (.t 24), none⟩] [5, 6, 7, 25])
   (.cond (.t 25)
     (.skip)
     (.exit 0)))
  (.seq (.block 1 (.seq (.regd [(⟨some 28, .mv (.t 5), none⟩, 0, false),
        (⟨some 29, .mv (.t 7), none⟩, 1, false),
        (⟨some 30, .idxA 1 (.t 28) (.t 29), none⟩, 2, false),
        (⟨some 31, .ld 1 false (.t 30), none⟩, 3, false),
        (⟨some 32, .mv (.t 6), none⟩, 4, false),
        (⟨some 33, .mv (.t 7), none⟩, 5, false),
        (⟨some 34, .idxA 1 (.t 32) (.t 33), none⟩, 6, false),
        (⟨some 35, .ld 1 false (.t 34), none⟩, 7, false),
        (⟨some 36, .bin .neq (.t 31) (.t 35), none⟩, 8, false)] [5, 6, 7, 36])
     (.cond (.t 36)
       (.seq (.regd [(⟨some 37, .mv (.t 5), none⟩, 0, false),
           (⟨some 38, .mv (.t 7), none⟩, 1, false),
           (⟨some 39, .idxA 1 (.t 37) (.t 38), none⟩, 2, false),
           (⟨some 40, .ld 1 false (.t 39), none⟩, 3, false),
           (⟨some 41, .mv (.t 6), none⟩, 4, false),
           (⟨some 42, .mv (.t 7), none⟩, 5, false),
           (⟨some 43, .idxA 1 (.t 41) (.t 42), none⟩, 6, false),
           (⟨some 44, .ld 1 false (.t 43), none⟩, 7, false),
           (⟨some 45, .bin .lss (.t 40) (.t 44), none⟩, 8, false),
           (⟨some 4, .mv (.t 45), none⟩, 9, false)] [4])
        (.ret))
       (.skip))))
   (.reg [⟨some 26, .mv (.t 7), none⟩,
      ⟨some 27, .bin .add (.t 26) (.k (.sc (.int .i64 1))), none⟩,
      ⟨some 7, .mv (.t 27), none⟩] [5, 6, 7]))
/-- unravel/unravelref42.Less -/
def b43 : AC :=
  .seq (.reg [⟨some 2, .box (.t 0), none⟩,
     ⟨some 3, .box (.t 1), none⟩,
     ⟨some 4, .mv (.k (.sc (.bool false))), none⟩] [2, 3])
  (.seq (.regd [(⟨some 8, .bsl 1 [.int .i64 0] 0 [], none⟩, 0, false),
      (⟨some 9, .fldA 0 (.t 2), none⟩, 1, false),
      (⟨some 10, .ld 1 false (.t 9), none⟩, 2, false),
      (⟨some 11, .app 1 8 [.int .i64 0] (.t 8) (.t 10), none⟩, 3, false),
      (⟨some 12, .fldA 1 (.t 2), none⟩, 4, false),
      (⟨some 13, .ld 1 false (.t 12), none⟩, 5, false),
      (⟨some 14, .app 1 8 [.int .i64 0] (.t 11) (.t 13), none⟩, 6, true),
      (⟨some 5, .mv (.t 14), none⟩, 7, false)] [3, 5])
   (.seq (.regd [(⟨some 15, .bsl 1 [.int .i64 0] 0 [], none⟩, 0, false),
       (⟨some 16, .fldA 0 (.t 3), none⟩, 1, false),
       (⟨some 17, .ld 1 false (.t 16), none⟩, 2, false),
       (⟨some 18, .app 1 8 [.int .i64 0] (.t 15) (.t 17), none⟩, 3, false),
       (⟨some 19, .fldA 1 (.t 3), none⟩, 4, false),
       (⟨some 20, .ld 1 false (.t 19), none⟩, 5, false),
       (⟨some 21, .app 1 8 [.int .i64 0] (.t 18) (.t 20), none⟩, 6, true),
       (⟨some 6, .mv (.t 21), none⟩, 7, false)] [5, 6])
    (.seq (.seq (.reg [⟨some 7, .mv (.k (.sc (.int .i64 0))), none⟩] [5, 6, 7])
      (.block 0 (.loop [5, 6, 7] b43L0)))
     (.seq (.reg [⟨some 4, .mv (.k (.sc (.bool false))), none⟩] [4])
      (.ret)))))
def a43 : AFun := ⟨2, b43, [.t 4]⟩

def b44L0 : AC :=
  .seq (.reg [⟨some 9, .bin .lss (.t 8) (.t 7), none⟩] [3, 6, 7, 8, 9])
  (.seq (.cond (.t 9)
     (.skip)
     (.exit 0))
   (.seq (.block 1 (.seq (.reg [⟨some 10, .mv (.t 8), none⟩,
         ⟨some 11, .idxA 1 (.t 6) (.t 8), none⟩,
         ⟨some 12, .ld 1 false (.t 11), none⟩,
         ⟨some 4, .mv (.t 10), none⟩,
         ⟨some 5, .mv (.t 12), none⟩] [3, 4, 5, 6, 7, 8])
      (.seq (.seq (.reg [⟨some 13, .mv (.t 4), none⟩,
           ⟨some 14, .bin .gtr (.t 13) (.k (.sc (.int .i64 0))), none⟩] [3, 5, 6, 7, 8, 14])
        (.cond (.t 14)
          (.reg [⟨some 15, .call 52 [(.t 3), (.k (.sc (.int .u8 32)))], none⟩] [3, 5, 6, 7, 8])
          (.skip)))
       (.reg [⟨some 16, .mv (.t 5), none⟩,
          ⟨some 17, .call 54 [(.t 16)], none⟩,
          ⟨some 18, .call 53 [(.t 3), (.t 17)], none⟩] [3, 6, 7, 8]))))
    (.reg [⟨some 19, .bin .add (.t 8) (.k (.sc (.int .i64 1))), none⟩,
       ⟨some 8, .mv (.t 19), none⟩] [3, 6, 7, 8])))
/-- unravel/grid.list -/
def b44 : AC :=
  .seq (.reg [⟨some 2, .mv (.k (.sc (.str ⟨#[]⟩))), none⟩] [0])
  (.seq (.reg [⟨some 3, .newT 68 [.nilP, .nilS], none⟩] [0, 3])
   (.seq (.seq (.reg [⟨some 6, .mv (.t 0), none⟩,
        ⟨some 7, .len false (.t 6), none⟩,
        ⟨some 8, .mv (.k (.sc (.int .i64 0))), none⟩] [3, 6, 7, 8])
     (.block 0 (.loop [3, 6, 7, 8] b44L0)))
    (.seq (.reg [⟨some 20, .call 55 [(.t 3)], none⟩,
        ⟨some 2, .mv (.t 20), none⟩] [2])
     (.ret))))
def a44 : AFun := ⟨1, b44, [.t 2]⟩

def b46L0 : AC :=
  .seq (.reg [⟨some 12, .bin .lss (.t 11) (.t 10), none⟩] [3, 9, 10, 11, 12])
  (.seq (.cond (.t 12)
     (.skip)
     (.exit 0))
   (.seq (.block 1 (.seq (.reg [⟨some 13, .idxA 1 (.t 9) (.t 11), none⟩,
         ⟨some 14, .ld 1 false (.t 13), none⟩,
         ⟨some 5, .mv (.t 14), none⟩] [3, 5, 9, 10, 11])
      (.seq (.reg [⟨some 16, .mv (.t 5), none⟩,
          ⟨some 17, .call 58 [(.t 16)], none⟩,
          ⟨some 15, .mv (.t 17), none⟩,
          ⟨some 18, .ext (.t 15) 0, none⟩,
          ⟨some 19, .ext (.t 15) 1, none⟩,
          ⟨some 6, .mv (.t 18), none⟩,
          ⟨some 7, .mv (.t 19), none⟩] [3, 6, 7, 9, 10, 11])
       (.seq (.seq (.reg [⟨some 20, .mv (.t 7), none⟩,
            ⟨some 21, .isnil 3 true (.t 20), none⟩] [3, 6, 9, 10, 11, 21])
         (.cond (.t 21)
           (.seq (.reg [⟨some 2, .mv (.k (.sc .nilS)), none⟩] [2])
            (.ret))
           (.skip)))
        (.reg [⟨some 22, .mv (.t 3), none⟩,
           ⟨some 23, .mv (.t 6), none⟩,
           ⟨some 24, .bsl 1 [.int .i64 0] 1 [(0, .t 23)], none⟩,
           ⟨some 25, .app 1 8 [.int .i64 0] (.t 22) (.t 24), none⟩,
           ⟨some 3, .mv (.t 25), none⟩] [3, 9, 10, 11])))))
    (.reg [⟨some 26, .bin .add (.t 11) (.k (.sc (.int .i64 1))), none⟩,
       ⟨some 11, .mv (.t 26), none⟩] [3, 9, 10, 11])))
/-- unravel/grid.numbers -/
def b46 : AC :=
  .seq (.reg [⟨some 2, .mv (.k (.sc .nilS)), none⟩] [0])
  (.seq (.reg [⟨some 3, .mv (.k (.sc .nilS)), none⟩] [0, 3])
   (.seq (.seq (.reg [⟨some 8, .mv (.t 0), none⟩,
        ⟨some 9, .call 57 [(.t 8), (.k (.sc (.str ⟨#[32]⟩)))], none⟩,
        ⟨some 10, .len false (.t 9), none⟩,
        ⟨some 11, .mv (.k (.sc (.int .i64 0))), none⟩] [3, 9, 10, 11])
     (.block 0 (.loop [3, 9, 10, 11] b46L0)))
    (.seq (.reg [⟨some 27, .mv (.t 3), none⟩,
        ⟨some 2, .mv (.t 27), none⟩] [2])
     (.ret))))
def a46 : AFun := ⟨1, b46, [.t 2]⟩

def b47L0 : AC :=
  .seq (.seq (.reg [⟨some 5, .mv (.t 4), none⟩,
      ⟨some 6, .mv (.t 0), none⟩,
      ⟨some 7, .len false (.t 6), none⟩,
      ⟨some 8, .bin .lss (.t 5) (.t 7), none⟩] [0, 3, 4, 8])
   (.cond (.t 8)
     (.skip)
     (.exit 0)))
  (.seq (.block 1 (.seq (.seq (.reg [⟨some 11, .mv (.t 4), none⟩,
         ⟨some 12, .bin .gtr (.t 11) (.k (.sc (.int .i64 0))), none⟩] [0, 3, 4, 12])
      (.cond (.t 12)
        (.reg [⟨some 13, .mv (.t 3), none⟩,
           ⟨some 14, .bin .add (.t 13) (.k (.sc (.str ⟨#[32]⟩))), none⟩,
           ⟨some 3, .mv (.t 14), none⟩] [0, 3, 4])
        (.skip)))
     (.seq (.seq (.reg [⟨some 15, .mv (.t 0), none⟩,
          ⟨some 16, .mv (.t 4), none⟩,
          ⟨some 17, .idxA 1 (.t 15) (.t 16), none⟩,
          ⟨some 18, .ld 1 false (.t 17), none⟩,
          ⟨some 19, .bin .geq (.t 18) (.k (.sc (.int .i64 10))), none⟩] [0, 3, 4, 19])
       (.cond (.t 19)
         (.regd [(⟨some 20, .mv (.t 3), none⟩, 0, false),
            (⟨some 21, .mv (.t 0), none⟩, 1, false),
            (⟨some 22, .mv (.t 4), none⟩, 2, false),
            (⟨some 23, .idxA 1 (.t 21) (.t 22), none⟩, 3, false),
            (⟨some 24, .ld 1 false (.t 23), none⟩, 4, false),
            (⟨some 25, .bin .quo (.t 24) (.k (.sc (.int .i64 10))), none⟩, 5, false),
            (⟨some 26, .mv (.t 0), none⟩, 6, false),
            (⟨some 27, .mv (.t 4), none⟩, 7, false),
            (⟨some 28, .idxA 1 (.t 26) (.t 27), none⟩, 8, false),
            (⟨some 29, .ld 1 false (.t 28), none⟩, 9, false),
            (⟨some 30, .bin .quo (.t 29) (.k (.sc (.int .i64 10))), none⟩, 10, false),
            (⟨some 31, .bin .add (.t 30) (.k (.sc (.int .i64 1))), none⟩, 11, false),
            (⟨some 32, .slS (.k (.sc (.str ⟨#[48, 49, 50, 51, 52, 53, 54, 55, 56, 57]⟩))) (some (.t 25)) (some (.t 31)), none⟩, 12, false),
            (⟨some 33, .bin .add (.t 20) (.t 32), none⟩, 13, false),
            (⟨some 3, .mv (.t 33), none⟩, 14, false)] [0, 3, 4])
         (.skip)))
      (.regd [(⟨some 34, .mv (.t 3), none⟩, 0, false),
         (⟨some 35, .mv (.t 0), none⟩, 1, false),
         (⟨some 36, .mv (.t 4), none⟩, 2, false),
         (⟨some 37, .idxA 1 (.t 35) (.t 36), none⟩, 3, false),
         (⟨some 38, .ld 1 false (.t 37), none⟩, 4, false),
         (⟨some 39, .bin .rem (.t 38) (.k (.sc (.int .i64 10))), none⟩, 5, false),
         (⟨some 40, .mv (.t 0), none⟩, 6, false),
         (⟨some 41, .mv (.t 4), none⟩, 7, false),
         (⟨some 42, .idxA 1 (.t 40) (.t 41), none⟩, 8, false),
         (⟨some 43, .ld 1 false (.t 42), none⟩, 9, false),
         (⟨some 44, .bin .rem (.t 43) (.k (.sc (.int .i64 10))), none⟩, 10, false),
         (⟨some 45, .bin .add (.t 44) (.k (.sc (.int .i64 1))), none⟩, 11, false),
         (⟨some 46, .slS (.k (.sc (.str ⟨#[48, 49, 50, 51, 52, 53, 54, 55, 56, 57]⟩))) (some (.t 39)) (some (.t 45)), none⟩, 12, false),
         (⟨some 47, .bin .add (.t 34) (.t 46), none⟩, 13, false),
         (⟨some 3, .mv (.t 47), none⟩, 14, false)] [0, 3, 4]))))
   (.reg [⟨some 9, .mv (.t 4), none⟩,
      ⟨some 10, .bin .add (.t 9) (.k (.sc (.int .i64 1))), none⟩,
      ⟨some 4, .mv (.t 10), none⟩] [0, 3, 4]))
/-- unravel/unravelref42.numbers -/
def b47 : AC :=
  .seq (.reg [⟨some 2, .mv (.k (.sc (.str ⟨#[]⟩))), none⟩] [0])
  (.seq (.reg [⟨some 3, .mv (.k (.sc (.str ⟨#[]⟩))), none⟩] [0, 3])
   (.seq (.seq (.reg [⟨some 4, .mv (.k (.sc (.int .i64 0))), none⟩] [0, 3, 4])
     (.block 0 (.loop [0, 3, 4] b47L0)))
    (.seq (.reg [⟨some 48, .mv (.t 3), none⟩,
        ⟨some 2, .mv (.t 48), none⟩] [2])
     (.ret))))
def a47 : AFun := ⟨1, b47, [.t 2]⟩

def b48L0 : AC :=
  .seq (.seq (.reg [⟨some 7, .mv (.t 6), none⟩,
      ⟨some 8, .mv (.t 0), none⟩,
      ⟨some 9, .len true (.t 8), none⟩,
      ⟨some 10, .bin .leq (.t 7) (.t 9), none⟩] [0, 3, 4, 5, 6, 10])
   (.cond (.t 10)
     (.skip)
     (.exit 0)))
  (.seq (.block 1 (.seq (.seq (.reg [⟨some 13, .mv (.t 6), none⟩,
         ⟨some 14, .mv (.t 0), none⟩,
         ⟨some 15, .len true (.t 14), none⟩,
         ⟨some 16, .bin .lss (.t 13) (.t 15), none⟩,
         ⟨some 17, .mv (.t 16), none⟩,
         ⟨some 18, .mv (.t 0), (some (17, true))⟩,
         ⟨some 19, .mv (.t 6), (some (17, true))⟩,
         ⟨some 20, .idxS (.t 18) (.t 19), (some (17, true))⟩,
         ⟨some 21, .bin .geq (.t 20) (.k (.sc (.int .u8 48))), (some (17, true))⟩,
         ⟨some 22, .pick (.t 17) (.t 21) (.k (.sc (.bool false))), none⟩,
         ⟨some 23, .mv (.t 22), none⟩,
         ⟨some 24, .mv (.t 0), (some (23, true))⟩,
         ⟨some 25, .mv (.t 6), (some (23, true))⟩,
         ⟨some 26, .idxS (.t 24) (.t 25), (some (23, true))⟩,
         ⟨some 27, .bin .leq (.t 26) (.k (.sc (.int .u8 57))), (some (23, true))⟩,
         ⟨some 28, .pick (.t 23) (.t 27) (.k (.sc (.bool false))), none⟩] [0, 3, 4, 5, 6, 28])
      (.cond (.t 28)
        (.seq (.reg [⟨some 29, .mv (.t 4), none⟩,
            ⟨some 30, .bin .mul (.k (.sc (.int .i64 10))) (.t 29), none⟩,
            ⟨some 31, .mv (.t 0), none⟩,
            ⟨some 32, .mv (.t 6), none⟩,
            ⟨some 33, .idxS (.t 31) (.t 32), none⟩,
            ⟨some 34, .bin .sub (.t 33) (.k (.sc (.int .u8 48))), none⟩,
            ⟨some 35, .conv .i64 (.t 34), none⟩,
            ⟨some 36, .bin .add (.t 30) (.t 35), none⟩,
            ⟨some 37, .mm false (.t 36) [(.k (.sc (.int .i64 1000)))], none⟩,
            ⟨some 4, .mv (.t 37), none⟩] [0, 3, 4, 6])
         (.seq (.reg [⟨some 5, .mv (.k (.sc (.bool true))), none⟩] [0, 3, 4, 5, 6])
          (.exit 1)))
        (.skip)))
     (.seq (.seq (.reg [⟨some 38, .mv (.t 5), none⟩] [0, 3, 4, 6, 38])
       (.cond (.t 38)
         (.reg [⟨some 39, .mv (.t 3), none⟩,
            ⟨some 40, .mv (.t 4), none⟩,
            ⟨some 41, .bsl 1 [.int .i64 0] 1 [(0, .t 40)], none⟩,
            ⟨some 42, .app 1 8 [.int .i64 0] (.t 39) (.t 41), none⟩,
            ⟨some 3, .mv (.t 42), none⟩] [0, 3, 6])
         (.skip)))
      (.reg [⟨some 4, .mv (.k (.sc (.int .i64 0))), none⟩,
         ⟨some 5, .mv (.k (.sc (.bool false))), none⟩] [0, 3, 4, 5, 6]))))
   (.reg [⟨some 11, .mv (.t 6), none⟩,
      ⟨some 12, .bin .add (.t 11) (.k (.sc (.int .i64 1))), none⟩,
      ⟨some 6, .mv (.t 12), none⟩] [0, 3, 4, 5, 6]))
/-- unravel/unravelref42.read -/
def b48 : AC :=
  .seq (.reg [⟨some 2, .mv (.k (.sc .nilS)), none⟩] [0])
  (.seq (.reg [⟨some 3, .mv (.k (.sc .nilS)), none⟩] [0, 3])
   (.seq (.reg [⟨some 4, .mv (.k (.sc (.int .i64 0))), none⟩,
       ⟨some 5, .mv (.k (.sc (.bool false))), none⟩] [0, 3, 4, 5])
    (.seq (.seq (.reg [⟨some 6, .mv (.k (.sc (.int .i64 0))), none⟩] [0, 3, 4, 5, 6])
      (.block 0 (.loop [0, 3, 4, 5, 6] b48L0)))
     (.seq (.reg [⟨some 43, .mv (.t 3), none⟩,
         ⟨some 2, .mv (.t 43), none⟩] [2])
      (.ret)))))
def a48 : AFun := ⟨1, b48, [.t 2]⟩

def b49L0 : AC :=
  .seq (.seq (.reg [⟨some 6, .mv (.t 5), none⟩,
      ⟨some 7, .mv (.t 0), none⟩,
      ⟨some 8, .len false (.t 7), none⟩,
      ⟨some 9, .bin .lss (.t 6) (.t 8), none⟩] [0, 1, 5, 9])
   (.cond (.t 9)
     (.skip)
     (.exit 0)))
  (.seq (.block 1 (.seq (.reg [⟨some 12, .mv (.t 0), none⟩,
        ⟨some 13, .mv (.t 5), none⟩,
        ⟨some 14, .idxA 1 (.t 12) (.t 13), none⟩,
        ⟨some 15, .ld 1 false (.t 14), none⟩,
        ⟨some 16, .mv (.t 1), none⟩,
        ⟨some 17, .bin .eql (.t 15) (.t 16), none⟩] [0, 1, 5, 17])
     (.cond (.t 17)
       (.seq (.reg [⟨some 4, .mv (.k (.sc (.bool true))), none⟩] [4])
        (.ret))
       (.skip))))
   (.reg [⟨some 10, .mv (.t 5), none⟩,
      ⟨some 11, .bin .add (.t 10) (.k (.sc (.int .i64 1))), none⟩,
      ⟨some 5, .mv (.t 11), none⟩] [0, 1, 5]))
/-- unravel/unravelref01.In -/
def b49 : AC :=
  .seq (.reg [⟨some 4, .mv (.k (.sc (.bool false))), none⟩] [0, 1])
  (.seq (.seq (.reg [⟨some 5, .mv (.k (.sc (.int .i64 0))), none⟩] [0, 1, 5])
    (.block 0 (.loop [0, 1, 5] b49L0)))
   (.seq (.reg [⟨some 4, .mv (.k (.sc (.bool false))), none⟩] [4])
    (.ret)))
def a49 : AFun := ⟨2, b49, [.t 4]⟩

/-- unravel/grid.columns$1 -/
def b50 : AC :=
  .seq (.reg [⟨some 3, .mv (.k (.sc (.int .i64 0))), none⟩] [0, 1])
  (.seq (.reg [⟨some 4, .ld 1 false (.t 1), none⟩,
      ⟨some 5, .mv (.t 0), none⟩,
      ⟨some 6, .idxA 1 (.t 4) (.t 5), none⟩,
      ⟨some 7, .ld 1 false (.t 6), none⟩,
      ⟨some 3, .mv (.t 7), none⟩] [3])
   (.ret))
def a50 : AFun := ⟨2, b50, [.t 3]⟩

def b51L0 : AC :=
  .seq (.reg [⟨some 12, .bin .lss (.t 11) (.t 10), none⟩] [0, 1, 9, 10, 11, 12])
  (.seq (.cond (.t 12)
     (.skip)
     (.exit 0))
   (.seq (.block 1 (.seq (.reg [⟨some 13, .mv (.t 11), none⟩,
         ⟨some 14, .idxA 1 (.t 9) (.t 11), none⟩,
         ⟨some 15, .ld 1 false (.t 14), none⟩,
         ⟨some 5, .mv (.t 13), none⟩,
         ⟨some 6, .mv (.t 15), none⟩] [0, 1, 5, 6, 9, 10, 11])
      (.seq (.seq (.reg [⟨some 16, .mv (.t 5), none⟩,
           ⟨some 17, .mv (.t 1), none⟩,
           ⟨some 18, .len false (.t 17), none⟩,
           ⟨some 19, .bin .geq (.t 16) (.t 18), none⟩] [0, 1, 5, 6, 9, 10, 11, 19])
        (.cond (.t 19)
          (.seq (.reg [⟨some 4, .mv (.k (.sc (.int .i64 1))), none⟩] [4])
           (.ret))
          (.skip)))
       (.seq (.reg [⟨some 20, .mv (.t 1), none⟩,
           ⟨some 21, .mv (.t 5), none⟩,
           ⟨some 22, .idxA 1 (.t 20) (.t 21), none⟩,
           ⟨some 23, .ld 1 false (.t 22), none⟩,
           ⟨some 7, .mv (.t 23), none⟩] [0, 1, 6, 7, 9, 10, 11])
        (.seq (.reg [⟨some 24, .mv (.t 6), none⟩,
            ⟨some 25, .mv (.t 7), none⟩,
            ⟨some 26, .call 59 [(.t 24), (.t 25)], none⟩,
            ⟨some 8, .mv (.t 26), none⟩] [0, 1, 8, 9, 10, 11])
         (.seq (.reg [⟨some 27, .mv (.t 8), none⟩,
             ⟨some 28, .bin .neq (.t 27) (.k (.sc (.int .i64 0))), none⟩] [0, 1, 8, 9, 10, 11, 28])
          (.cond (.t 28)
            (.seq (.reg [⟨some 29, .mv (.t 8), none⟩,
                ⟨some 4, .mv (.t 29), none⟩] [4])
             (.ret))
            (.skip))))))))
    (.reg [⟨some 30, .bin .add (.t 11) (.k (.sc (.int .i64 1))), none⟩,
       ⟨some 11, .mv (.t 30), none⟩] [0, 1, 9, 10, 11])))
/-- slices.Compare[[]int,int] -/
def b51 : AC :=
  .seq (.reg [⟨some 4, .mv (.k (.sc (.int .i64 0))), none⟩] [0, 1])
  (.seq (.seq (.reg [⟨some 9, .mv (.t 0), none⟩,
       ⟨some 10, .len false (.t 9), none⟩,
       ⟨some 11, .mv (.k (.sc (.int .i64 0))), none⟩] [0, 1, 9, 10, 11])
    (.block 0 (.loop [0, 1, 9, 10, 11] b51L0)))
   (.seq (.seq (.reg [⟨some 31, .mv (.t 0), none⟩,
        ⟨some 32, .len false (.t 31), none⟩,
        ⟨some 33, .mv (.t 1), none⟩,
        ⟨some 34, .len false (.t 33), none⟩,
        ⟨some 35, .bin .lss (.t 32) (.t 34), none⟩] [35])
     (.cond (.t 35)
       (.seq (.reg [⟨some 4, .mv (.k (.sc (.int .i64 (-1)))), none⟩] [4])
        (.ret))
       (.skip)))
    (.seq (.reg [⟨some 4, .mv (.k (.sc (.int .i64 0))), none⟩] [4])
     (.ret))))
def a51 : AFun := ⟨2, b51, [.t 4]⟩

/-- (*strings.Builder).WriteByte -/
def b52 : AC :=
  .seq (.reg [⟨some 4, .mv (.k (.sc .nilI)), none⟩] [0, 1])
  (.seq (.reg [⟨some 5, .mv (.t 0), none⟩,
      ⟨some 6, .call 60 [(.t 5)], none⟩] [0, 1])
   (.seq (.reg [⟨some 7, .mv (.t 0), none⟩,
       ⟨some 8, .mv (.t 0), none⟩,
       ⟨some 9, .nilc (.t 8), none⟩,
       ⟨some 10, .fldA 1 (.t 9), none⟩,
       ⟨some 11, .ld 1 false (.t 10), none⟩,
       ⟨some 12, .mv (.t 1), none⟩,
       ⟨some 13, .bsl ⟨1, some 5⟩ [.int .u8 0] 1 [(0, .t 12)], none⟩,
       ⟨some 14, .app ⟨1, some 5⟩ 1 [.int .u8 0] (.t 11) (.t 13), none⟩,
       ⟨some 15, .nilc (.t 7), none⟩,
       ⟨some 16, .fldA 1 (.t 15), none⟩,
       ⟨none, .st 1 (.t 16) (.t 14), none⟩] [])
    (.seq (.reg [⟨some 4, .mv (.k (.sc .nilI)), none⟩] [4])
     (.ret))))
def a52 : AFun := ⟨2, b52, [.t 4]⟩

/-- (*strings.Builder).WriteString -/
def b53 : AC :=
  .seq (.reg [⟨some 4, .mv (.k (.sc (.int .i64 0))), none⟩,
     ⟨some 5, .mv (.k (.sc .nilI)), none⟩] [0, 1])
  (.seq (.reg [⟨some 6, .mv (.t 0), none⟩,
      ⟨some 7, .call 60 [(.t 6)], none⟩] [0, 1])
   (.seq (.reg [⟨some 8, .mv (.t 0), none⟩,
       ⟨some 9, .mv (.t 0), none⟩,
       ⟨some 10, .nilc (.t 9), none⟩,
       ⟨some 11, .fldA 1 (.t 10), none⟩,
       ⟨some 12, .ld 1 false (.t 11), none⟩,
       ⟨some 13, .mv (.t 1), none⟩,
       ⟨some 14, .app ⟨1, some 5⟩ 1 [.int .u8 0] (.t 12) (.t 13), none⟩,
       ⟨some 15, .nilc (.t 8), none⟩,
       ⟨some 16, .fldA 1 (.t 15), none⟩,
       ⟨none, .st 1 (.t 16) (.t 14), none⟩] [1])
    (.seq (.reg [⟨some 17, .mv (.t 1), none⟩,
        ⟨some 18, .len true (.t 17), none⟩,
        ⟨some 4, .mv (.t 18), none⟩,
        ⟨some 5, .mv (.k (.sc .nilI)), none⟩] [4, 5])
     (.ret))))
def a53 : AFun := ⟨2, b53, [.t 4, .t 5]⟩

/-- strconv.Itoa -/
def b54 : AC :=
  .seq (.reg [⟨some 2, .mv (.k (.sc (.str ⟨#[]⟩))), none⟩] [0])
  (.seq (.reg [⟨some 3, .mv (.t 0), none⟩,
      ⟨some 4, .call 61 [(.t 3)], none⟩,
      ⟨some 2, .mv (.t 4), none⟩] [2])
   (.ret))
def a54 : AFun := ⟨1, b54, [.t 2]⟩

/-- (*strings.Builder).String -/
def b55 : AC :=
  .seq (.reg [⟨some 2, .mv (.k (.sc (.str ⟨#[]⟩))), none⟩] [0])
  (.seq (.regd [(⟨some 3, .mv (.t 0), none⟩, 0, false),
      (⟨some 4, .nilc (.t 3), none⟩, 1, false),
      (⟨some 5, .fldA 1 (.t 4), none⟩, 2, false),
      (⟨some 6, .ld 1 false (.t 5), none⟩, 3, false),
      (⟨some 7, .usd (.t 6), none⟩, 4, false),
      (⟨some 8, .mv (.t 0), none⟩, 5, false),
      (⟨some 9, .nilc (.t 8), none⟩, 6, false),
      (⟨some 10, .fldA 1 (.t 9), none⟩, 7, false),
      (⟨some 11, .ld 1 false (.t 10), none⟩, 8, false),
      (⟨some 12, .len false (.t 11), none⟩, 9, false),
      (⟨some 13, .ustr 5 (.t 7) (.t 12), none⟩, 10, true),
      (⟨some 2, .mv (.t 13), none⟩, 11, false)] [2])
   (.ret))
def a55 : AFun := ⟨1, b55, [.t 2]⟩

/-- cmp.Compare[int] -/
def b59 : AC :=
  .seq (.reg [⟨some 4, .mv (.k (.sc (.int .i64 0))), none⟩] [0, 1])
  (.seq (.reg [⟨some 7, .mv (.t 0), none⟩,
      ⟨some 8, .call 66 [(.t 7)], none⟩,
      ⟨some 5, .mv (.t 8), none⟩] [0, 1, 5])
   (.seq (.reg [⟨some 9, .mv (.t 1), none⟩,
       ⟨some 10, .call 66 [(.t 9)], none⟩,
       ⟨some 6, .mv (.t 10), none⟩] [0, 1, 5, 6])
    (.seq (.seq (.reg [⟨some 11, .mv (.t 5), none⟩] [0, 1, 6, 11])
      (.cond (.t 11)
        (.seq (.seq (.reg [⟨some 12, .mv (.t 6), none⟩] [12])
          (.cond (.t 12)
            (.seq (.reg [⟨some 4, .mv (.k (.sc (.int .i64 0))), none⟩] [4])
             (.ret))
            (.skip)))
         (.seq (.reg [⟨some 4, .mv (.k (.sc (.int .i64 (-1)))), none⟩] [4])
          (.ret)))
        (.skip)))
     (.seq (.seq (.reg [⟨some 13, .mv (.t 6), none⟩] [0, 1, 13])
       (.cond (.t 13)
         (.seq (.reg [⟨some 4, .mv (.k (.sc (.int .i64 1))), none⟩] [4])
          (.ret))
         (.skip)))
      (.seq (.seq (.reg [⟨some 14, .mv (.t 0), none⟩,
           ⟨some 15, .mv (.t 1), none⟩,
           ⟨some 16, .bin .lss (.t 14) (.t 15), none⟩] [0, 1, 16])
        (.cond (.t 16)
          (.seq (.reg [⟨some 4, .mv (.k (.sc (.int .i64 (-1)))), none⟩] [4])
           (.ret))
          (.skip)))
       (.seq (.seq (.reg [⟨some 17, .mv (.t 0), none⟩,
            ⟨some 18, .mv (.t 1), none⟩,
            ⟨some 19, .bin .gtr (.t 17) (.t 18), none⟩] [19])
         (.cond (.t 19)
           (.seq (.reg [⟨some 4, .mv (.k (.sc (.int .i64 1))), none⟩] [4])
            (.ret))
           (.skip)))
        (.seq (.reg [⟨some 4, .mv (.k (.sc (.int .i64 0))), none⟩] [4])
         (.ret))))))))
def a59 : AFun := ⟨2, b59, [.t 4]⟩

/-- internal/strconv.Itoa -/
def b61 : AC :=
  .seq (.reg [⟨some 2, .mv (.k (.sc (.str ⟨#[]⟩))), none⟩] [0])
  (.seq (.reg [⟨some 3, .mv (.t 0), none⟩,
      ⟨some 4, .call 68 [(.t 3), (.k (.sc (.int .i64 10)))], none⟩,
      ⟨some 2, .mv (.t 4), none⟩] [2])
   (.ret))
def a61 : AFun := ⟨1, b61, [.t 2]⟩

/-- cmp.isNaN[int] -/
def b66 : AC :=
  .seq (.reg [⟨some 2, .mv (.k (.sc (.bool false))), none⟩] [0])
  (.seq (.reg [⟨some 3, .mv (.t 0), none⟩,
      ⟨some 4, .mv (.t 0), none⟩,
      ⟨some 5, .bin .neq (.t 3) (.t 4), none⟩,
      ⟨some 2, .mv (.t 5), none⟩] [2])
   (.ret))
def a66 : AFun := ⟨1, b66, [.t 2]⟩

/-- internal/strconv.FormatInt -/
def b68 : AC :=
  .seq (.reg [⟨some 4, .mv (.k (.sc (.str ⟨#[]⟩))), none⟩] [0, 1])
  (.seq (.seq (.reg [⟨some 10, .mv (.t 1), none⟩,
       ⟨some 11, .bin .eql (.t 10) (.k (.sc (.int .i64 10))), none⟩] [0, 1, 11])
    (.cond (.t 11)
      (.seq (.seq (.reg [⟨some 12, .mv (.t 0), none⟩,
           ⟨some 13, .bin .leq (.k (.sc (.int .i64 0))) (.t 12), none⟩,
           ⟨some 14, .mv (.t 13), none⟩,
           ⟨some 15, .mv (.t 0), (some (14, true))⟩,
           ⟨some 16, .bin .lss (.t 15) (.k (.sc (.int .i64 100))), (some (14, true))⟩,
           ⟨some 17, .pick (.t 14) (.t 16) (.k (.sc (.bool false))), none⟩] [0, 17])
        (.cond (.t 17)
          (.seq (.reg [⟨some 18, .mv (.t 0), none⟩,
              ⟨some 19, .call 81 [(.t 18)], none⟩,
              ⟨some 4, .mv (.t 19), none⟩] [4])
           (.ret))
          (.skip)))
       (.seq (.reg [⟨some 5, .new [.int .u8 0, .int .u8 0, .int .u8 0, .int .u8 0, .int .u8 0, .int .u8 0, .int .u8 0, .int .u8 0, .int .u8 0, .int .u8 0, .int .u8 0, .int .u8 0, .int .u8 0, .int .u8 0, .int .u8 0, .int .u8 0, .int .u8 0, .int .u8 0, .int .u8 0, .int .u8 0, .int .u8 0, .int .u8 0, .int .u8 0, .int .u8 0], none⟩] [0, 5])
        (.seq (.reg [⟨some 20, .mv (.t 0), none⟩,
            ⟨some 21, .conv .u64 (.t 20), none⟩,
            ⟨some 6, .mv (.t 21), none⟩] [0, 5, 6])
         (.seq (.seq (.reg [⟨some 22, .mv (.t 0), none⟩,
              ⟨some 23, .bin .lss (.t 22) (.k (.sc (.int .i64 0))), none⟩] [0, 5, 6, 23])
           (.cond (.t 23)
             (.reg [⟨some 24, .mv (.t 6), none⟩,
                ⟨some 25, .un .neg (.t 24), none⟩,
                ⟨some 6, .mv (.t 25), none⟩] [0, 5, 6])
             (.skip)))
          (.seq (.reg [⟨some 26, .mv (.t 6), none⟩,
              ⟨some 27, .call 82 [(.t 26)], none⟩,
              ⟨some 7, .mv (.t 27), none⟩] [0, 5, 6, 7])
           (.seq (.reg [⟨some 28, .mv (.t 7), none⟩,
               ⟨some 29, .bin .add (.k (.sc (.int .i64 1))) (.t 28), none⟩,
               ⟨some 30, .bad, none⟩,
               ⟨some 31, .mv (.t 6), none⟩,
               ⟨some 32, .call 83 [(.t 30), (.t 31)], none⟩] [0, 5, 7])
            (.seq (.seq (.reg [⟨some 33, .mv (.t 0), none⟩,
                 ⟨some 34, .bin .lss (.t 33) (.k (.sc (.int .i64 0))), none⟩] [5, 7, 34])
              (.cond (.t 34)
                (.seq (.reg [⟨some 35, .idxP 24 1 (.t 5) (.k (.sc (.int .i64 0))), none⟩,
                    ⟨none, .st 1 (.t 35) (.k (.sc (.int .u8 45))), none⟩] [5, 7])
                 (.seq (.reg [⟨some 36, .mv (.t 7), none⟩,
                     ⟨some 37, .bin .add (.k (.sc (.int .i64 1))) (.t 36), none⟩,
                     ⟨some 38, .bad, none⟩,
                     ⟨some 39, .bad, none⟩,
                     ⟨some 4, .mv (.t 39), none⟩] [4])
                  (.ret)))
                (.skip)))
             (.seq (.reg [⟨some 40, .mv (.t 7), none⟩,
                 ⟨some 41, .bin .add (.k (.sc (.int .i64 1))) (.t 40), none⟩,
                 ⟨some 42, .bad, none⟩,
                 ⟨some 43, .bad, none⟩,
                 ⟨some 4, .mv (.t 43), none⟩] [4])
              (.ret)))))))))
      (.skip)))
   (.seq (.reg [⟨some 45, .mv (.t 0), none⟩,
       ⟨some 46, .conv .u64 (.t 45), none⟩,
       ⟨some 47, .mv (.t 1), none⟩,
       ⟨some 48, .mv (.t 0), none⟩,
       ⟨some 49, .bin .lss (.t 48) (.k (.sc (.int .i64 0))), none⟩,
       ⟨some 50, .call 84 [(.k (.sc .nilS)), (.t 46), (.t 47), (.t 49), (.k (.sc (.bool false)))], none⟩,
       ⟨some 44, .mv (.t 50), none⟩,
       ⟨some 51, .ext (.t 44) 0, none⟩,
       ⟨some 52, .ext (.t 44) 1, none⟩,
       ⟨some 8, .mv (.t 51), none⟩,
       ⟨some 9, .mv (.t 52), none⟩] [9])
    (.seq (.reg [⟨some 53, .mv (.t 9), none⟩,
        ⟨some 4, .mv (.t 53), none⟩] [4])
     (.ret))))
def a68 : AFun := ⟨2, b68, [.t 4]⟩

/-- internal/strconv.small -/
def b81 : AC :=
  .seq (.reg [⟨some 2, .mv (.k (.sc (.str ⟨#[]⟩))), none⟩] [0])
  (.seq (.seq (.reg [⟨some 3, .mv (.t 0), none⟩,
       ⟨some 4, .bin .lss (.t 3) (.k (.sc (.int .i64 10))), none⟩] [0, 4])
    (.cond (.t 4)
      (.seq (.reg [⟨some 5, .mv (.t 0), none⟩,
          ⟨some 6, .mv (.t 0), none⟩,
          ⟨some 7, .bin .add (.t 6) (.k (.sc (.int .i64 1))), none⟩,
          ⟨some 8, .slS (.k (.sc (.str ⟨#[48, 49, 50, 51, 52, 53, 54, 55, 56, 57, 97, 98, 99, 100, 101, 102, 103, 104, 105, 106, 107, 108, 109, 110, 111, 112, 113, 114, 115, 116, 117, 118, 119, 120, 121, 122]⟩))) (some (.t 5)) (some (.t 7)), none⟩,
          ⟨some 2, .mv (.t 8), none⟩] [2])
       (.ret))
      (.skip)))
   (.seq (.reg [⟨some 9, .mv (.t 0), none⟩,
       ⟨some 10, .bin .mul (.t 9) (.k (.sc (.int .i64 2))), none⟩,
       ⟨some 11, .mv (.t 0), none⟩,
       ⟨some 12, .bin .mul (.t 11) (.k (.sc (.int .i64 2))), none⟩,
       ⟨some 13, .bin .add (.t 12) (.k (.sc (.int .i64 2))), none⟩,
       ⟨some 14, .slS (.k (.sc (.str ⟨#[48, 48, 48, 49, 48, 50, 48, 51, 48, 52, 48, 53, 48, 54, 48, 55, 48, 56, 48, 57, 49, 48, 49, 49, 49, 50, 49, 51, 49, 52, 49, 53, 49, 54, 49, 55, 49, 56, 49, 57, 50, 48, 50, 49, 50, 50, 50, 51, 50, 52, 50, 53, 50, 54, 50, 55, 50, 56, 50, 57, 51, 48, 51, 49, 51, 50, 51, 51, 51, 52, 51, 53, 51, 54, 51, 55, 51, 56, 51, 57, 52, 48, 52, 49, 52, 50, 52, 51, 52, 52, 52, 53, 52, 54, 52, 55, 52, 56, 52, 57, 53, 48, 53, 49, 53, 50, 53, 51, 53, 52, 53, 53, 53, 54, 53, 55, 53, 56, 53, 57, 54, 48, 54, 49, 54, 50, 54, 51, 54, 52, 54, 53, 54, 54, 54, 55, 54, 56, 54, 57, 55, 48, 55, 49, 55, 50, 55, 51, 55, 52, 55, 53, 55, 54, 55, 55, 55, 56, 55, 57, 56, 48, 56, 49, 56, 50, 56, 51, 56, 52, 56, 53, 56, 54, 56, 55, 56, 56, 56, 57, 57, 48, 57, 49, 57, 50, 57, 51, 57, 52, 57, 53, 57, 54, 57, 55, 57, 56, 57, 57]⟩))) (some (.t 10)) (some (.t 13)), none⟩,
       ⟨some 2, .mv (.t 14), none⟩] [2])
    (.ret)))
def a81 : AFun := ⟨1, b81, [.t 2]⟩

/-- internal/strconv.numDigits -/
def b82 : AC :=
  .seq (.reg [⟨some 2, .mv (.k (.sc (.int .i64 0))), none⟩] [0])
  (.seq (.reg [⟨some 4, .mv (.t 0), none⟩,
      ⟨some 5, .call 94 [(.t 4)], none⟩,
      ⟨some 6, .call 93 [(.t 5)], none⟩,
      ⟨some 3, .mv (.t 6), none⟩] [0, 3])
   (.seq (.reg [⟨some 7, .mv (.t 3), none⟩,
       ⟨some 8, .mv (.t 0), none⟩,
       ⟨some 9, .mv (.t 3), none⟩,
       ⟨some 10, .bad, none⟩,
       ⟨some 11, .ld 1 false (.t 10), none⟩,
       ⟨some 12, .bin .geq (.t 8) (.t 11), none⟩,
       ⟨some 13, .call 95 [(.t 12)], none⟩,
       ⟨some 14, .bin .add (.t 7) (.t 13), none⟩,
       ⟨some 2, .mv (.t 14), none⟩] [2])
    (.ret)))
def a82 : AFun := ⟨1, b82, [.t 2]⟩

def b83L0 : AC :=
  .seq (.seq (.reg [⟨some 19, .mv (.t 4), none⟩,
      ⟨some 20, .bin .geq (.t 19) (.k (.sc (.int .i64 8))), none⟩] [0, 1, 4, 20])
   (.cond (.t 20)
     (.skip)
     (.exit 0)))
  (.block 1 (.seq (.reg [⟨some 21, .mv (.t 1), none⟩,
       ⟨some 22, .bin .rem (.t 21) (.k (.sc (.int .u64 100000000))), none⟩,
       ⟨some 23, .conv .u32 (.t 22), none⟩,
       ⟨some 5, .mv (.t 23), none⟩] [0, 1, 4, 5])
    (.seq (.reg [⟨some 24, .mv (.t 1), none⟩,
        ⟨some 25, .bin .quo (.t 24) (.k (.sc (.int .u64 100000000))), none⟩,
        ⟨some 1, .mv (.t 25), none⟩] [0, 1, 4, 5])
     (.seq (.reg [⟨some 26, .mv (.t 5), none⟩,
         ⟨some 27, .bin .quo (.t 26) (.k (.sc (.int .u32 10000))), none⟩,
         ⟨some 28, .mv (.t 5), none⟩,
         ⟨some 29, .bin .rem (.t 28) (.k (.sc (.int .u32 10000))), none⟩,
         ⟨some 6, .mv (.t 27), none⟩,
         ⟨some 7, .mv (.t 29), none⟩] [0, 1, 4, 6, 7])
      (.seq (.reg [⟨some 30, .mv (.t 7), none⟩,
          ⟨some 31, .bin .quo (.t 30) (.k (.sc (.int .u32 100))), none⟩,
          ⟨some 32, .bin .mul (.t 31) (.k (.sc (.int .u32 2))), none⟩,
          ⟨some 33, .mv (.t 7), none⟩,
          ⟨some 34, .bin .rem (.t 33) (.k (.sc (.int .u32 100))), none⟩,
          ⟨some 35, .bin .mul (.t 34) (.k (.sc (.int .u32 2))), none⟩,
          ⟨some 8, .mv (.t 32), none⟩,
          ⟨some 9, .mv (.t 35), none⟩] [0, 1, 4, 6, 8, 9])
       (.seq (.reg [⟨some 36, .mv (.t 6), none⟩,
           ⟨some 37, .bin .quo (.t 36) (.k (.sc (.int .u32 100))), none⟩,
           ⟨some 38, .bin .mul (.t 37) (.k (.sc (.int .u32 2))), none⟩,
           ⟨some 39, .mv (.t 6), none⟩,
           ⟨some 40, .bin .rem (.t 39) (.k (.sc (.int .u32 100))), none⟩,
           ⟨some 41, .bin .mul (.t 40) (.k (.sc (.int .u32 2))), none⟩,
           ⟨some 10, .mv (.t 38), none⟩,
           ⟨some 11, .mv (.t 41), none⟩] [0, 1, 4, 8, 9, 10, 11])
        (.seq (.regd [(⟨some 42, .mv (.t 0), none⟩, 0, false),
            (⟨some 43, .mv (.t 4), none⟩, 1, false),
            (⟨some 44, .bin .sub (.t 43) (.k (.sc (.int .i64 1))), none⟩, 2, false),
            (⟨some 45, .mv (.t 0), none⟩, 3, false),
            (⟨some 46, .mv (.t 4), none⟩, 4, false),
            (⟨some 47, .bin .sub (.t 46) (.k (.sc (.int .i64 2))), none⟩, 5, false),
            (⟨some 48, .mv (.t 9), none⟩, 6, false),
            (⟨some 49, .bin .add (.t 48) (.k (.sc (.int .u32 1))), none⟩, 7, false),
            (⟨some 50, .idxS (.k (.sc (.str ⟨#[48, 48, 48, 49, 48, 50, 48, 51, 48, 52, 48, 53, 48, 54, 48, 55, 48, 56, 48, 57, 49, 48, 49, 49, 49, 50, 49, 51, 49, 52, 49, 53, 49, 54, 49, 55, 49, 56, 49, 57, 50, 48, 50, 49, 50, 50, 50, 51, 50, 52, 50, 53, 50, 54, 50, 55, 50, 56, 50, 57, 51, 48, 51, 49, 51, 50, 51, 51, 51, 52, 51, 53, 51, 54, 51, 55, 51, 56, 51, 57, 52, 48, 52, 49, 52, 50, 52, 51, 52, 52, 52, 53, 52, 54, 52, 55, 52, 56, 52, 57, 53, 48, 53, 49, 53, 50, 53, 51, 53, 52, 53, 53, 53, 54, 53, 55, 53, 56, 53, 57, 54, 48, 54, 49, 54, 50, 54, 51, 54, 52, 54, 53, 54, 54, 54, 55, 54, 56, 54, 57, 55, 48, 55, 49, 55, 50, 55, 51, 55, 52, 55, 53, 55, 54, 55, 55, 55, 56, 55, 57, 56, 48, 56, 49, 56, 50, 56, 51, 56, 52, 56, 53, 56, 54, 56, 55, 56, 56, 56, 57, 57, 48, 57, 49, 57, 50, 57, 51, 57, 52, 57, 53, 57, 54, 57, 55, 57, 56, 57, 57]⟩))) (.t 49), none⟩, 8, false),
            (⟨some 51, .mv (.t 9), none⟩, 9, false),
            (⟨some 52, .idxS (.k (.sc (.str ⟨#[48, 48, 48, 49, 48, 50, 48, 51, 48, 52, 48, 53, 48, 54, 48, 55, 48, 56, 48, 57, 49, 48, 49, 49, 49, 50, 49, 51, 49, 52, 49, 53, 49, 54, 49, 55, 49, 56, 49, 57, 50, 48, 50, 49, 50, 50, 50, 51, 50, 52, 50, 53, 50, 54, 50, 55, 50, 56, 50, 57, 51, 48, 51, 49, 51, 50, 51, 51, 51, 52, 51, 53, 51, 54, 51, 55, 51, 56, 51, 57, 52, 48, 52, 49, 52, 50, 52, 51, 52, 52, 52, 53, 52, 54, 52, 55, 52, 56, 52, 57, 53, 48, 53, 49, 53, 50, 53, 51, 53, 52, 53, 53, 53, 54, 53, 55, 53, 56, 53, 57, 54, 48, 54, 49, 54, 50, 54, 51, 54, 52, 54, 53, 54, 54, 54, 55, 54, 56, 54, 57, 55, 48, 55, 49, 55, 50, 55, 51, 55, 52, 55, 53, 55, 54, 55, 55, 55, 56, 55, 57, 56, 48, 56, 49, 56, 50, 56, 51, 56, 52, 56, 53, 56, 54, 56, 55, 56, 56, 56, 57, 57, 48, 57, 49, 57, 50, 57, 51, 57, 52, 57, 53, 57, 54, 57, 55, 57, 56, 57, 57]⟩))) (.t 51), none⟩, 10, false),
            (⟨some 53, .idxA 1 (.t 42) (.t 44), none⟩, 11, false),
            (⟨none, .st 1 (.t 53) (.t 50), none⟩, 12, true),
            (⟨some 54, .idxA 1 (.t 45) (.t 47), none⟩, 13, false),
            (⟨none, .st 1 (.t 54) (.t 52), none⟩, 14, true)] [0, 1, 4, 8, 10, 11])
         (.seq (.regd [(⟨some 55, .mv (.t 0), none⟩, 0, false),
             (⟨some 56, .mv (.t 4), none⟩, 1, false),
             (⟨some 57, .bin .sub (.t 56) (.k (.sc (.int .i64 3))), none⟩, 2, false),
             (⟨some 58, .mv (.t 0), none⟩, 3, false),
             (⟨some 59, .mv (.t 4), none⟩, 4, false),
             (⟨some 60, .bin .sub (.t 59) (.k (.sc (.int .i64 4))), none⟩, 5, false),
             (⟨some 61, .mv (.t 8), none⟩, 6, false),
             (⟨some 62, .bin .add (.t 61) (.k (.sc (.int .u32 1))), none⟩, 7, false),
             (⟨some 63, .idxS (.k (.sc (.str ⟨#[48, 48, 48, 49, 48, 50, 48, 51, 48, 52, 48, 53, 48, 54, 48, 55, 48, 56, 48, 57, 49, 48, 49, 49, 49, 50, 49, 51, 49, 52, 49, 53, 49, 54, 49, 55, 49, 56, 49, 57, 50, 48, 50, 49, 50, 50, 50, 51, 50, 52, 50, 53, 50, 54, 50, 55, 50, 56, 50, 57, 51, 48, 51, 49, 51, 50, 51, 51, 51, 52, 51, 53, 51, 54, 51, 55, 51, 56, 51, 57, 52, 48, 52, 49, 52, 50, 52, 51, 52, 52, 52, 53, 52, 54, 52, 55, 52, 56, 52, 57, 53, 48, 53, 49, 53, 50, 53, 51, 53, 52, 53, 53, 53, 54, 53, 55, 53, 56, 53, 57, 54, 48, 54, 49, 54, 50, 54, 51, 54, 52, 54, 53, 54, 54, 54, 55, 54, 56, 54, 57, 55, 48, 55, 49, 55, 50, 55, 51, 55, 52, 55, 53, 55, 54, 55, 55, 55, 56, 55, 57, 56, 48, 56, 49, 56, 50, 56, 51, 56, 52, 56, 53, 56, 54, 56, 55, 56, 56, 56, 57, 57, 48, 57, 49, 57, 50, 57, 51, 57, 52, 57, 53, 57, 54, 57, 55, 57, 56, 57, 57]⟩))) (.t 62), none⟩, 8, false),
             (⟨some 64, .mv (.t 8), none⟩, 9, false),
             (⟨some 65, .idxS (.k (.sc (.str ⟨#[48, 48, 48, 49, 48, 50, 48, 51, 48, 52, 48, 53, 48, 54, 48, 55, 48, 56, 48, 57, 49, 48, 49, 49, 49, 50, 49, 51, 49, 52, 49, 53, 49, 54, 49, 55, 49, 56, 49, 57, 50, 48, 50, 49, 50, 50, 50, 51, 50, 52, 50, 53, 50, 54, 50, 55, 50, 56, 50, 57, 51, 48, 51, 49, 51, 50, 51, 51, 51, 52, 51, 53, 51, 54, 51, 55, 51, 56, 51, 57, 52, 48, 52, 49, 52, 50, 52, 51, 52, 52, 52, 53, 52, 54, 52, 55, 52, 56, 52, 57, 53, 48, 53, 49, 53, 50, 53, 51, 53, 52, 53, 53, 53, 54, 53, 55, 53, 56, 53, 57, 54, 48, 54, 49, 54, 50, 54, 51, 54, 52, 54, 53, 54, 54, 54, 55, 54, 56, 54, 57, 55, 48, 55, 49, 55, 50, 55, 51, 55, 52, 55, 53, 55, 54, 55, 55, 55, 56, 55, 57, 56, 48, 56, 49, 56, 50, 56, 51, 56, 52, 56, 53, 56, 54, 56, 55, 56, 56, 56, 57, 57, 48, 57, 49, 57, 50, 57, 51, 57, 52, 57, 53, 57, 54, 57, 55, 57, 56, 57, 57]⟩))) (.t 64), none⟩, 10, false),
             (⟨some 66, .idxA 1 (.t 55) (.t 57), none⟩, 11, false),
             (⟨none, .st 1 (.t 66) (.t 63), none⟩, 12, true),
             (⟨some 67, .idxA 1 (.t 58) (.t 60), none⟩, 13, false),
             (⟨none, .st 1 (.t 67) (.t 65), none⟩, 14, true)] [0, 1, 4, 10, 11])
          (.seq (.regd [(⟨some 68, .mv (.t 0), none⟩, 0, false),
              (⟨some 69, .mv (.t 4), none⟩, 1, false),
              (⟨some 70, .bin .sub (.t 69) (.k (.sc (.int .i64 5))), none⟩, 2, false),
              (⟨some 71, .mv (.t 0), none⟩, 3, false),
              (⟨some 72, .mv (.t 4), none⟩, 4, false),
              (⟨some 73, .bin .sub (.t 72) (.k (.sc (.int .i64 6))), none⟩, 5, false),
              (⟨some 74, .mv (.t 11), none⟩, 6, false),
              (⟨some 75, .bin .add (.t 74) (.k (.sc (.int .u32 1))), none⟩, 7, false),
              (⟨some 76, .idxS (.k (.sc (.str ⟨#[48, 48, 48, 49, 48, 50, 48, 51, 48, 52, 48, 53, 48, 54, 48, 55, 48, 56, 48, 57, 49, 48, 49, 49, 49, 50, 49, 51, 49, 52, 49, 53, 49, 54, 49, 55, 49, 56, 49, 57, 50, 48, 50, 49, 50, 50, 50, 51, 50, 52, 50, 53, 50, 54, 50, 55, 50, 56, 50, 57, 51, 48, 51, 49, 51, 50, 51, 51, 51, 52, 51, 53, 51, 54, 51, 55, 51, 56, 51, 57, 52, 48, 52, 49, 52, 50, 52, 51, 52, 52, 52, 53, 52, 54, 52, 55, 52, 56, 52, 57, 53, 48, 53, 49, 53, 50, 53, 51, 53, 52, 53, 53, 53, 54, 53, 55, 53, 56, 53, 57, 54, 48, 54, 49, 54, 50, 54, 51, 54, 52, 54, 53, 54, 54, 54, 55, 54, 56, 54, 57, 55, 48, 55, 49, 55, 50, 55, 51, 55, 52, 55, 53, 55, 54, 55, 55, 55, 56, 55, 57, 56, 48, 56, 49, 56, 50, 56, 51, 56, 52, 56, 53, 56, 54, 56, 55, 56, 56, 56, 57, 57, 48, 57, 49, 57, 50, 57, 51, 57, 52, 57, 53, 57, 54, 57, 55, 57, 56, 57, 57]⟩))) (.t 75), none⟩, 8, false),
              (⟨some 77, .mv (.t 11), none⟩, 9, false),
              (⟨some 78, .idxS (.k (.sc (.str ⟨#[48, 48, 48, 49, 48, 50, 48, 51, 48, 52, 48, 53, 48, 54, 48, 55, 48, 56, 48, 57, 49, 48, 49, 49, 49, 50, 49, 51, 49, 52, 49, 53, 49, 54, 49, 55, 49, 56, 49, 57, 50, 48, 50, 49, 50, 50, 50, 51, 50, 52, 50, 53, 50, 54, 50, 55, 50, 56, 50, 57, 51, 48, 51, 49, 51, 50, 51, 51, 51, 52, 51, 53, 51, 54, 51, 55, 51, 56, 51, 57, 52, 48, 52, 49, 52, 50, 52, 51, 52, 52, 52, 53, 52, 54, 52, 55, 52, 56, 52, 57, 53, 48, 53, 49, 53, 50, 53, 51, 53, 52, 53, 53, 53, 54, 53, 55, 53, 56, 53, 57, 54, 48, 54, 49, 54, 50, 54, 51, 54, 52, 54, 53, 54, 54, 54, 55, 54, 56, 54, 57, 55, 48, 55, 49, 55, 50, 55, 51, 55, 52, 55, 53, 55, 54, 55, 55, 55, 56, 55, 57, 56, 48, 56, 49, 56, 50, 56, 51, 56, 52, 56, 53, 56, 54, 56, 55, 56, 56, 56, 57, 57, 48, 57, 49, 57, 50, 57, 51, 57, 52, 57, 53, 57, 54, 57, 55, 57, 56, 57, 57]⟩))) (.t 77), none⟩, 10, false),
              (⟨some 79, .idxA 1 (.t 68) (.t 70), none⟩, 11, false),
              (⟨none, .st 1 (.t 79) (.t 76), none⟩, 12, true),
              (⟨some 80, .idxA 1 (.t 71) (.t 73), none⟩, 13, false),
              (⟨none, .st 1 (.t 80) (.t 78), none⟩, 14, true)] [0, 1, 4, 10])
           (.seq (.regd [(⟨some 81, .mv (.t 0), none⟩, 0, false),
               (⟨some 82, .mv (.t 4), none⟩, 1, false),
               (⟨some 83, .bin .sub (.t 82) (.k (.sc (.int .i64 7))), none⟩, 2, false),
               (⟨some 84, .mv (.t 0), none⟩, 3, false),
               (⟨some 85, .mv (.t 4), none⟩, 4, false),
               (⟨some 86, .bin .sub (.t 85) (.k (.sc (.int .i64 8))), none⟩, 5, false),
               (⟨some 87, .mv (.t 10), none⟩, 6, false),
               (⟨some 88, .bin .add (.t 87) (.k (.sc (.int .u32 1))), none⟩, 7, false),
               (⟨some 89, .idxS (.k (.sc (.str ⟨#[48, 48, 48, 49, 48, 50, 48, 51, 48, 52, 48, 53, 48, 54, 48, 55, 48, 56, 48, 57, 49, 48, 49, 49, 49, 50, 49, 51, 49, 52, 49, 53, 49, 54, 49, 55, 49, 56, 49, 57, 50, 48, 50, 49, 50, 50, 50, 51, 50, 52, 50, 53, 50, 54, 50, 55, 50, 56, 50, 57, 51, 48, 51, 49, 51, 50, 51, 51, 51, 52, 51, 53, 51, 54, 51, 55, 51, 56, 51, 57, 52, 48, 52, 49, 52, 50, 52, 51, 52, 52, 52, 53, 52, 54, 52, 55, 52, 56, 52, 57, 53, 48, 53, 49, 53, 50, 53, 51, 53, 52, 53, 53, 53, 54, 53, 55, 53, 56, 53, 57, 54, 48, 54, 49, 54, 50, 54, 51, 54, 52, 54, 53, 54, 54, 54, 55, 54, 56, 54, 57, 55, 48, 55, 49, 55, 50, 55, 51, 55, 52, 55, 53, 55, 54, 55, 55, 55, 56, 55, 57, 56, 48, 56, 49, 56, 50, 56, 51, 56, 52, 56, 53, 56, 54, 56, 55, 56, 56, 56, 57, 57, 48, 57, 49, 57, 50, 57, 51, 57, 52, 57, 53, 57, 54, 57, 55, 57, 56, 57, 57]⟩))) (.t 88), none⟩, 8, false),
               (⟨some 90, .mv (.t 10), none⟩, 9, false),
               (⟨some 91, .idxS (.k (.sc (.str ⟨#[48, 48, 48, 49, 48, 50, 48, 51, 48, 52, 48, 53, 48, 54, 48, 55, 48, 56, 48, 57, 49, 48, 49, 49, 49, 50, 49, 51, 49, 52, 49, 53, 49, 54, 49, 55, 49, 56, 49, 57, 50, 48, 50, 49, 50, 50, 50, 51, 50, 52, 50, 53, 50, 54, 50, 55, 50, 56, 50, 57, 51, 48, 51, 49, 51, 50, 51, 51, 51, 52, 51, 53, 51, 54, 51, 55, 51, 56, 51, 57, 52, 48, 52, 49, 52, 50, 52, 51, 52, 52, 52, 53, 52, 54, 52, 55, 52, 56, 52, 57, 53, 48, 53, 49, 53, 50, 53, 51, 53, 52, 53, 53, 53, 54, 53, 55, 53, 56, 53, 57, 54, 48, 54, 49, 54, 50, 54, 51, 54, 52, 54, 53, 54, 54, 54, 55, 54, 56, 54, 57, 55, 48, 55, 49, 55, 50, 55, 51, 55, 52, 55, 53, 55, 54, 55, 55, 55, 56, 55, 57, 56, 48, 56, 49, 56, 50, 56, 51, 56, 52, 56, 53, 56, 54, 56, 55, 56, 56, 56, 57, 57, 48, 57, 49, 57, 50, 57, 51, 57, 52, 57, 53, 57, 54, 57, 55, 57, 56, 57, 57]⟩))) (.t 90), none⟩, 10, false),
               (⟨some 92, .idxA 1 (.t 81) (.t 83), none⟩, 11, false),
               (⟨none, .st 1 (.t 92) (.t 89), none⟩, 12, true),
               (⟨some 93, .idxA 1 (.t 84) (.t 86), none⟩, 13, false),
               (⟨none, .st 1 (.t 93) (.t 91), none⟩, 14, true)] [0, 1, 4])
            (.reg [⟨some 94, .mv (.t 4), none⟩,
               ⟨some 95, .bin .sub (.t 94) (.k (.sc (.int .i64 8))), none⟩,
               ⟨some 4, .mv (.t 95), none⟩] [0, 1, 4])))))))))))
/-- internal/strconv.formatBase10 -/
def b83 : AC :=
  .seq (.reg [⟨some 17, .mv (.t 0), none⟩,
     ⟨some 18, .len false (.t 17), none⟩,
     ⟨some 4, .mv (.t 18), none⟩] [0, 1, 4])
  (.seq (.block 0 (.loop [0, 1, 4] b83L0))
   (.seq (.reg [⟨some 96, .mv (.t 1), none⟩,
       ⟨some 97, .conv .u32 (.t 96), none⟩,
       ⟨some 12, .mv (.t 97), none⟩] [0, 4, 12])
    (.seq (.seq (.reg [⟨some 98, .mv (.t 4), none⟩,
         ⟨some 99, .bin .geq (.t 98) (.k (.sc (.int .i64 4))), none⟩] [0, 4, 12, 99])
      (.cond (.t 99)
        (.seq (.reg [⟨some 100, .mv (.t 12), none⟩,
            ⟨some 101, .bin .rem (.t 100) (.k (.sc (.int .u32 10000))), none⟩,
            ⟨some 13, .mv (.t 101), none⟩] [0, 4, 12, 13])
         (.seq (.reg [⟨some 102, .mv (.t 12), none⟩,
             ⟨some 103, .bin .quo (.t 102) (.k (.sc (.int .u32 10000))), none⟩,
             ⟨some 12, .mv (.t 103), none⟩] [0, 4, 12, 13])
          (.seq (.reg [⟨some 104, .mv (.t 13), none⟩,
              ⟨some 105, .bin .quo (.t 104) (.k (.sc (.int .u32 100))), none⟩,
              ⟨some 106, .bin .mul (.t 105) (.k (.sc (.int .u32 2))), none⟩,
              ⟨some 107, .mv (.t 13), none⟩,
              ⟨some 108, .bin .rem (.t 107) (.k (.sc (.int .u32 100))), none⟩,
              ⟨some 109, .bin .mul (.t 108) (.k (.sc (.int .u32 2))), none⟩,
              ⟨some 14, .mv (.t 106), none⟩,
              ⟨some 15, .mv (.t 109), none⟩] [0, 4, 12, 14, 15])
           (.seq (.regd [(⟨some 110, .mv (.t 0), none⟩, 0, false),
               (⟨some 111, .mv (.t 4), none⟩, 1, false),
               (⟨some 112, .bin .sub (.t 111) (.k (.sc (.int .i64 1))), none⟩, 2, false),
               (⟨some 113, .mv (.t 0), none⟩, 3, false),
               (⟨some 114, .mv (.t 4), none⟩, 4, false),
               (⟨some 115, .bin .sub (.t 114) (.k (.sc (.int .i64 2))), none⟩, 5, false),
               (⟨some 116, .mv (.t 15), none⟩, 6, false),
               (⟨some 117, .bin .add (.t 116) (.k (.sc (.int .u32 1))), none⟩, 7, false),
               (⟨some 118, .idxS (.k (.sc (.str ⟨#[48, 48, 48, 49, 48, 50, 48, 51, 48, 52, 48, 53, 48, 54, 48, 55, 48, 56, 48, 57, 49, 48, 49, 49, 49, 50, 49, 51, 49, 52, 49, 53, 49, 54, 49, 55, 49, 56, 49, 57, 50, 48, 50, 49, 50, 50, 50, 51, 50, 52, 50, 53, 50, 54, 50, 55, 50, 56, 50, 57, 51, 48, 51, 49, 51, 50, 51, 51, 51, 52, 51, 53, 51, 54, 51, 55, 51, 56, 51, 57, 52, 48, 52, 49, 52, 50, 52, 51, 52, 52, 52, 53, 52, 54, 52, 55, 52, 56, 52, 57, 53, 48, 53, 49, 53, 50, 53, 51, 53, 52, 53, 53, 53, 54, 53, 55, 53, 56, 53, 57, 54, 48, 54, 49, 54, 50, 54, 51, 54, 52, 54, 53, 54, 54, 54, 55, 54, 56, 54, 57, 55, 48, 55, 49, 55, 50, 55, 51, 55, 52, 55, 53, 55, 54, 55, 55, 55, 56, 55, 57, 56, 48, 56, 49, 56, 50, 56, 51, 56, 52, 56, 53, 56, 54, 56, 55, 56, 56, 56, 57, 57, 48, 57, 49, 57, 50, 57, 51, 57, 52, 57, 53, 57, 54, 57, 55, 57, 56, 57, 57]⟩))) (.t 117), none⟩, 8, false),
               (⟨some 119, .mv (.t 15), none⟩, 9, false),
               (⟨some 120, .idxS (.k (.sc (.str ⟨#[48, 48, 48, 49, 48, 50, 48, 51, 48, 52, 48, 53, 48, 54, 48, 55, 48, 56, 48, 57, 49, 48, 49, 49, 49, 50, 49, 51, 49, 52, 49, 53, 49, 54, 49, 55, 49, 56, 49, 57, 50, 48, 50, 49, 50, 50, 50, 51, 50, 52, 50, 53, 50, 54, 50, 55, 50, 56, 50, 57, 51, 48, 51, 49, 51, 50, 51, 51, 51, 52, 51, 53, 51, 54, 51, 55, 51, 56, 51, 57, 52, 48, 52, 49, 52, 50, 52, 51, 52, 52, 52, 53, 52, 54, 52, 55, 52, 56, 52, 57, 53, 48, 53, 49, 53, 50, 53, 51, 53, 52, 53, 53, 53, 54, 53, 55, 53, 56, 53, 57, 54, 48, 54, 49, 54, 50, 54, 51, 54, 52, 54, 53, 54, 54, 54, 55, 54, 56, 54, 57, 55, 48, 55, 49, 55, 50, 55, 51, 55, 52, 55, 53, 55, 54, 55, 55, 55, 56, 55, 57, 56, 48, 56, 49, 56, 50, 56, 51, 56, 52, 56, 53, 56, 54, 56, 55, 56, 56, 56, 57, 57, 48, 57, 49, 57, 50, 57, 51, 57, 52, 57, 53, 57, 54, 57, 55, 57, 56, 57, 57]⟩))) (.t 119), none⟩, 10, false),
               (⟨some 121, .idxA 1 (.t 110) (.t 112), none⟩, 11, false),
               (⟨none, .st 1 (.t 121) (.t 118), none⟩, 12, true),
               (⟨some 122, .idxA 1 (.t 113) (.t 115), none⟩, 13, false),
               (⟨none, .st 1 (.t 122) (.t 120), none⟩, 14, true)] [0, 4, 12, 14])
            (.seq (.regd [(⟨some 123, .mv (.t 0), none⟩, 0, false),
                (⟨some 124, .mv (.t 4), none⟩, 1, false),
                (⟨some 125, .bin .sub (.t 124) (.k (.sc (.int .i64 3))), none⟩, 2, false),
                (⟨some 126, .mv (.t 0), none⟩, 3, false),
                (⟨some 127, .mv (.t 4), none⟩, 4, false),
                (⟨some 128, .bin .sub (.t 127) (.k (.sc (.int .i64 4))), none⟩, 5, false),
                (⟨some 129, .mv (.t 14), none⟩, 6, false),
                (⟨some 130, .bin .add (.t 129) (.k (.sc (.int .u32 1))), none⟩, 7, false),
                (⟨some 131, .idxS (.k (.sc (.str ⟨#[48, 48, 48, 49, 48, 50, 48, 51, 48, 52, 48, 53, 48, 54, 48, 55, 48, 56, 48, 57, 49, 48, 49, 49, 49, 50, 49, 51, 49, 52, 49, 53, 49, 54, 49, 55, 49, 56, 49, 57, 50, 48, 50, 49, 50, 50, 50, 51, 50, 52, 50, 53, 50, 54, 50, 55, 50, 56, 50, 57, 51, 48, 51, 49, 51, 50, 51, 51, 51, 52, 51, 53, 51, 54, 51, 55, 51, 56, 51, 57, 52, 48, 52, 49, 52, 50, 52, 51, 52, 52, 52, 53, 52, 54, 52, 55, 52, 56, 52, 57, 53, 48, 53, 49, 53, 50, 53, 51, 53, 52, 53, 53, 53, 54, 53, 55, 53, 56, 53, 57, 54, 48, 54, 49, 54, 50, 54, 51, 54, 52, 54, 53, 54, 54, 54, 55, 54, 56, 54, 57, 55, 48, 55, 49, 55, 50, 55, 51, 55, 52, 55, 53, 55, 54, 55, 55, 55, 56, 55, 57, 56, 48, 56, 49, 56, 50, 56, 51, 56, 52, 56, 53, 56, 54, 56, 55, 56, 56, 56, 57, 57, 48, 57, 49, 57, 50, 57, 51, 57, 52, 57, 53, 57, 54, 57, 55, 57, 56, 57, 57]⟩))) (.t 130), none⟩, 8, false),
                (⟨some 132, .mv (.t 14), none⟩, 9, false),
                (⟨some 133, .idxS (.k (.sc (.str ⟨#[48, 48, 48, 49, 48, 50, 48, 51, 48, 52, 48, 53, 48, 54, 48, 55, 48, 56, 48, 57, 49, 48, 49, 49, 49, 50, 49, 51, 49, 52, 49, 53, 49, 54, 49, 55, 49, 56, 49, 57, 50, 48, 50, 49, 50, 50, 50, 51, 50, 52, 50, 53, 50, 54, 50, 55, 50, 56, 50, 57, 51, 48, 51, 49, 51, 50, 51, 51, 51, 52, 51, 53, 51, 54, 51, 55, 51, 56, 51, 57, 52, 48, 52, 49, 52, 50, 52, 51, 52, 52, 52, 53, 52, 54, 52, 55, 52, 56, 52, 57, 53, 48, 53, 49, 53, 50, 53, 51, 53, 52, 53, 53, 53, 54, 53, 55, 53, 56, 53, 57, 54, 48, 54, 49, 54, 50, 54, 51, 54, 52, 54, 53, 54, 54, 54, 55, 54, 56, 54, 57, 55, 48, 55, 49, 55, 50, 55, 51, 55, 52, 55, 53, 55, 54, 55, 55, 55, 56, 55, 57, 56, 48, 56, 49, 56, 50, 56, 51, 56, 52, 56, 53, 56, 54, 56, 55, 56, 56, 56, 57, 57, 48, 57, 49, 57, 50, 57, 51, 57, 52, 57, 53, 57, 54, 57, 55, 57, 56, 57, 57]⟩))) (.t 132), none⟩, 10, false),
                (⟨some 134, .idxA 1 (.t 123) (.t 125), none⟩, 11, false),
                (⟨none, .st 1 (.t 134) (.t 131), none⟩, 12, true),
                (⟨some 135, .idxA 1 (.t 126) (.t 128), none⟩, 13, false),
                (⟨none, .st 1 (.t 135) (.t 133), none⟩, 14, true)] [0, 4, 12])
             (.reg [⟨some 136, .mv (.t 4), none⟩,
                ⟨some 137, .bin .sub (.t 136) (.k (.sc (.int .i64 4))), none⟩,
                ⟨some 4, .mv (.t 137), none⟩] [0, 4, 12]))))))
        (.skip)))
     (.seq (.seq (.reg [⟨some 138, .mv (.t 4), none⟩,
          ⟨some 139, .bin .geq (.t 138) (.k (.sc (.int .i64 2))), none⟩] [0, 4, 12, 139])
       (.cond (.t 139)
         (.seq (.reg [⟨some 140, .mv (.t 12), none⟩,
             ⟨some 141, .bin .rem (.t 140) (.k (.sc (.int .u32 100))), none⟩,
             ⟨some 142, .bin .mul (.t 141) (.k (.sc (.int .u32 2))), none⟩,
             ⟨some 16, .mv (.t 142), none⟩] [0, 4, 12, 16])
          (.seq (.reg [⟨some 143, .mv (.t 12), none⟩,
              ⟨some 144, .bin .quo (.t 143) (.k (.sc (.int .u32 100))), none⟩,
              ⟨some 12, .mv (.t 144), none⟩] [0, 4, 12, 16])
           (.seq (.regd [(⟨some 145, .mv (.t 0), none⟩, 0, false),
               (⟨some 146, .mv (.t 4), none⟩, 1, false),
               (⟨some 147, .bin .sub (.t 146) (.k (.sc (.int .i64 1))), none⟩, 2, false),
               (⟨some 148, .mv (.t 0), none⟩, 3, false),
               (⟨some 149, .mv (.t 4), none⟩, 4, false),
               (⟨some 150, .bin .sub (.t 149) (.k (.sc (.int .i64 2))), none⟩, 5, false),
               (⟨some 151, .mv (.t 16), none⟩, 6, false),
               (⟨some 152, .bin .add (.t 151) (.k (.sc (.int .u32 1))), none⟩, 7, false),
               (⟨some 153, .idxS (.k (.sc (.str ⟨#[48, 48, 48, 49, 48, 50, 48, 51, 48, 52, 48, 53, 48, 54, 48, 55, 48, 56, 48, 57, 49, 48, 49, 49, 49, 50, 49, 51, 49, 52, 49, 53, 49, 54, 49, 55, 49, 56, 49, 57, 50, 48, 50, 49, 50, 50, 50, 51, 50, 52, 50, 53, 50, 54, 50, 55, 50, 56, 50, 57, 51, 48, 51, 49, 51, 50, 51, 51, 51, 52, 51, 53, 51, 54, 51, 55, 51, 56, 51, 57, 52, 48, 52, 49, 52, 50, 52, 51, 52, 52, 52, 53, 52, 54, 52, 55, 52, 56, 52, 57, 53, 48, 53, 49, 53, 50, 53, 51, 53, 52, 53, 53, 53, 54, 53, 55, 53, 56, 53, 57, 54, 48, 54, 49, 54, 50, 54, 51, 54, 52, 54, 53, 54, 54, 54, 55, 54, 56, 54, 57, 55, 48, 55, 49, 55, 50, 55, 51, 55, 52, 55, 53, 55, 54, 55, 55, 55, 56, 55, 57, 56, 48, 56, 49, 56, 50, 56, 51, 56, 52, 56, 53, 56, 54, 56, 55, 56, 56, 56, 57, 57, 48, 57, 49, 57, 50, 57, 51, 57, 52, 57, 53, 57, 54, 57, 55, 57, 56, 57, 57]⟩))) (.t 152), none⟩, 8, false),
               (⟨some 154, .mv (.t 16), none⟩, 9, false),
               (⟨some 155, .idxS (.k (.sc (.str ⟨#[48, 48, 48, 49, 48, 50, 48, 51, 48, 52, 48, 53, 48, 54, 48, 55, 48, 56, 48, 57, 49, 48, 49, 49, 49, 50, 49, 51, 49, 52, 49, 53, 49, 54, 49, 55, 49, 56, 49, 57, 50, 48, 50, 49, 50, 50, 50, 51, 50, 52, 50, 53, 50, 54, 50, 55, 50, 56, 50, 57, 51, 48, 51, 49, 51, 50, 51, 51, 51, 52, 51, 53, 51, 54, 51, 55, 51, 56, 51, 57, 52, 48, 52, 49, 52, 50, 52, 51, 52, 52, 52, 53, 52, 54, 52, 55, 52, 56, 52, 57, 53, 48, 53, 49, 53, 50, 53, 51, 53, 52, 53, 53, 53, 54, 53, 55, 53, 56, 53, 57, 54, 48, 54, 49, 54, 50, 54, 51, 54, 52, 54, 53, 54, 54, 54, 55, 54, 56, 54, 57, 55, 48, 55, 49, 55, 50, 55, 51, 55, 52, 55, 53, 55, 54, 55, 55, 55, 56, 55, 57, 56, 48, 56, 49, 56, 50, 56, 51, 56, 52, 56, 53, 56, 54, 56, 55, 56, 56, 56, 57, 57, 48, 57, 49, 57, 50, 57, 51, 57, 52, 57, 53, 57, 54, 57, 55, 57, 56, 57, 57]⟩))) (.t 154), none⟩, 10, false),
               (⟨some 156, .idxA 1 (.t 145) (.t 147), none⟩, 11, false),
               (⟨none, .st 1 (.t 156) (.t 153), none⟩, 12, true),
               (⟨some 157, .idxA 1 (.t 148) (.t 150), none⟩, 13, false),
               (⟨none, .st 1 (.t 157) (.t 155), none⟩, 14, true)] [0, 4, 12])
            (.reg [⟨some 158, .mv (.t 4), none⟩,
               ⟨some 159, .bin .sub (.t 158) (.k (.sc (.int .i64 2))), none⟩,
               ⟨some 4, .mv (.t 159), none⟩] [0, 4, 12]))))
         (.skip)))
      (.seq (.reg [⟨some 160, .mv (.t 4), none⟩,
          ⟨some 161, .bin .gtr (.t 160) (.k (.sc (.int .i64 0))), none⟩] [0, 12, 161])
       (.cond (.t 161)
         (.reg [⟨some 162, .mv (.t 0), none⟩,
            ⟨some 163, .mv (.t 12), none⟩,
            ⟨some 164, .bin .add (.k (.sc (.int .u32 48))) (.t 163), none⟩,
            ⟨some 165, .conv .u8 (.t 164), none⟩,
            ⟨some 166, .idxA 1 (.t 162) (.k (.sc (.int .i64 0))), none⟩,
            ⟨none, .st 1 (.t 166) (.t 165), none⟩] [])
         (.skip)))))))
def a83 : AFun := ⟨2, b83, []⟩

def b84L0 : AC :=
  .seq (.seq (.reg [⟨some 44, .mv (.t 1), none⟩,
      ⟨some 45, .mv (.t 15), none⟩,
      ⟨some 46, .bin .geq (.t 44) (.t 45), none⟩] [0, 1, 3, 4, 10, 11, 12, 13, 14, 15, 16, 46])
   (.cond (.t 46)
     (.skip)
     (.exit 0)))
  (.block 1 (.seq (.reg [⟨some 47, .mv (.t 13), none⟩,
       ⟨some 48, .bin .sub (.t 47) (.k (.sc (.int .i64 1))), none⟩,
       ⟨some 13, .mv (.t 48), none⟩] [0, 1, 3, 4, 10, 11, 12, 13, 14, 15, 16])
    (.seq (.reg [⟨some 49, .mv (.t 13), none⟩,
        ⟨some 50, .mv (.t 1), none⟩,
        ⟨some 51, .mv (.t 16), none⟩,
        ⟨some 52, .bin .and (.t 50) (.t 51), none⟩,
        ⟨some 53, .idxS (.k (.sc (.str ⟨#[48, 49, 50, 51, 52, 53, 54, 55, 56, 57, 97, 98, 99, 100, 101, 102, 103, 104, 105, 106, 107, 108, 109, 110, 111, 112, 113, 114, 115, 116, 117, 118, 119, 120, 121, 122]⟩))) (.t 52), none⟩,
        ⟨some 54, .idxP 65 1 (.t 12) (.t 49), none⟩,
        ⟨none, .st 1 (.t 54) (.t 53), none⟩] [0, 1, 3, 4, 10, 11, 12, 13, 14, 15, 16])
     (.reg [⟨some 55, .mv (.t 1), none⟩,
        ⟨some 56, .mv (.t 14), none⟩,
        ⟨some 57, .bin .shr (.t 55) (.t 56), none⟩,
        ⟨some 1, .mv (.t 57), none⟩] [0, 1, 3, 4, 10, 11, 12, 13, 14, 15, 16]))))
def b84L1 : AC :=
  .seq (.seq (.reg [⟨some 66, .mv (.t 1), none⟩,
      ⟨some 67, .mv (.t 17), none⟩,
      ⟨some 68, .bin .geq (.t 66) (.t 67), none⟩] [0, 1, 3, 4, 10, 11, 12, 13, 17, 68])
   (.cond (.t 68)
     (.skip)
     (.exit 2)))
  (.block 3 (.seq (.reg [⟨some 69, .mv (.t 13), none⟩,
       ⟨some 70, .bin .sub (.t 69) (.k (.sc (.int .i64 1))), none⟩,
       ⟨some 13, .mv (.t 70), none⟩] [0, 1, 3, 4, 10, 11, 12, 13, 17])
    (.seq (.reg [⟨some 71, .mv (.t 1), none⟩,
        ⟨some 72, .mv (.t 17), none⟩,
        ⟨some 73, .bin .quo (.t 71) (.t 72), none⟩,
        ⟨some 18, .mv (.t 73), none⟩] [0, 1, 3, 4, 10, 11, 12, 13, 17, 18])
     (.seq (.reg [⟨some 74, .mv (.t 13), none⟩,
         ⟨some 75, .mv (.t 1), none⟩,
         ⟨some 76, .mv (.t 18), none⟩,
         ⟨some 77, .mv (.t 17), none⟩,
         ⟨some 78, .bin .mul (.t 76) (.t 77), none⟩,
         ⟨some 79, .bin .sub (.t 75) (.t 78), none⟩,
         ⟨some 80, .idxS (.k (.sc (.str ⟨#[48, 49, 50, 51, 52, 53, 54, 55, 56, 57, 97, 98, 99, 100, 101, 102, 103, 104, 105, 106, 107, 108, 109, 110, 111, 112, 113, 114, 115, 116, 117, 118, 119, 120, 121, 122]⟩))) (.t 79), none⟩,
         ⟨some 81, .idxP 65 1 (.t 12) (.t 74), none⟩,
         ⟨none, .st 1 (.t 81) (.t 80), none⟩] [0, 3, 4, 10, 11, 12, 13, 17, 18])
      (.reg [⟨some 82, .mv (.t 18), none⟩,
         ⟨some 1, .mv (.t 82), none⟩] [0, 1, 3, 4, 10, 11, 12, 13, 17])))))
/-- internal/strconv.formatBits -/
def b84 : AC :=
  .seq (.reg [⟨some 10, .mv (.k (.sc .nilS)), none⟩,
     ⟨some 11, .mv (.k (.sc (.str ⟨#[]⟩))), none⟩] [0, 1, 2, 3, 4, 10, 11])
  (.seq (.seq (.reg [⟨some 19, .mv (.t 2), none⟩,
       ⟨some 20, .bin .lss (.t 19) (.k (.sc (.int .i64 2))), none⟩,
       ⟨some 21, .mv (.t 20), none⟩,
       ⟨some 22, .mv (.t 2), (some (21, false))⟩,
       ⟨some 23, .bin .eql (.t 22) (.k (.sc (.int .i64 10))), (some (21, false))⟩,
       ⟨some 24, .pick (.t 21) (.k (.sc (.bool true))) (.t 23), none⟩,
       ⟨some 25, .mv (.t 24), none⟩,
       ⟨some 26, .mv (.t 2), (some (25, false))⟩,
       ⟨some 27, .bin .gtr (.t 26) (.k (.sc (.int .i64 36))), (some (25, false))⟩,
       ⟨some 28, .pick (.t 25) (.k (.sc (.bool true))) (.t 27), none⟩] [0, 1, 2, 3, 4, 10, 11, 28])
    (.cond (.t 28)
      (.reg [⟨some 29, .bad, none⟩,
         ⟨none, .bad, none⟩] [0, 1, 2, 3, 4, 10, 11])
      (.skip)))
   (.seq (.reg [⟨some 12, .new [.int .u8 0, .int .u8 0, .int .u8 0, .int .u8 0, .int .u8 0, .int .u8 0, .int .u8 0, .int .u8 0, .int .u8 0, .int .u8 0, .int .u8 0, .int .u8 0, .int .u8 0, .int .u8 0, .int .u8 0, .int .u8 0, .int .u8 0, .int .u8 0, .int .u8 0, .int .u8 0, .int .u8 0, .int .u8 0, .int .u8 0, .int .u8 0, .int .u8 0, .int .u8 0, .int .u8 0, .int .u8 0, .int .u8 0, .int .u8 0, .int .u8 0, .int .u8 0, .int .u8 0, .int .u8 0, .int .u8 0, .int .u8 0, .int .u8 0, .int .u8 0, .int .u8 0, .int .u8 0, .int .u8 0, .int .u8 0, .int .u8 0, .int .u8 0, .int .u8 0, .int .u8 0, .int .u8 0, .int .u8 0, .int .u8 0, .int .u8 0, .int .u8 0, .int .u8 0, .int .u8 0, .int .u8 0, .int .u8 0, .int .u8 0, .int .u8 0, .int .u8 0, .int .u8 0, .int .u8 0, .int .u8 0, .int .u8 0, .int .u8 0, .int .u8 0, .int .u8 0], none⟩] [0, 1, 2, 3, 4, 10, 11, 12])
    (.seq (.reg [⟨some 13, .mv (.k (.sc (.int .i64 65))), none⟩] [0, 1, 2, 3, 4, 10, 11, 12, 13])
     (.seq (.seq (.reg [⟨some 30, .mv (.t 3), none⟩] [0, 1, 2, 3, 4, 10, 11, 12, 13, 30])
       (.cond (.t 30)
         (.reg [⟨some 31, .mv (.t 1), none⟩,
            ⟨some 32, .un .neg (.t 31), none⟩,
            ⟨some 1, .mv (.t 32), none⟩] [0, 1, 2, 3, 4, 10, 11, 12, 13])
         (.skip)))
      (.seq (.seq (.reg [⟨some 33, .mv (.t 2), none⟩,
           ⟨some 34, .call 96 [(.t 33)], none⟩] [0, 1, 2, 3, 4, 10, 11, 12, 13, 34])
        (.cond (.t 34)
          (.seq (.reg [⟨some 35, .mv (.t 2), none⟩,
              ⟨some 36, .conv .u64 (.t 35), none⟩,
              ⟨some 37, .call 97 [(.t 36)], none⟩,
              ⟨some 38, .conv .u64 (.t 37), none⟩,
              ⟨some 14, .mv (.t 38), none⟩] [0, 1, 2, 3, 4, 10, 11, 12, 13, 14])
           (.seq (.reg [⟨some 39, .mv (.t 2), none⟩,
               ⟨some 40, .conv .u64 (.t 39), none⟩,
               ⟨some 15, .mv (.t 40), none⟩] [0, 1, 2, 3, 4, 10, 11, 12, 13, 14, 15])
            (.seq (.reg [⟨some 41, .mv (.t 2), none⟩,
                ⟨some 42, .conv .u64 (.t 41), none⟩,
                ⟨some 43, .bin .sub (.t 42) (.k (.sc (.int .u64 1))), none⟩,
                ⟨some 16, .mv (.t 43), none⟩] [0, 1, 3, 4, 10, 11, 12, 13, 14, 15, 16])
             (.seq (.block 0 (.loop [0, 1, 3, 4, 10, 11, 12, 13, 14, 15, 16] b84L0))
              (.seq (.reg [⟨some 58, .mv (.t 13), none⟩,
                  ⟨some 59, .bin .sub (.t 58) (.k (.sc (.int .i64 1))), none⟩,
                  ⟨some 13, .mv (.t 59), none⟩] [0, 1, 3, 4, 10, 11, 12, 13])
               (.reg [⟨some 60, .mv (.t 13), none⟩,
                  ⟨some 61, .mv (.t 1), none⟩,
                  ⟨some 62, .idxS (.k (.sc (.str ⟨#[48, 49, 50, 51, 52, 53, 54, 55, 56, 57, 97, 98, 99, 100, 101, 102, 103, 104, 105, 106, 107, 108, 109, 110, 111, 112, 113, 114, 115, 116, 117, 118, 119, 120, 121, 122]⟩))) (.t 61), none⟩,
                  ⟨some 63, .idxP 65 1 (.t 12) (.t 60), none⟩,
                  ⟨none, .st 1 (.t 63) (.t 62), none⟩] [0, 3, 4, 10, 11, 12, 13]))))))
          (.seq (.reg [⟨some 64, .mv (.t 2), none⟩,
              ⟨some 65, .conv .u64 (.t 64), none⟩,
              ⟨some 17, .mv (.t 65), none⟩] [0, 1, 3, 4, 10, 11, 12, 13, 17])
           (.seq (.block 2 (.loop [0, 1, 3, 4, 10, 11, 12, 13, 17] b84L1))
            (.seq (.reg [⟨some 83, .mv (.t 13), none⟩,
                ⟨some 84, .bin .sub (.t 83) (.k (.sc (.int .i64 1))), none⟩,
                ⟨some 13, .mv (.t 84), none⟩] [0, 1, 3, 4, 10, 11, 12, 13])
             (.reg [⟨some 85, .mv (.t 13), none⟩,
                ⟨some 86, .mv (.t 1), none⟩,
                ⟨some 87, .idxS (.k (.sc (.str ⟨#[48, 49, 50, 51, 52, 53, 54, 55, 56, 57, 97, 98, 99, 100, 101, 102, 103, 104, 105, 106, 107, 108, 109, 110, 111, 112, 113, 114, 115, 116, 117, 118, 119, 120, 121, 122]⟩))) (.t 86), none⟩,
                ⟨some 88, .idxP 65 1 (.t 12) (.t 85), none⟩,
                ⟨none, .st 1 (.t 88) (.t 87), none⟩] [0, 3, 4, 10, 11, 12, 13]))))))
       (.seq (.seq (.reg [⟨some 89, .mv (.t 3), none⟩] [0, 4, 10, 11, 12, 13, 89])
         (.cond (.t 89)
           (.seq (.reg [⟨some 90, .mv (.t 13), none⟩,
               ⟨some 91, .bin .sub (.t 90) (.k (.sc (.int .i64 1))), none⟩,
               ⟨some 13, .mv (.t 91), none⟩] [0, 4, 10, 11, 12, 13])
            (.reg [⟨some 92, .mv (.t 13), none⟩,
               ⟨some 93, .idxP 65 1 (.t 12) (.t 92), none⟩,
               ⟨none, .st 1 (.t 93) (.k (.sc (.int .u8 45))), none⟩] [0, 4, 10, 11, 12, 13]))
           (.skip)))
        (.seq (.seq (.reg [⟨some 94, .mv (.t 4), none⟩] [0, 10, 11, 12, 13, 94])
          (.cond (.t 94)
            (.seq (.reg [⟨some 95, .mv (.t 0), none⟩,
                ⟨some 96, .mv (.t 13), none⟩,
                ⟨some 97, .bad, none⟩,
                ⟨some 98, .app ⟨1, some 5⟩ 1 [.int .u8 0] (.t 95) (.t 97), none⟩,
                ⟨some 10, .mv (.t 98), none⟩] [10, 11])
             (.ret))
            (.skip)))
         (.seq (.reg [⟨some 99, .mv (.t 13), none⟩,
             ⟨some 100, .bad, none⟩,
             ⟨some 101, .bad, none⟩,
             ⟨some 11, .mv (.t 101), none⟩] [10, 11])
          (.ret)))))))))
def a84 : AFun := ⟨5, b84, [.t 10, .t 11]⟩

/-- internal/strconv.log10Pow2 -/
def b93 : AC :=
  .seq (.reg [⟨some 2, .mv (.k (.sc (.int .i64 0))), none⟩] [0])
  (.seq (.reg [⟨some 3, .mv (.t 0), none⟩,
      ⟨some 4, .bin .mul (.t 3) (.k (.sc (.int .i64 78913))), none⟩,
      ⟨some 5, .bin .shr (.t 4) (.k (.sc (.int .u64 18))), none⟩,
      ⟨some 2, .mv (.t 5), none⟩] [2])
   (.ret))
def a93 : AFun := ⟨1, b93, [.t 2]⟩

/-- math/bits.Len64 -/
def b94 : AC :=
  .seq (.reg [⟨some 2, .mv (.k (.sc (.int .i64 0))), none⟩] [0, 2])
  (.seq (.seq (.reg [⟨some 3, .mv (.t 0), none⟩,
       ⟨some 4, .bin .geq (.t 3) (.k (.sc (.int .u64 4294967296))), none⟩] [0, 2, 4])
    (.cond (.t 4)
      (.seq (.reg [⟨some 5, .mv (.t 0), none⟩,
          ⟨some 6, .bin .shr (.t 5) (.k (.sc (.int .u64 32))), none⟩,
          ⟨some 0, .mv (.t 6), none⟩] [0])
       (.reg [⟨some 2, .mv (.k (.sc (.int .i64 32))), none⟩] [0, 2]))
      (.skip)))
   (.seq (.seq (.reg [⟨some 7, .mv (.t 0), none⟩,
        ⟨some 8, .bin .geq (.t 7) (.k (.sc (.int .u64 65536))), none⟩] [0, 2, 8])
     (.cond (.t 8)
       (.seq (.reg [⟨some 9, .mv (.t 0), none⟩,
           ⟨some 10, .bin .shr (.t 9) (.k (.sc (.int .u64 16))), none⟩,
           ⟨some 0, .mv (.t 10), none⟩] [0, 2])
        (.reg [⟨some 11, .mv (.t 2), none⟩,
           ⟨some 12, .bin .add (.t 11) (.k (.sc (.int .i64 16))), none⟩,
           ⟨some 2, .mv (.t 12), none⟩] [0, 2]))
       (.skip)))
    (.seq (.seq (.reg [⟨some 13, .mv (.t 0), none⟩,
         ⟨some 14, .bin .geq (.t 13) (.k (.sc (.int .u64 256))), none⟩] [0, 2, 14])
      (.cond (.t 14)
        (.seq (.reg [⟨some 15, .mv (.t 0), none⟩,
            ⟨some 16, .bin .shr (.t 15) (.k (.sc (.int .u64 8))), none⟩,
            ⟨some 0, .mv (.t 16), none⟩] [0, 2])
         (.reg [⟨some 17, .mv (.t 2), none⟩,
            ⟨some 18, .bin .add (.t 17) (.k (.sc (.int .i64 8))), none⟩,
            ⟨some 2, .mv (.t 18), none⟩] [0, 2]))
        (.skip)))
     (.seq (.reg [⟨some 19, .mv (.t 2), none⟩,
         ⟨some 20, .mv (.t 0), none⟩,
         ⟨some 21, .conv .u8 (.t 20), none⟩,
         ⟨some 22, .idxS (.k (.sc (.str ⟨#[0, 1, 2, 2, 3, 3, 3, 3, 4, 4, 4, 4, 4, 4, 4, 4, 5, 5, 5, 5, 5, 5, 5, 5, 5, 5, 5, 5, 5, 5, 5, 5, 6, 6, 6, 6, 6, 6, 6, 6, 6, 6, 6, 6, 6, 6, 6, 6, 6, 6, 6, 6, 6, 6, 6, 6, 6, 6, 6, 6, 6, 6, 6, 6, 7, 7, 7, 7, 7, 7, 7, 7, 7, 7, 7, 7, 7, 7, 7, 7, 7, 7, 7, 7, 7, 7, 7, 7, 7, 7, 7, 7, 7, 7, 7, 7, 7, 7, 7, 7, 7, 7, 7, 7, 7, 7, 7, 7, 7, 7, 7, 7, 7, 7, 7, 7, 7, 7, 7, 7, 7, 7, 7, 7, 7, 7, 7, 7, 8, 8, 8, 8, 8, 8, 8, 8, 8, 8, 8, 8, 8, 8, 8, 8, 8, 8, 8, 8, 8, 8, 8, 8, 8, 8, 8, 8, 8, 8, 8, 8, 8, 8, 8, 8, 8, 8, 8, 8, 8, 8, 8, 8, 8, 8, 8, 8, 8, 8, 8, 8, 8, 8, 8, 8, 8, 8, 8, 8, 8, 8, 8, 8, 8, 8, 8, 8, 8, 8, 8, 8, 8, 8, 8, 8, 8, 8, 8, 8, 8, 8, 8, 8, 8, 8, 8, 8, 8, 8, 8, 8, 8, 8, 8, 8, 8, 8, 8, 8, 8, 8, 8, 8, 8, 8, 8, 8, 8, 8, 8, 8, 8, 8, 8, 8, 8, 8, 8, 8, 8, 8, 8, 8, 8, 8, 8, 8]⟩))) (.t 21), none⟩,
         ⟨some 23, .conv .i64 (.t 22), none⟩,
         ⟨some 24, .bin .add (.t 19) (.t 23), none⟩,
         ⟨some 2, .mv (.t 24), none⟩] [2])
      (.ret)))))
def a94 : AFun := ⟨1, b94, [.t 2]⟩

/-- internal/strconv.bool2[int] -/
def b95 : AC :=
  .seq (.reg [⟨some 2, .mv (.k (.sc (.int .i64 0))), none⟩] [0])
  (.seq (.seq (.reg [⟨some 3, .mv (.t 0), none⟩] [3])
    (.cond (.t 3)
      (.seq (.reg [⟨some 2, .mv (.k (.sc (.int .i64 1))), none⟩] [2])
       (.ret))
      (.skip)))
   (.seq (.reg [⟨some 2, .mv (.k (.sc (.int .i64 0))), none⟩] [2])
    (.ret)))
def a95 : AFun := ⟨1, b95, [.t 2]⟩

/-- internal/strconv.isPowerOfTwo -/
def b96 : AC :=
  .seq (.reg [⟨some 2, .mv (.k (.sc (.bool false))), none⟩] [0])
  (.seq (.reg [⟨some 3, .mv (.t 0), none⟩,
      ⟨some 4, .mv (.t 0), none⟩,
      ⟨some 5, .bin .sub (.t 4) (.k (.sc (.int .i64 1))), none⟩,
      ⟨some 6, .bin .and (.t 3) (.t 5), none⟩,
      ⟨some 7, .bin .eql (.t 6) (.k (.sc (.int .i64 0))), none⟩,
      ⟨some 2, .mv (.t 7), none⟩] [2])
   (.ret))
def a96 : AFun := ⟨1, b96, [.t 2]⟩

/-- math/bits.TrailingZeros -/
def b97 : AC :=
  .seq (.reg [⟨some 2, .mv (.k (.sc (.int .i64 0))), none⟩] [0])
  (.seq (.cond (.k (.sc (.bool false)))
     (.seq (.reg [⟨some 3, .mv (.t 0), none⟩,
         ⟨some 4, .conv .u32 (.t 3), none⟩,
         ⟨some 5, .call 101 [(.t 4)], none⟩,
         ⟨some 2, .mv (.t 5), none⟩] [2])
      (.ret))
     (.skip))
   (.seq (.reg [⟨some 6, .mv (.t 0), none⟩,
       ⟨some 7, .call 102 [(.t 6)], none⟩,
       ⟨some 2, .mv (.t 7), none⟩] [2])
    (.ret)))
def a97 : AFun := ⟨1, b97, [.t 2]⟩

/-- math/bits.TrailingZeros32 -/
def b101 : AC :=
  .seq (.reg [⟨some 2, .mv (.k (.sc (.int .i64 0))), none⟩] [0])
  (.seq (.seq (.reg [⟨some 3, .mv (.t 0), none⟩,
       ⟨some 4, .bin .eql (.t 3) (.k (.sc (.int .u32 0))), none⟩] [0, 4])
    (.cond (.t 4)
      (.seq (.reg [⟨some 2, .mv (.k (.sc (.int .i64 32))), none⟩] [2])
       (.ret))
      (.skip)))
   (.seq (.reg [⟨some 5, .mv (.t 0), none⟩,
       ⟨some 6, .mv (.t 0), none⟩,
       ⟨some 7, .un .neg (.t 6), none⟩,
       ⟨some 8, .bin .and (.t 5) (.t 7), none⟩,
       ⟨some 9, .bin .mul (.t 8) (.k (.sc (.int .u32 125613361))), none⟩,
       ⟨some 10, .bin .shr (.t 9) (.k (.sc (.int .u64 27))), none⟩,
       ⟨some 11, .bad, none⟩,
       ⟨some 12, .ld 1 false (.t 11), none⟩,
       ⟨some 13, .conv .i64 (.t 12), none⟩,
       ⟨some 2, .mv (.t 13), none⟩] [2])
    (.ret)))
def a101 : AFun := ⟨1, b101, [.t 2]⟩

/-- math/bits.TrailingZeros64 -/
def b102 : AC :=
  .seq (.reg [⟨some 2, .mv (.k (.sc (.int .i64 0))), none⟩] [0])
  (.seq (.seq (.reg [⟨some 3, .mv (.t 0), none⟩,
       ⟨some 4, .bin .eql (.t 3) (.k (.sc (.int .u64 0))), none⟩] [0, 4])
    (.cond (.t 4)
      (.seq (.reg [⟨some 2, .mv (.k (.sc (.int .i64 64))), none⟩] [2])
       (.ret))
      (.skip)))
   (.seq (.reg [⟨some 5, .mv (.t 0), none⟩,
       ⟨some 6, .mv (.t 0), none⟩,
       ⟨some 7, .un .neg (.t 6), none⟩,
       ⟨some 8, .bin .and (.t 5) (.t 7), none⟩,
       ⟨some 9, .bin .mul (.t 8) (.k (.sc (.int .u64 285870213051353865))), none⟩,
       ⟨some 10, .bin .shr (.t 9) (.k (.sc (.int .u64 58))), none⟩,
       ⟨some 11, .bad, none⟩,
       ⟨some 12, .ld 1 false (.t 11), none⟩,
       ⟨some 13, .conv .i64 (.t 12), none⟩,
       ⟨some 2, .mv (.t 13), none⟩] [2])
    (.ret)))
def a102 : AFun := ⟨1, b102, [.t 2]⟩

def FT : FuncId → Option AFun
  | 3 => some a3
  | 4 => some a4
  | 5 => some a5
  | 6 => some a6
  | 7 => some a7
  | 8 => some a8
  | 9 => some a9
  | 10 => some a10
  | 11 => some a11
  | 12 => some a12
  | 13 => some a13
  | 14 => some a14
  | 15 => some a15
  | 16 => some a16
  | 17 => some a17
  | 18 => some a18
  | 19 => some a19
  | 20 => some a20
  | 21 => some a21
  | 22 => some a22
  | 23 => some a23
  | 24 => some a24
  | 25 => some a25
  | 26 => some a26
  | 27 => some a27
  | 28 => some a28
  | 29 => some a29
  | 30 => some a30
  | 31 => some a31
  | 32 => some a32
  | 33 => some a33
  | 34 => some a34
  | 35 => some a35
  | 36 => some a36
  | 37 => some a37
  | 38 => some a38
  | 39 => some a39
  | 40 => some a40
  | 41 => some a41
  | 42 => some a42
  | 43 => some a43
  | 44 => some a44
  | 46 => some a46
  | 47 => some a47
  | 48 => some a48
  | 49 => some a49
  | 50 => some a50
  | 51 => some a51
  | 52 => some a52
  | 53 => some a53
  | 54 => some a54
  | 55 => some a55
  | 59 => some a59
  | 61 => some a61
  | 66 => some a66
  | 68 => some a68
  | 81 => some a81
  | 82 => some a82
  | 83 => some a83
  | 84 => some a84
  | 93 => some a93
  | 94 => some a94
  | 95 => some a95
  | 96 => some a96
  | 97 => some a97
  | 101 => some a101
  | 102 => some a102
  | _ => none

theorem ok3 : okFun Tryd.prog a3 Tryd.f3 = true := by kernel_rfl
theorem ok4 : okFun Tryd.prog a4 Tryd.f4 = true := by kernel_rfl
theorem ok5 : okFun Tryd.prog a5 Tryd.f5 = true := by kernel_rfl
theorem ok6 : okFun Tryd.prog a6 Tryd.f6 = true := by kernel_rfl
theorem ok7 : okFun Tryd.prog a7 Tryd.f7 = true := by kernel_rfl
theorem ok8 : okFun Tryd.prog a8 Tryd.f8 = true := by kernel_rfl
theorem ok9 : okFun Tryd.prog a9 Tryd.f9 = true := by kernel_rfl
theorem ok10 : okFun Tryd.prog a10 Tryd.f10 = true := by kernel_rfl
theorem ok11 : okFun Tryd.prog a11 Tryd.f11 = true := by kernel_rfl
theorem ok12 : okFun Tryd.prog a12 Tryd.f12 = true := by kernel_rfl
theorem ok13 : okFun Tryd.prog a13 Tryd.f13 = true := by kernel_rfl
theorem ok14 : okFun Tryd.prog a14 Tryd.f14 = true := by kernel_rfl
theorem ok15 : okFun Tryd.prog a15 Tryd.f15 = true := by kernel_rfl
theorem ok16 : okFun Tryd.prog a16 Tryd.f16 = true := by kernel_rfl
theorem ok17 : okFun Tryd.prog a17 Tryd.f17 = true := by kernel_rfl
theorem ok18 : okFun Tryd.prog a18 Tryd.f18 = true := by kernel_rfl
theorem ok19 : okFun Tryd.prog a19 Tryd.f19 = true := by kernel_rfl
theorem ok20 : okFun Tryd.prog a20 Tryd.f20 = true := by kernel_rfl
theorem ok21 : okFun Tryd.prog a21 Tryd.f21 = true := by kernel_rfl
theorem ok22 : okFun Tryd.prog a22 Tryd.f22 = true := by kernel_rfl
theorem ok23 : okFun Tryd.prog a23 Tryd.f23 = true := by kernel_rfl
theorem ok24 : okFun Tryd.prog a24 Tryd.f24 = true := by kernel_rfl
theorem ok25 : okFun Tryd.prog a25 Tryd.f25 = true := by kernel_rfl
theorem ok26 : okFun Tryd.prog a26 Tryd.f26 = true := by kernel_rfl
theorem ok27 : okFun Tryd.prog a27 Tryd.f27 = true := by kernel_rfl
theorem ok28 : okFun Tryd.prog a28 Tryd.f28 = true := by kernel_rfl
theorem ok29 : okFun Tryd.prog a29 Tryd.f29 = true := by kernel_rfl
theorem ok30 : okFun Tryd.prog a30 Tryd.f30 = true := by kernel_rfl
theorem ok31 : okFun Tryd.prog a31 Tryd.f31 = true := by kernel_rfl
theorem ok32 : okFun Tryd.prog a32 Tryd.f32 = true := by kernel_rfl
theorem ok33 : okFun Tryd.prog a33 Tryd.f33 = true := by kernel_rfl
theorem ok34 : okFun Tryd.prog a34 Tryd.f34 = true := by kernel_rfl
theorem ok35 : okFun Tryd.prog a35 Tryd.f35 = true := by kernel_rfl
theorem ok36 : okFun Tryd.prog a36 Tryd.f36 = true := by kernel_rfl
theorem ok37 : okFun Tryd.prog a37 Tryd.f37 = true := by kernel_rfl
theorem ok38 : okFun Tryd.prog a38 Tryd.f38 = true := by kernel_rfl
theorem ok39 : okFun Tryd.prog a39 Tryd.f39 = true := by kernel_rfl
theorem ok40 : okFun Tryd.prog a40 Tryd.f40 = true := by kernel_rfl
theorem ok41 : okFun Tryd.prog a41 Tryd.f41 = true := by kernel_rfl
theorem ok42 : okFun Tryd.prog a42 Tryd.f42 = true := by kernel_rfl
theorem ok43 : okFun Tryd.prog a43 Tryd.f43 = true := by kernel_rfl
theorem ok44 : okFun Tryd.prog a44 Tryd.f44 = true := by kernel_rfl
theorem ok46 : okFun Tryd.prog a46 Tryd.f46 = true := by kernel_rfl
theorem ok47 : okFun Tryd.prog a47 Tryd.f47 = true := by kernel_rfl
theorem ok48 : okFun Tryd.prog a48 Tryd.f48 = true := by kernel_rfl
theorem ok49 : okFun Tryd.prog a49 Tryd.f49 = true := by kernel_rfl
theorem ok50 : okFun Tryd.prog a50 Tryd.f50 = true := by kernel_rfl
theorem ok51 : okFun Tryd.prog a51 Tryd.f51 = true := by kernel_rfl
theorem ok52 : okFun Tryd.prog a52 Tryd.f52 = true := by kernel_rfl
theorem ok53 : okFun Tryd.prog a53 Tryd.f53 = true := by kernel_rfl
theorem ok54 : okFun Tryd.prog a54 Tryd.f54 = true := by kernel_rfl
theorem ok55 : okFun Tryd.prog a55 Tryd.f55 = true := by kernel_rfl
theorem ok59 : okFun Tryd.prog a59 Tryd.f59 = true := by kernel_rfl
theorem ok61 : okFun Tryd.prog a61 Tryd.f61 = true := by kernel_rfl
theorem ok66 : okFun Tryd.prog a66 Tryd.f66 = true := by kernel_rfl
theorem ok68 : okFun Tryd.prog a68 Tryd.f68 = true := by kernel_rfl
theorem ok81 : okFun Tryd.prog a81 Tryd.f81 = true := by kernel_rfl
theorem ok82 : okFun Tryd.prog a82 Tryd.f82 = true := by kernel_rfl
theorem ok83 : okFun Tryd.prog a83 Tryd.f83 = true := by kernel_rfl
theorem ok84 : okFun Tryd.prog a84 Tryd.f84 = true := by kernel_rfl
theorem ok93 : okFun Tryd.prog a93 Tryd.f93 = true := by kernel_rfl
theorem ok94 : okFun Tryd.prog a94 Tryd.f94 = true := by kernel_rfl
theorem ok95 : okFun Tryd.prog a95 Tryd.f95 = true := by kernel_rfl
theorem ok96 : okFun Tryd.prog a96 Tryd.f96 = true := by kernel_rfl
theorem ok97 : okFun Tryd.prog a97 Tryd.f97 = true := by kernel_rfl
theorem ok101 : okFun Tryd.prog a101 Tryd.f101 = true := by kernel_rfl
theorem ok102 : okFun Tryd.prog a102 Tryd.f102 = true := by kernel_rfl
theorem mixed : Tryd.prog.follows .mixedOrders = true := by kernel_rfl
theorem ft_ok : FTok Tryd.prog FT := by
  refine ⟨mixed, fun f F h => ?_⟩
  unfold FT at h
  split at h
  · simp at h; subst h; exact ⟨_, Tryd.func3, ok3⟩
  · simp at h; subst h; exact ⟨_, Tryd.func4, ok4⟩
  · simp at h; subst h; exact ⟨_, Tryd.func5, ok5⟩
  · simp at h; subst h; exact ⟨_, Tryd.func6, ok6⟩
  · simp at h; subst h; exact ⟨_, Tryd.func7, ok7⟩
  · simp at h; subst h; exact ⟨_, Tryd.func8, ok8⟩
  · simp at h; subst h; exact ⟨_, Tryd.func9, ok9⟩
  · simp at h; subst h; exact ⟨_, Tryd.func10, ok10⟩
  · simp at h; subst h; exact ⟨_, Tryd.func11, ok11⟩
  · simp at h; subst h; exact ⟨_, Tryd.func12, ok12⟩
  · simp at h; subst h; exact ⟨_, Tryd.func13, ok13⟩
  · simp at h; subst h; exact ⟨_, Tryd.func14, ok14⟩
  · simp at h; subst h; exact ⟨_, Tryd.func15, ok15⟩
  · simp at h; subst h; exact ⟨_, Tryd.func16, ok16⟩
  · simp at h; subst h; exact ⟨_, Tryd.func17, ok17⟩
  · simp at h; subst h; exact ⟨_, Tryd.func18, ok18⟩
  · simp at h; subst h; exact ⟨_, Tryd.func19, ok19⟩
  · simp at h; subst h; exact ⟨_, Tryd.func20, ok20⟩
  · simp at h; subst h; exact ⟨_, Tryd.func21, ok21⟩
  · simp at h; subst h; exact ⟨_, Tryd.func22, ok22⟩
  · simp at h; subst h; exact ⟨_, Tryd.func23, ok23⟩
  · simp at h; subst h; exact ⟨_, Tryd.func24, ok24⟩
  · simp at h; subst h; exact ⟨_, Tryd.func25, ok25⟩
  · simp at h; subst h; exact ⟨_, Tryd.func26, ok26⟩
  · simp at h; subst h; exact ⟨_, Tryd.func27, ok27⟩
  · simp at h; subst h; exact ⟨_, Tryd.func28, ok28⟩
  · simp at h; subst h; exact ⟨_, Tryd.func29, ok29⟩
  · simp at h; subst h; exact ⟨_, Tryd.func30, ok30⟩
  · simp at h; subst h; exact ⟨_, Tryd.func31, ok31⟩
  · simp at h; subst h; exact ⟨_, Tryd.func32, ok32⟩
  · simp at h; subst h; exact ⟨_, Tryd.func33, ok33⟩
  · simp at h; subst h; exact ⟨_, Tryd.func34, ok34⟩
  · simp at h; subst h; exact ⟨_, Tryd.func35, ok35⟩
  · simp at h; subst h; exact ⟨_, Tryd.func36, ok36⟩
  · simp at h; subst h; exact ⟨_, Tryd.func37, ok37⟩
  · simp at h; subst h; exact ⟨_, Tryd.func38, ok38⟩
  · simp at h; subst h; exact ⟨_, Tryd.func39, ok39⟩
  · simp at h; subst h; exact ⟨_, Tryd.func40, ok40⟩
  · simp at h; subst h; exact ⟨_, Tryd.func41, ok41⟩
  · simp at h; subst h; exact ⟨_, Tryd.func42, ok42⟩
  · simp at h; subst h; exact ⟨_, Tryd.func43, ok43⟩
  · simp at h; subst h; exact ⟨_, Tryd.func44, ok44⟩
  · simp at h; subst h; exact ⟨_, Tryd.func46, ok46⟩
  · simp at h; subst h; exact ⟨_, Tryd.func47, ok47⟩
  · simp at h; subst h; exact ⟨_, Tryd.func48, ok48⟩
  · simp at h; subst h; exact ⟨_, Tryd.func49, ok49⟩
  · simp at h; subst h; exact ⟨_, Tryd.func50, ok50⟩
  · simp at h; subst h; exact ⟨_, Tryd.func51, ok51⟩
  · simp at h; subst h; exact ⟨_, Tryd.func52, ok52⟩
  · simp at h; subst h; exact ⟨_, Tryd.func53, ok53⟩
  · simp at h; subst h; exact ⟨_, Tryd.func54, ok54⟩
  · simp at h; subst h; exact ⟨_, Tryd.func55, ok55⟩
  · simp at h; subst h; exact ⟨_, Tryd.func59, ok59⟩
  · simp at h; subst h; exact ⟨_, Tryd.func61, ok61⟩
  · simp at h; subst h; exact ⟨_, Tryd.func66, ok66⟩
  · simp at h; subst h; exact ⟨_, Tryd.func68, ok68⟩
  · simp at h; subst h; exact ⟨_, Tryd.func81, ok81⟩
  · simp at h; subst h; exact ⟨_, Tryd.func82, ok82⟩
  · simp at h; subst h; exact ⟨_, Tryd.func83, ok83⟩
  · simp at h; subst h; exact ⟨_, Tryd.func84, ok84⟩
  · simp at h; subst h; exact ⟨_, Tryd.func93, ok93⟩
  · simp at h; subst h; exact ⟨_, Tryd.func94, ok94⟩
  · simp at h; subst h; exact ⟨_, Tryd.func95, ok95⟩
  · simp at h; subst h; exact ⟨_, Tryd.func96, ok96⟩
  · simp at h; subst h; exact ⟨_, Tryd.func97, ok97⟩
  · simp at h; subst h; exact ⟨_, Tryd.func101, ok101⟩
  · simp at h; subst h; exact ⟨_, Tryd.func102, ok102⟩
  · simp at h
end Go.Proofs.YtadelcikpkhclaaDoor
