/- The annotated code of this seat, printed by program (mkseat.py). -/
import Derived.Test.YtgmfjhmphiiifaaDoorProg
import Derived.KernelRfl
import Derived.Test.YtgmfjhmphiiifaaDoorAb17
namespace Go.Proofs.YtgmfjhmphiiifaaDoor
open Go.Ab

def b8L0 : AC :=
  .seq (.reg [⟨some 34, .bin .lss (.t 33) (.t 32), none⟩] [0, 1, 2, 31, 32, 33, 34])
  (.seq (.cond (.t 34)
     (.skip)
     (.exit 0))
   (.seq (.block 1 (.seq (.reg [⟨some 35, .idxA 1 (.t 31) (.t 33), none⟩,
         ⟨some 36, .ld 1 false (.t 35), none⟩,
         ⟨some 8, .mv (.t 36), none⟩] [0, 1, 2, 8, 31, 32, 33])
      (.seq (.reg [⟨some 37, .mv (.t 8), none⟩,
          ⟨some 38, .len false (.t 37), none⟩,
          ⟨some 39, .bin .gtr (.t 38) (.k (.sc (.int .i64 20))), none⟩,
          ⟨some 40, .mv (.t 39), none⟩,
          ⟨some 41, .mv (.t 8), (some (40, false))⟩,
          ⟨some 42, .call 13 [(.t 41)], (some (40, false))⟩,
          ⟨some 43, .un .not (.t 42), (some (40, false))⟩,
          ⟨some 44, .pick (.t 40) (.k (.sc (.bool true))) (.t 43), none⟩] [0, 1, 2, 31, 32, 33, 44])
       (.cond (.t 44)
         (.seq (.reg [⟨some 6, .mv (.k (.sc (.bool true))), none⟩] [6])
          (.ret))
         (.skip)))))
    (.reg [⟨some 45, .bin .add (.t 33) (.k (.sc (.int .i64 1))), none⟩,
       ⟨some 33, .mv (.t 45), none⟩] [0, 1, 2, 31, 32, 33])))
/-- unravel/unravellaw21.WordSubstitutes -/
def b8 : AC :=
  .seq (.reg [⟨some 6, .mv (.k (.sc (.bool false))), none⟩] [0, 1, 2])
  (.seq (.seq (.reg [⟨some 16, .call 12 [], none⟩,
       ⟨some 17, .un .not (.t 16), none⟩] [0, 1, 2, 17])
    (.cond (.t 17)
      (.seq (.reg [⟨some 6, .mv (.k (.sc (.bool false))), none⟩] [6])
       (.ret))
      (.skip)))
   (.seq (.seq (.reg [⟨some 18, .mv (.t 0), none⟩,
        ⟨some 19, .call 13 [(.t 18)], none⟩,
        ⟨some 20, .un .not (.t 19), none⟩,
        ⟨some 21, .mv (.t 20), none⟩,
        ⟨some 22, .mv (.t 1), (some (21, false))⟩,
        ⟨some 23, .call 13 [(.t 22)], (some (21, false))⟩,
        ⟨some 24, .un .not (.t 23), (some (21, false))⟩,
        ⟨some 25, .pick (.t 21) (.k (.sc (.bool true))) (.t 24), none⟩,
        ⟨some 26, .mv (.t 25), none⟩,
        ⟨some 27, .mv (.t 2), (some (26, false))⟩,
        ⟨some 28, .len false (.t 27), (some (26, false))⟩,
        ⟨some 29, .bin .gtr (.t 28) (.k (.sc (.int .i64 8))), (some (26, false))⟩,
        ⟨some 30, .pick (.t 26) (.k (.sc (.bool true))) (.t 29), none⟩] [0, 1, 2, 30])
     (.cond (.t 30)
       (.seq (.reg [⟨some 6, .mv (.k (.sc (.bool true))), none⟩] [6])
        (.ret))
       (.skip)))
    (.seq (.seq (.reg [⟨some 31, .mv (.t 2), none⟩,
         ⟨some 32, .len false (.t 31), none⟩,
         ⟨some 33, .mv (.k (.sc (.int .i64 0))), none⟩] [0, 1, 2, 31, 32, 33])
      (.block 0 (.loop [0, 1, 2, 31, 32, 33] b8L0)))
     (.seq (.reg [⟨some 47, .mv (.t 0), none⟩,
         ⟨some 48, .mv (.t 2), none⟩,
         ⟨some 49, .call 26 [(.t 48)], none⟩,
         ⟨some 50, .call 25 [(.t 47), (.t 49)], none⟩,
         ⟨some 46, .mv (.t 50), none⟩,
         ⟨some 51, .ext (.t 46) 0, none⟩,
         ⟨some 52, .ext (.t 46) 1, none⟩,
         ⟨some 9, .mv (.t 51), none⟩,
         ⟨some 10, .mv (.t 52), none⟩] [0, 1, 2, 9, 10])
      (.seq (.reg [⟨some 54, .mv (.t 1), none⟩,
          ⟨some 55, .mv (.t 2), none⟩,
          ⟨some 56, .call 26 [(.t 55)], none⟩,
          ⟨some 57, .call 25 [(.t 54), (.t 56)], none⟩,
          ⟨some 53, .mv (.t 57), none⟩,
          ⟨some 58, .ext (.t 53) 0, none⟩,
          ⟨some 59, .ext (.t 53) 1, none⟩,
          ⟨some 11, .mv (.t 58), none⟩,
          ⟨some 12, .mv (.t 59), none⟩] [0, 1, 2, 9, 10, 11, 12])
       (.seq (.reg [⟨some 61, .mv (.t 0), none⟩,
           ⟨some 62, .mv (.t 1), none⟩,
           ⟨some 63, .bsl 1 [.nilS] 2 [(0, .t 61), (1, .t 62)], none⟩,
           ⟨some 64, .call 23 [(.t 63)], none⟩,
           ⟨some 65, .mv (.t 2), none⟩,
           ⟨some 66, .call 26 [(.t 65)], none⟩,
           ⟨some 67, .call 25 [(.t 64), (.t 66)], none⟩,
           ⟨some 60, .mv (.t 67), none⟩,
           ⟨some 68, .ext (.t 60) 0, none⟩,
           ⟨some 69, .ext (.t 60) 1, none⟩,
           ⟨some 13, .mv (.t 68), none⟩,
           ⟨some 14, .mv (.t 69), none⟩] [0, 1, 2, 9, 10, 11, 12, 13, 14])
        (.seq (.reg [⟨some 70, .mv (.t 2), none⟩,
            ⟨some 71, .len false (.t 70), none⟩,
            ⟨some 15, .mv (.t 71), none⟩] [0, 1, 2, 9, 10, 11, 12, 13, 14, 15])
         (.seq (.seq (.reg [⟨some 72, .mv (.t 0), none⟩,
              ⟨some 73, .mv (.t 15), none⟩,
              ⟨some 74, .call 17 [(.t 72), (.t 73)], none⟩,
              ⟨some 75, .un .not (.t 74), none⟩] [0, 1, 2, 9, 10, 11, 12, 13, 14, 15, 75])
           (.cond (.t 75)
             (.seq (.reg [⟨some 76, .mv (.t 10), none⟩,
                 ⟨some 77, .bin .eql (.t 76) (.k (.sc (.int .i64 2))), none⟩,
                 ⟨some 78, .mv (.t 77), none⟩,
                 ⟨some 79, .mv (.t 9), (some (78, true))⟩,
                 ⟨some 80, .len false (.t 79), (some (78, true))⟩,
                 ⟨some 81, .bin .eql (.t 80) (.k (.sc (.int .i64 0))), (some (78, true))⟩,
                 ⟨some 82, .pick (.t 78) (.t 81) (.k (.sc (.bool false))), none⟩,
                 ⟨some 6, .mv (.t 82), none⟩] [6])
              (.ret))
             (.skip)))
          (.seq (.seq (.reg [⟨some 83, .mv (.t 10), none⟩,
               ⟨some 84, .bin .neq (.t 83) (.k (.sc (.int .i64 0))), none⟩,
               ⟨some 85, .mv (.t 84), none⟩,
               ⟨some 86, .mv (.t 9), (some (85, false))⟩,
               ⟨some 87, .mv (.t 0), (some (85, false))⟩,
               ⟨some 88, .mv (.t 2), (some (85, false))⟩,
               ⟨some 89, .call 27 [(.t 87), (.t 88)], (some (85, false))⟩,
               ⟨some 90, .call 15 [(.t 86), (.t 89)], (some (85, false))⟩,
               ⟨some 91, .un .not (.t 90), (some (85, false))⟩,
               ⟨some 92, .pick (.t 85) (.k (.sc (.bool true))) (.t 91), none⟩] [1, 9, 11, 12, 13, 14, 15, 92])
            (.cond (.t 92)
              (.seq (.reg [⟨some 6, .mv (.k (.sc (.bool false))), none⟩] [6])
               (.ret))
              (.skip)))
           (.seq (.seq (.reg [⟨some 93, .mv (.t 12), none⟩,
                ⟨some 94, .bin .neq (.t 93) (.k (.sc (.int .i64 0))), none⟩] [1, 9, 11, 13, 14, 15, 94])
             (.cond (.t 94)
               (.seq (.reg [⟨some 95, .mv (.t 1), none⟩,
                   ⟨some 96, .mv (.t 15), none⟩,
                   ⟨some 97, .call 17 [(.t 95), (.t 96)], none⟩,
                   ⟨some 98, .un .not (.t 97), none⟩,
                   ⟨some 6, .mv (.t 98), none⟩] [6])
                (.ret))
               (.skip)))
            (.seq (.reg [⟨some 99, .mv (.t 14), none⟩,
                ⟨some 100, .bin .eql (.t 99) (.k (.sc (.int .i64 0))), none⟩,
                ⟨some 101, .mv (.t 100), none⟩,
                ⟨some 102, .mv (.t 13), (some (101, true))⟩,
                ⟨some 103, .mv (.t 9), (some (101, true))⟩,
                ⟨some 104, .mv (.t 11), (some (101, true))⟩,
                ⟨some 105, .bsl 1 [.nilS] 2 [(0, .t 103), (1, .t 104)], (some (101, true))⟩,
                ⟨some 106, .call 23 [(.t 105)], (some (101, true))⟩,
                ⟨some 107, .call 15 [(.t 102), (.t 106)], (some (101, true))⟩,
                ⟨some 108, .pick (.t 101) (.t 107) (.k (.sc (.bool false))), none⟩,
                ⟨some 6, .mv (.t 108), none⟩] [6])
             (.ret))))))))))))
def a8 : AFun := ⟨3, b8, [.t 6]⟩

/-- unravel/unravellaw21.awake -/
def b12 : AC :=
  .seq (.reg [⟨some 0, .mv (.k (.sc (.bool false))), none⟩] [])
  (.seq (.reg [⟨some 1, .bsl 1 [.int .i64 0] 5 [(0, .k (.sc (.int .i64 1))), (1, .k (.sc (.int .i64 2))), (2, .k (.sc (.int .i64 (-2)))), (3, .k (.sc (.int .i64 (-1)))), (4, .k (.sc (.int .i64 3)))], none⟩,
      ⟨some 2, .call 14 [(.t 1)], none⟩,
      ⟨some 3, .bsl 1 [.int .i64 0] 1 [(0, .k (.sc (.int .i64 3)))], none⟩,
      ⟨some 4, .call 15 [(.t 2), (.t 3)], none⟩,
      ⟨some 5, .mv (.t 4), none⟩,
      ⟨some 6, .bsl 1 [.int .i64 0] 4 [(0, .k (.sc (.int .i64 2))), (1, .k (.sc (.int .i64 1))), (2, .k (.sc (.int .i64 3))), (3, .k (.sc (.int .i64 (-2))))], (some (5, true))⟩,
      ⟨some 7, .call 21 [(.t 6)], (some (5, true))⟩,
      ⟨some 8, .bsl 1 [.int .i64 0] 2 [(0, .k (.sc (.int .i64 1))), (1, .k (.sc (.int .i64 3)))], (some (5, true))⟩,
      ⟨some 9, .call 15 [(.t 7), (.t 8)], (some (5, true))⟩,
      ⟨some 10, .pick (.t 5) (.t 9) (.k (.sc (.bool false))), none⟩,
      ⟨some 11, .mv (.t 10), none⟩,
      ⟨some 12, .bsl 1 [.int .i64 0] 2 [(0, .k (.sc (.int .i64 1))), (1, .k (.sc (.int .i64 (-12))))], (some (11, true))⟩,
      ⟨some 13, .call 29 [(.t 12)], (some (11, true))⟩,
      ⟨some 14, .bin .eql (.t 13) (.k (.sc (.str ⟨#[120, 49, 32, 88, 49, 50]⟩))), (some (11, true))⟩,
      ⟨some 15, .pick (.t 11) (.t 14) (.k (.sc (.bool false))), none⟩,
      ⟨some 0, .mv (.t 15), none⟩] [0])
   (.ret))
def a12 : AFun := ⟨0, b12, [.t 0]⟩

/-- unravel/unravellaw21.letters -/
def b13 : AC :=
  .seq (.reg [⟨some 2, .mv (.k (.sc (.bool false))), none⟩] [0])
  (.seq (.reg [⟨some 3, .mv (.t 0), none⟩,
      ⟨some 4, .len false (.t 3), none⟩,
      ⟨some 5, .bin .leq (.t 4) (.k (.sc (.int .i64 60))), none⟩,
      ⟨some 6, .mv (.t 5), none⟩,
      ⟨some 7, .mv (.t 0), (some (6, true))⟩,
      ⟨some 8, .call 17 [(.t 7), (.k (.sc (.int .i64 1000000)))], (some (6, true))⟩,
      ⟨some 9, .pick (.t 6) (.t 8) (.k (.sc (.bool false))), none⟩,
      ⟨some 2, .mv (.t 9), none⟩] [2])
   (.ret))
def a13 : AFun := ⟨1, b13, [.t 2]⟩

/-- unravel/word.Reduce -/
def b14 : AC :=
  .seq (.reg [⟨some 2, .mv (.k (.sc .nilS)), none⟩] [0])
  (.seq (.reg [⟨some 3, .mv (.t 0), none⟩,
      ⟨some 4, .len false (.t 3), none⟩,
      ⟨some 5, .mk 1 8 [.int .i64 0] (.k (.sc (.int .i64 0))) (.t 4), none⟩,
      ⟨some 6, .mv (.t 0), none⟩,
      ⟨some 7, .call 32 [(.t 5), (.t 6)], none⟩,
      ⟨some 2, .mv (.t 7), none⟩] [2])
   (.ret))
def a14 : AFun := ⟨1, b14, [.t 2]⟩

/-- unravel/unravelref21.Same -/
def b15 : AC :=
  .seq (.reg [⟨some 4, .mv (.k (.sc (.bool false))), none⟩] [0, 1])
  (.seq (.reg [⟨some 5, .mv (.t 0), none⟩,
      ⟨some 6, .len false (.t 5), none⟩,
      ⟨some 7, .mv (.t 1), none⟩,
      ⟨some 8, .len false (.t 7), none⟩,
      ⟨some 9, .bin .eql (.t 6) (.t 8), none⟩,
      ⟨some 10, .mv (.t 9), none⟩,
      ⟨some 11, .mv (.t 0), (some (10, true))⟩,
      ⟨some 12, .mv (.t 1), (some (10, true))⟩,
      ⟨some 13, .call 33 [(.t 11), (.t 12)], (some (10, true))⟩,
      ⟨some 14, .un .not (.t 13), (some (10, true))⟩,
      ⟨some 15, .pick (.t 10) (.t 14) (.k (.sc (.bool false))), none⟩,
      ⟨some 16, .mv (.t 15), none⟩,
      ⟨some 17, .mv (.t 1), (some (16, true))⟩,
      ⟨some 18, .mv (.t 0), (some (16, true))⟩,
      ⟨some 19, .call 33 [(.t 17), (.t 18)], (some (16, true))⟩,
      ⟨some 20, .un .not (.t 19), (some (16, true))⟩,
      ⟨some 21, .pick (.t 16) (.t 20) (.k (.sc (.bool false))), none⟩,
      ⟨some 4, .mv (.t 21), none⟩] [4])
   (.ret))
def a15 : AFun := ⟨2, b15, [.t 4]⟩

def b16L0 : AC :=
  .seq (.reg [⟨some 10, .bin .lss (.t 9) (.t 8), none⟩] [1, 7, 8, 9, 10])
  (.seq (.cond (.t 10)
     (.skip)
     (.exit 0))
   (.seq (.block 1 (.seq (.reg [⟨some 11, .idxA 1 (.t 7) (.t 9), none⟩,
         ⟨some 12, .ld 1 false (.t 11), none⟩,
         ⟨some 6, .mv (.t 12), none⟩] [1, 6, 7, 8, 9])
      (.seq (.reg [⟨some 13, .mv (.t 1), none⟩,
          ⟨some 14, .bin .lss (.t 13) (.k (.sc (.int .i64 1))), none⟩,
          ⟨some 15, .mv (.t 14), none⟩,
          ⟨some 16, .mv (.t 6), (some (15, false))⟩,
          ⟨some 17, .bin .eql (.t 16) (.k (.sc (.int .i64 0))), (some (15, false))⟩,
          ⟨some 18, .pick (.t 15) (.k (.sc (.bool true))) (.t 17), none⟩,
          ⟨some 19, .mv (.t 18), none⟩,
          ⟨some 20, .mv (.t 6), (some (19, false))⟩,
          ⟨some 21, .mv (.t 1), (some (19, false))⟩,
          ⟨some 22, .bin .gtr (.t 20) (.t 21), (some (19, false))⟩,
          ⟨some 23, .pick (.t 19) (.k (.sc (.bool true))) (.t 22), none⟩,
          ⟨some 24, .mv (.t 23), none⟩,
          ⟨some 25, .mv (.t 6), (some (24, false))⟩,
          ⟨some 26, .mv (.t 1), (some (24, false))⟩,
          ⟨some 27, .un .neg (.t 26), (some (24, false))⟩,
          ⟨some 28, .bin .lss (.t 25) (.t 27), (some (24, false))⟩,
          ⟨some 29, .pick (.t 24) (.k (.sc (.bool true))) (.t 28), none⟩] [1, 7, 8, 9, 29])
       (.cond (.t 29)
         (.seq (.reg [⟨some 4, .mv (.k (.sc (.bool false))), none⟩] [4])
          (.ret))
         (.skip)))))
    (.reg [⟨some 30, .bin .add (.t 9) (.k (.sc (.int .i64 1))), none⟩,
       ⟨some 9, .mv (.t 30), none⟩] [1, 7, 8, 9])))
/-- unravel/word.Valid -/
def b16 : AC :=
  .seq (.reg [⟨some 4, .mv (.k (.sc (.bool false))), none⟩] [0, 1])
  (.seq (.seq (.reg [⟨some 7, .mv (.t 0), none⟩,
       ⟨some 8, .len false (.t 7), none⟩,
       ⟨some 9, .mv (.k (.sc (.int .i64 0))), none⟩] [1, 7, 8, 9])
    (.block 0 (.loop [1, 7, 8, 9] b16L0)))
   (.seq (.reg [⟨some 4, .mv (.k (.sc (.bool true))), none⟩] [4])
    (.ret)))
def a16 : AFun := ⟨2, b16, [.t 4]⟩

def b17L0 : AC :=
  .seq (.seq (.reg [⟨some 6, .mv (.t 5), none⟩,
      ⟨some 7, .mv (.t 0), none⟩,
      ⟨some 8, .len false (.t 7), none⟩,
      ⟨some 9, .bin .lss (.t 6) (.t 8), none⟩] [0, 1, 5, 9])
   (.cond (.t 9)
     (.skip)
     (.exit 0)))
  (.seq (.block 1 (.seq (.reg [⟨some 12, .mv (.t 0), none⟩,
        ⟨some 13, .mv (.t 5), none⟩,
        ⟨some 14, .idxA 1 (.t 12) (.t 13), none⟩,
        ⟨some 15, .ld 1 false (.t 14), none⟩,
        ⟨some 16, .bin .eql (.t 15) (.k (.sc (.int .i64 0))), none⟩,
        ⟨some 17, .mv (.t 16), none⟩,
        ⟨some 18, .mv (.t 0), (some (17, false))⟩,
        ⟨some 19, .mv (.t 5), (some (17, false))⟩,
        ⟨some 20, .idxA 1 (.t 18) (.t 19), (some (17, false))⟩,
        ⟨some 21, .ld 1 false (.t 20), (some (17, false))⟩,
        ⟨some 22, .mv (.t 1), (some (17, false))⟩,
        ⟨some 23, .bin .gtr (.t 21) (.t 22), (some (17, false))⟩,
        ⟨some 24, .pick (.t 17) (.k (.sc (.bool true))) (.t 23), none⟩,
        ⟨some 25, .mv (.t 24), none⟩,
        ⟨some 26, .mv (.t 0), (some (25, false))⟩,
        ⟨some 27, .mv (.t 5), (some (25, false))⟩,
        ⟨some 28, .idxA 1 (.t 26) (.t 27), (some (25, false))⟩,
        ⟨some 29, .ld 1 false (.t 28), (some (25, false))⟩,
        ⟨some 30, .mv (.t 1), (some (25, false))⟩,
        ⟨some 31, .un .neg (.t 30), (some (25, false))⟩,
        ⟨some 32, .bin .lss (.t 29) (.t 31), (some (25, false))⟩,
        ⟨some 33, .pick (.t 25) (.k (.sc (.bool true))) (.t 32), none⟩] [0, 1, 5, 33])
     (.cond (.t 33)
       (.seq (.reg [⟨some 4, .mv (.k (.sc (.bool false))), none⟩] [4])
        (.ret))
       (.skip))))
   (.reg [⟨some 10, .mv (.t 5), none⟩,
      ⟨some 11, .bin .add (.t 10) (.k (.sc (.int .i64 1))), none⟩,
      ⟨some 5, .mv (.t 11), none⟩] [0, 1, 5]))
/-- unravel/unravelref21.Valid -/
def b17 : AC :=
  .seq (.reg [⟨some 4, .mv (.k (.sc (.bool false))), none⟩] [0, 1])
  (.seq (.seq (.reg [⟨some 5, .mv (.k (.sc (.int .i64 0))), none⟩] [0, 1, 5])
    (.block 0 (.loop [0, 1, 5] b17L0)))
   (.seq (.reg [⟨some 4, .mv (.k (.sc (.bool true))), none⟩] [4])
    (.ret)))
def a17 : AFun := ⟨2, b17, [.t 4]⟩

def b18L0 : AC :=
  .seq (.seq (.reg [⟨some 8, .mv (.t 4), none⟩,
      ⟨some 9, .bin .add (.t 8) (.k (.sc (.int .i64 1))), none⟩,
      ⟨some 10, .mv (.t 3), none⟩,
      ⟨some 11, .len false (.t 10), none⟩,
      ⟨some 12, .bin .lss (.t 9) (.t 11), none⟩] [3, 4, 12])
   (.cond (.t 12)
     (.skip)
     (.exit 0)))
  (.block 1 (.seq (.regd [(⟨some 13, .mv (.t 3), none⟩, 0, false),
       (⟨some 14, .mv (.t 4), none⟩, 1, false),
       (⟨some 15, .idxA 1 (.t 13) (.t 14), none⟩, 2, false),
       (⟨some 16, .ld 1 false (.t 15), none⟩, 3, false),
       (⟨some 17, .mv (.t 3), none⟩, 4, false),
       (⟨some 18, .mv (.t 4), none⟩, 5, false),
       (⟨some 19, .bin .add (.t 18) (.k (.sc (.int .i64 1))), none⟩, 6, false),
       (⟨some 20, .idxA 1 (.t 17) (.t 19), none⟩, 7, false),
       (⟨some 21, .ld 1 false (.t 20), none⟩, 8, false),
       (⟨some 22, .un .neg (.t 21), none⟩, 9, false),
       (⟨some 23, .bin .eql (.t 16) (.t 22), none⟩, 10, false)] [3, 4, 23])
    (.cond (.t 23)
      (.seq (.regd [(⟨some 24, .bsl 1 [.int .i64 0] 0 [], none⟩, 0, true),
          (⟨some 25, .mv (.t 3), none⟩, 1, false),
          (⟨some 26, .mv (.t 4), none⟩, 2, false),
          (⟨some 27, .sl1 (.t 25) none (some (.t 26)), none⟩, 3, false),
          (⟨some 28, .app 1 8 [.int .i64 0] (.t 24) (.t 27), none⟩, 4, true),
          (⟨some 29, .mv (.t 3), none⟩, 5, false),
          (⟨some 30, .mv (.t 4), none⟩, 6, false),
          (⟨some 31, .bin .add (.t 30) (.k (.sc (.int .i64 2))), none⟩, 7, false),
          (⟨some 32, .sl1 (.t 29) (some (.t 31)) none, none⟩, 8, false),
          (⟨some 33, .app 1 8 [.int .i64 0] (.t 28) (.t 32), none⟩, 9, true),
          (⟨some 3, .mv (.t 33), none⟩, 10, false)] [3])
       (.reg [⟨some 4, .mv (.k (.sc (.int .i64 0))), none⟩] [3, 4]))
      (.reg [⟨some 34, .mv (.t 4), none⟩,
         ⟨some 35, .bin .add (.t 34) (.k (.sc (.int .i64 1))), none⟩,
         ⟨some 4, .mv (.t 35), none⟩] [3, 4]))))
/-- unravel/unravelref21.Reduce -/
def b18 : AC :=
  .seq (.reg [⟨some 2, .mv (.k (.sc .nilS)), none⟩] [0])
  (.seq (.reg [⟨some 5, .bsl 1 [.int .i64 0] 0 [], none⟩,
      ⟨some 6, .mv (.t 0), none⟩,
      ⟨some 7, .app 1 8 [.int .i64 0] (.t 5) (.t 6), none⟩,
      ⟨some 3, .mv (.t 7), none⟩] [3])
   (.seq (.reg [⟨some 4, .mv (.k (.sc (.int .i64 0))), none⟩] [3, 4])
    (.seq (.block 0 (.loop [3, 4] b18L0))
     (.seq (.reg [⟨some 36, .mv (.t 3), none⟩,
         ⟨some 2, .mv (.t 36), none⟩] [2])
      (.ret)))))
def a18 : AFun := ⟨1, b18, [.t 2]⟩

def b20L0 : AC :=
  .seq (.seq (.reg [⟨some 8, .mv (.t 4), none⟩,
      ⟨some 9, .bin .geq (.t 8) (.k (.sc (.int .i64 0))), none⟩] [0, 3, 4, 9])
   (.cond (.t 9)
     (.skip)
     (.exit 0)))
  (.seq (.block 1 (.reg [⟨some 12, .mv (.t 3), none⟩,
       ⟨some 13, .mv (.t 0), none⟩,
       ⟨some 14, .mv (.t 4), none⟩,
       ⟨some 15, .idxA 1 (.t 13) (.t 14), none⟩,
       ⟨some 16, .ld 1 false (.t 15), none⟩,
       ⟨some 17, .un .neg (.t 16), none⟩,
       ⟨some 18, .bsl 1 [.int .i64 0] 1 [(0, .t 17)], none⟩,
       ⟨some 19, .app 1 8 [.int .i64 0] (.t 12) (.t 18), none⟩,
       ⟨some 3, .mv (.t 19), none⟩] [0, 3, 4]))
   (.reg [⟨some 10, .mv (.t 4), none⟩,
      ⟨some 11, .bin .sub (.t 10) (.k (.sc (.int .i64 1))), none⟩,
      ⟨some 4, .mv (.t 11), none⟩] [0, 3, 4]))
/-- unravel/unravelref21.Inverse -/
def b20 : AC :=
  .seq (.reg [⟨some 2, .mv (.k (.sc .nilS)), none⟩] [0])
  (.seq (.reg [⟨some 3, .mv (.k (.sc .nilS)), none⟩] [0, 3])
   (.seq (.seq (.reg [⟨some 5, .mv (.t 0), none⟩,
        ⟨some 6, .len false (.t 5), none⟩,
        ⟨some 7, .bin .sub (.t 6) (.k (.sc (.int .i64 1))), none⟩,
        ⟨some 4, .mv (.t 7), none⟩] [0, 3, 4])
     (.block 0 (.loop [0, 3, 4] b20L0)))
    (.seq (.reg [⟨some 20, .mv (.t 3), none⟩,
        ⟨some 21, .call 18 [(.t 20)], none⟩,
        ⟨some 2, .mv (.t 21), none⟩] [2])
     (.ret))))
def a20 : AFun := ⟨1, b20, [.t 2]⟩

def b21L0 : AC :=
  .seq (.seq (.regd [(⟨some 8, .mv (.t 3), none⟩, 0, false),
      (⟨some 9, .len false (.t 8), none⟩, 1, false),
      (⟨some 10, .bin .geq (.t 9) (.k (.sc (.int .i64 2))), none⟩, 2, false),
      (⟨some 11, .mv (.t 10), none⟩, 3, false),
      (⟨some 12, .mv (.t 3), (some (11, true))⟩, 4, false),
      (⟨some 13, .idxA 1 (.t 12) (.k (.sc (.int .i64 0))), (some (11, true))⟩, 5, false),
      (⟨some 14, .ld 1 false (.t 13), (some (11, true))⟩, 6, false),
      (⟨some 15, .mv (.t 3), (some (11, true))⟩, 7, false),
      (⟨some 16, .mv (.t 3), (some (11, true))⟩, 8, false),
      (⟨some 17, .len false (.t 16), (some (11, true))⟩, 9, false),
      (⟨some 18, .bin .sub (.t 17) (.k (.sc (.int .i64 1))), (some (11, true))⟩, 10, false),
      (⟨some 19, .idxA 1 (.t 15) (.t 18), (some (11, true))⟩, 11, false),
      (⟨some 20, .ld 1 false (.t 19), (some (11, true))⟩, 12, false),
      (⟨some 21, .un .neg (.t 20), (some (11, true))⟩, 13, false),
      (⟨some 22, .bin .eql (.t 14) (.t 21), (some (11, true))⟩, 14, false),
      (⟨some 23, .pick (.t 11) (.t 22) (.k (.sc (.bool false))), none⟩, 15, false)] [3, 23])
   (.cond (.t 23)
     (.skip)
     (.exit 0)))
  (.block 1 (.reg [⟨some 24, .mv (.t 3), none⟩,
      ⟨some 25, .mv (.t 3), none⟩,
      ⟨some 26, .len false (.t 25), none⟩,
      ⟨some 27, .bin .sub (.t 26) (.k (.sc (.int .i64 1))), none⟩,
      ⟨some 28, .sl1 (.t 24) (some (.k (.sc (.int .i64 1)))) (some (.t 27)), none⟩,
      ⟨some 3, .mv (.t 28), none⟩] [3]))
/-- unravel/word.Cyclic -/
def b21 : AC :=
  .seq (.reg [⟨some 2, .mv (.k (.sc .nilS)), none⟩] [0])
  (.seq (.reg [⟨some 6, .mv (.t 0), none⟩,
      ⟨some 7, .call 14 [(.t 6)], none⟩,
      ⟨some 3, .mv (.t 7), none⟩] [3])
   (.seq (.block 0 (.loop [3] b21L0))
    (.seq (.reg [⟨some 29, .mv (.t 3), none⟩,
        ⟨some 30, .call 35 [(.t 29)], none⟩,
        ⟨some 4, .mv (.t 30), none⟩] [3, 4])
     (.seq (.reg [⟨some 31, .mv (.t 3), none⟩,
         ⟨some 32, .len false (.t 31), none⟩,
         ⟨some 33, .mk 1 8 [.int .i64 0] (.k (.sc (.int .i64 0))) (.t 32), none⟩,
         ⟨some 5, .mv (.t 33), none⟩] [3, 4, 5])
      (.seq (.seq (.reg [⟨some 34, .mv (.t 3), none⟩,
           ⟨some 35, .len false (.t 34), none⟩,
           ⟨some 36, .bin .gtr (.t 35) (.k (.sc (.int .i64 0))), none⟩] [3, 4, 5, 36])
        (.cond (.t 36)
          (.regd [(⟨some 37, .mv (.t 5), none⟩, 0, false),
             (⟨some 38, .mv (.t 3), none⟩, 1, false),
             (⟨some 39, .mv (.t 4), none⟩, 2, false),
             (⟨some 40, .sl1 (.t 38) (some (.t 39)) none, none⟩, 3, false),
             (⟨some 41, .app 1 8 [.int .i64 0] (.t 37) (.t 40), none⟩, 4, true),
             (⟨some 42, .mv (.t 3), none⟩, 5, false),
             (⟨some 43, .mv (.t 4), none⟩, 6, false),
             (⟨some 44, .sl1 (.t 42) none (some (.t 43)), none⟩, 7, false),
             (⟨some 45, .app 1 8 [.int .i64 0] (.t 41) (.t 44), none⟩, 8, true),
             (⟨some 5, .mv (.t 45), none⟩, 9, false)] [5])
          (.skip)))
       (.seq (.reg [⟨some 46, .mv (.t 5), none⟩,
           ⟨some 2, .mv (.t 46), none⟩] [2])
        (.ret)))))))
def a21 : AFun := ⟨1, b21, [.t 2]⟩

def b23L0 : AC :=
  .seq (.reg [⟨some 9, .bin .lss (.t 8) (.t 7), none⟩] [3, 6, 7, 8, 9])
  (.seq (.cond (.t 9)
     (.skip)
     (.exit 0))
   (.seq (.block 1 (.seq (.reg [⟨some 10, .idxA 1 (.t 6) (.t 8), none⟩,
         ⟨some 11, .ld 1 false (.t 10), none⟩,
         ⟨some 5, .mv (.t 11), none⟩] [3, 5, 6, 7, 8])
      (.reg [⟨some 12, .mv (.t 3), none⟩,
         ⟨some 13, .mv (.t 5), none⟩,
         ⟨some 14, .call 32 [(.t 12), (.t 13)], none⟩,
         ⟨some 3, .mv (.t 14), none⟩] [3, 6, 7, 8])))
    (.reg [⟨some 15, .bin .add (.t 8) (.k (.sc (.int .i64 1))), none⟩,
       ⟨some 8, .mv (.t 15), none⟩] [3, 6, 7, 8])))
/-- unravel/word.Mul -/
def b23 : AC :=
  .seq (.reg [⟨some 2, .mv (.k (.sc .nilS)), none⟩] [0])
  (.seq (.reg [⟨some 3, .mv (.k (.sc .nilS)), none⟩] [0, 3])
   (.seq (.seq (.reg [⟨some 6, .mv (.t 0), none⟩,
        ⟨some 7, .len false (.t 6), none⟩,
        ⟨some 8, .mv (.k (.sc (.int .i64 0))), none⟩] [3, 6, 7, 8])
     (.block 0 (.loop [3, 6, 7, 8] b23L0)))
    (.seq (.reg [⟨some 16, .mv (.t 3), none⟩,
        ⟨some 2, .mv (.t 16), none⟩] [2])
     (.ret))))
def a23 : AFun := ⟨1, b23, [.t 2]⟩

def b26L0 : AC :=
  .seq (.reg [⟨some 9, .bin .lss (.t 8) (.t 7), none⟩] [3, 6, 7, 8, 9])
  (.seq (.cond (.t 9)
     (.skip)
     (.exit 0))
   (.seq (.block 1 (.seq (.reg [⟨some 10, .idxA 1 (.t 6) (.t 8), none⟩,
         ⟨some 11, .ld 1 false (.t 10), none⟩,
         ⟨some 5, .mv (.t 11), none⟩] [3, 5, 6, 7, 8])
      (.reg [⟨some 12, .mv (.t 3), none⟩,
         ⟨some 13, .mv (.t 5), none⟩,
         ⟨some 14, .bsl 1 [.nilS] 1 [(0, .t 13)], none⟩,
         ⟨some 15, .app 1 24 [.nilS] (.t 12) (.t 14), none⟩,
         ⟨some 3, .mv (.t 15), none⟩] [3, 6, 7, 8])))
    (.reg [⟨some 16, .bin .add (.t 8) (.k (.sc (.int .i64 1))), none⟩,
       ⟨some 8, .mv (.t 16), none⟩] [3, 6, 7, 8])))
/-- unravel/unravellaw21.lists -/
def b26 : AC :=
  .seq (.reg [⟨some 2, .mv (.k (.sc .nilS)), none⟩] [0])
  (.seq (.reg [⟨some 3, .mv (.k (.sc .nilS)), none⟩] [0, 3])
   (.seq (.seq (.reg [⟨some 6, .mv (.t 0), none⟩,
        ⟨some 7, .len false (.t 6), none⟩,
        ⟨some 8, .mv (.k (.sc (.int .i64 0))), none⟩] [3, 6, 7, 8])
     (.block 0 (.loop [3, 6, 7, 8] b26L0)))
    (.seq (.reg [⟨some 17, .mv (.t 3), none⟩,
        ⟨some 2, .mv (.t 17), none⟩] [2])
     (.ret))))
def a26 : AFun := ⟨1, b26, [.t 2]⟩

def b27L0 : AC :=
  .seq (.seq (.reg [⟨some 7, .mv (.t 6), none⟩,
      ⟨some 8, .mv (.t 0), none⟩,
      ⟨some 9, .len false (.t 8), none⟩,
      ⟨some 10, .bin .lss (.t 7) (.t 9), none⟩] [0, 1, 5, 6, 10])
   (.cond (.t 10)
     (.skip)
     (.exit 0)))
  (.seq (.block 1 (.seq (.reg [⟨some 13, .mv (.t 0), none⟩,
        ⟨some 14, .mv (.t 6), none⟩,
        ⟨some 15, .idxA 1 (.t 13) (.t 14), none⟩,
        ⟨some 16, .ld 1 false (.t 15), none⟩,
        ⟨some 17, .bin .gtr (.t 16) (.k (.sc (.int .i64 0))), none⟩] [0, 1, 5, 6, 17])
     (.cond (.t 17)
       (.reg [⟨some 18, .mv (.t 5), none⟩,
          ⟨some 19, .mv (.t 1), none⟩,
          ⟨some 20, .mv (.t 0), none⟩,
          ⟨some 21, .mv (.t 6), none⟩,
          ⟨some 22, .idxA 1 (.t 20) (.t 21), none⟩,
          ⟨some 23, .ld 1 false (.t 22), none⟩,
          ⟨some 24, .bin .sub (.t 23) (.k (.sc (.int .i64 1))), none⟩,
          ⟨some 25, .idxA 1 (.t 19) (.t 24), none⟩,
          ⟨some 26, .ld 1 false (.t 25), none⟩,
          ⟨some 27, .app 1 8 [.int .i64 0] (.t 18) (.t 26), none⟩,
          ⟨some 5, .mv (.t 27), none⟩] [0, 1, 5, 6])
       (.reg [⟨some 28, .mv (.t 5), none⟩,
          ⟨some 29, .mv (.t 1), none⟩,
          ⟨some 30, .mv (.t 0), none⟩,
          ⟨some 31, .mv (.t 6), none⟩,
          ⟨some 32, .idxA 1 (.t 30) (.t 31), none⟩,
          ⟨some 33, .ld 1 false (.t 32), none⟩,
          ⟨some 34, .un .neg (.t 33), none⟩,
          ⟨some 35, .bin .sub (.t 34) (.k (.sc (.int .i64 1))), none⟩,
          ⟨some 36, .idxA 1 (.t 29) (.t 35), none⟩,
          ⟨some 37, .ld 1 false (.t 36), none⟩,
          ⟨some 38, .call 20 [(.t 37)], none⟩,
          ⟨some 39, .app 1 8 [.int .i64 0] (.t 28) (.t 38), none⟩,
          ⟨some 5, .mv (.t 39), none⟩] [0, 1, 5, 6]))))
   (.reg [⟨some 11, .mv (.t 6), none⟩,
      ⟨some 12, .bin .add (.t 11) (.k (.sc (.int .i64 1))), none⟩,
      ⟨some 6, .mv (.t 12), none⟩] [0, 1, 5, 6]))
/-- unravel/unravelref21.Substitute -/
def b27 : AC :=
  .seq (.reg [⟨some 4, .mv (.k (.sc .nilS)), none⟩] [0, 1])
  (.seq (.reg [⟨some 5, .mv (.k (.sc .nilS)), none⟩] [0, 1, 5])
   (.seq (.seq (.reg [⟨some 6, .mv (.k (.sc (.int .i64 0))), none⟩] [0, 1, 5, 6])
     (.block 0 (.loop [0, 1, 5, 6] b27L0)))
    (.seq (.reg [⟨some 40, .mv (.t 5), none⟩,
        ⟨some 41, .call 18 [(.t 40)], none⟩,
        ⟨some 4, .mv (.t 41), none⟩] [4])
     (.ret))))
def a27 : AFun := ⟨2, b27, [.t 4]⟩

def b29L0 : AC :=
  .seq (.reg [⟨some 12, .bin .lss (.t 11) (.t 10), none⟩] [3, 9, 10, 11, 12])
  (.seq (.cond (.t 12)
     (.skip)
     (.exit 0))
   (.seq (.block 1 (.seq (.reg [⟨some 13, .mv (.t 11), none⟩,
         ⟨some 14, .idxA 1 (.t 9) (.t 11), none⟩,
         ⟨some 15, .ld 1 false (.t 14), none⟩,
         ⟨some 4, .mv (.t 13), none⟩,
         ⟨some 5, .mv (.t 15), none⟩] [3, 4, 5, 9, 10, 11])
      (.seq (.seq (.reg [⟨some 16, .mv (.t 4), none⟩,
           ⟨some 17, .bin .gtr (.t 16) (.k (.sc (.int .i64 0))), none⟩] [3, 5, 9, 10, 11, 17])
        (.cond (.t 17)
          (.reg [⟨some 18, .call 37 [(.t 3), (.k (.sc (.int .u8 32)))], none⟩] [3, 5, 9, 10, 11])
          (.skip)))
       (.seq (.reg [⟨some 19, .mv (.t 5), none⟩,
           ⟨some 20, .bin .lss (.t 19) (.k (.sc (.int .i64 0))), none⟩] [3, 5, 9, 10, 11, 20])
        (.cond (.t 20)
          (.reg [⟨some 21, .mv (.t 5), none⟩,
             ⟨some 22, .un .neg (.t 21), none⟩,
             ⟨some 23, .call 39 [(.t 22)], none⟩,
             ⟨some 24, .bin .add (.k (.sc (.str ⟨#[88]⟩))) (.t 23), none⟩,
             ⟨some 25, .call 38 [(.t 3), (.t 24)], none⟩] [3, 9, 10, 11])
          (.reg [⟨some 26, .mv (.t 5), none⟩,
             ⟨some 27, .call 39 [(.t 26)], none⟩,
             ⟨some 28, .bin .add (.k (.sc (.str ⟨#[120]⟩))) (.t 27), none⟩,
             ⟨some 29, .call 38 [(.t 3), (.t 28)], none⟩] [3, 9, 10, 11]))))))
    (.reg [⟨some 30, .bin .add (.t 11) (.k (.sc (.int .i64 1))), none⟩,
       ⟨some 11, .mv (.t 30), none⟩] [3, 9, 10, 11])))
/-- unravel/word.Format -/
def b29 : AC :=
  .seq (.reg [⟨some 2, .mv (.k (.sc (.str ⟨#[]⟩))), none⟩] [0])
  (.seq (.seq (.reg [⟨some 6, .mv (.t 0), none⟩,
       ⟨some 7, .len false (.t 6), none⟩,
       ⟨some 8, .bin .eql (.t 7) (.k (.sc (.int .i64 0))), none⟩] [0, 8])
    (.cond (.t 8)
      (.seq (.reg [⟨some 2, .mv (.k (.sc (.str ⟨#[49]⟩))), none⟩] [2])
       (.ret))
      (.skip)))
   (.seq (.reg [⟨some 3, .newT 59 [.nilP, .nilS], none⟩] [0, 3])
    (.seq (.seq (.reg [⟨some 9, .mv (.t 0), none⟩,
         ⟨some 10, .len false (.t 9), none⟩,
         ⟨some 11, .mv (.k (.sc (.int .i64 0))), none⟩] [3, 9, 10, 11])
      (.block 0 (.loop [3, 9, 10, 11] b29L0)))
     (.seq (.reg [⟨some 31, .call 40 [(.t 3)], none⟩,
         ⟨some 2, .mv (.t 31), none⟩] [2])
      (.ret)))))
def a29 : AFun := ⟨1, b29, [.t 2]⟩

def b32L0 : AC :=
  .seq (.reg [⟨some 11, .bin .lss (.t 10) (.t 9), none⟩] [0, 8, 9, 10, 11])
  (.seq (.cond (.t 11)
     (.skip)
     (.exit 0))
   (.seq (.block 1 (.seq (.reg [⟨some 12, .idxA 1 (.t 8) (.t 10), none⟩,
         ⟨some 13, .ld 1 false (.t 12), none⟩,
         ⟨some 6, .mv (.t 13), none⟩] [0, 6, 8, 9, 10])
      (.seq (.reg [⟨some 14, .mv (.t 0), none⟩,
          ⟨some 15, .len false (.t 14), none⟩,
          ⟨some 16, .bin .sub (.t 15) (.k (.sc (.int .i64 1))), none⟩,
          ⟨some 7, .mv (.t 16), none⟩] [0, 6, 7, 8, 9, 10])
       (.seq (.reg [⟨some 17, .mv (.t 7), none⟩,
           ⟨some 18, .bin .geq (.t 17) (.k (.sc (.int .i64 0))), none⟩,
           ⟨some 19, .mv (.t 18), none⟩,
           ⟨some 20, .mv (.t 0), (some (19, true))⟩,
           ⟨some 21, .mv (.t 7), (some (19, true))⟩,
           ⟨some 22, .idxA 1 (.t 20) (.t 21), (some (19, true))⟩,
           ⟨some 23, .ld 1 false (.t 22), (some (19, true))⟩,
           ⟨some 24, .mv (.t 6), (some (19, true))⟩,
           ⟨some 25, .un .neg (.t 24), (some (19, true))⟩,
           ⟨some 26, .bin .eql (.t 23) (.t 25), (some (19, true))⟩,
           ⟨some 27, .pick (.t 19) (.t 26) (.k (.sc (.bool false))), none⟩] [0, 6, 7, 8, 9, 10, 27])
        (.cond (.t 27)
          (.reg [⟨some 28, .mv (.t 0), none⟩,
             ⟨some 29, .mv (.t 7), none⟩,
             ⟨some 30, .sl1 (.t 28) none (some (.t 29)), none⟩,
             ⟨some 0, .mv (.t 30), none⟩] [0, 8, 9, 10])
          (.reg [⟨some 31, .mv (.t 0), none⟩,
             ⟨some 32, .mv (.t 6), none⟩,
             ⟨some 33, .bsl 1 [.int .i64 0] 1 [(0, .t 32)], none⟩,
             ⟨some 34, .app 1 8 [.int .i64 0] (.t 31) (.t 33), none⟩,
             ⟨some 0, .mv (.t 34), none⟩] [0, 8, 9, 10]))))))
    (.reg [⟨some 35, .bin .add (.t 10) (.k (.sc (.int .i64 1))), none⟩,
       ⟨some 10, .mv (.t 35), none⟩] [0, 8, 9, 10])))
/-- unravel/word.push -/
def b32 : AC :=
  .seq (.reg [⟨some 4, .mv (.k (.sc .nilS)), none⟩] [0, 1])
  (.seq (.seq (.reg [⟨some 8, .mv (.t 1), none⟩,
       ⟨some 9, .len false (.t 8), none⟩,
       ⟨some 10, .mv (.k (.sc (.int .i64 0))), none⟩] [0, 8, 9, 10])
    (.block 0 (.loop [0, 8, 9, 10] b32L0)))
   (.seq (.reg [⟨some 36, .mv (.t 0), none⟩,
       ⟨some 4, .mv (.t 36), none⟩] [4])
    (.ret)))
def a32 : AFun := ⟨2, b32, [.t 4]⟩

def b33L0 : AC :=
  .seq (.seq (.reg [⟨some 6, .mv (.t 5), none⟩,
      ⟨some 7, .mv (.t 0), none⟩,
      ⟨some 8, .len false (.t 7), none⟩,
      ⟨some 9, .bin .lss (.t 6) (.t 8), none⟩] [0, 1, 5, 9])
   (.cond (.t 9)
     (.skip)
     (.exit 0)))
  (.seq (.block 1 (.seq (.regd [(⟨some 12, .mv (.t 0), none⟩, 0, false),
        (⟨some 13, .mv (.t 5), none⟩, 1, false),
        (⟨some 14, .idxA 1 (.t 12) (.t 13), none⟩, 2, false),
        (⟨some 15, .ld 1 false (.t 14), none⟩, 3, false),
        (⟨some 16, .mv (.t 1), none⟩, 4, false),
        (⟨some 17, .mv (.t 5), none⟩, 5, false),
        (⟨some 18, .idxA 1 (.t 16) (.t 17), none⟩, 6, false),
        (⟨some 19, .ld 1 false (.t 18), none⟩, 7, false),
        (⟨some 20, .bin .neq (.t 15) (.t 19), none⟩, 8, false)] [0, 1, 5, 20])
     (.cond (.t 20)
       (.seq (.regd [(⟨some 21, .mv (.t 0), none⟩, 0, false),
           (⟨some 22, .mv (.t 5), none⟩, 1, false),
           (⟨some 23, .idxA 1 (.t 21) (.t 22), none⟩, 2, false),
           (⟨some 24, .ld 1 false (.t 23), none⟩, 3, false),
           (⟨some 25, .mv (.t 1), none⟩, 4, false),
           (⟨some 26, .mv (.t 5), none⟩, 5, false),
           (⟨some 27, .idxA 1 (.t 25) (.t 26), none⟩, 6, false),
           (⟨some 28, .ld 1 false (.t 27), none⟩, 7, false),
           (⟨some 29, .bin .lss (.t 24) (.t 28), none⟩, 8, false),
           (⟨some 4, .mv (.t 29), none⟩, 9, false)] [4])
        (.ret))
       (.skip))))
   (.reg [⟨some 10, .mv (.t 5), none⟩,
      ⟨some 11, .bin .add (.t 10) (.k (.sc (.int .i64 1))), none⟩,
      ⟨some 5, .mv (.t 11), none⟩] [0, 1, 5]))
/-- unravel/unravelref21.less -/
def b33 : AC :=
  .seq (.reg [⟨some 4, .mv (.k (.sc (.bool false))), none⟩] [0, 1])
  (.seq (.seq (.reg [⟨some 5, .mv (.k (.sc (.int .i64 0))), none⟩] [0, 1, 5])
    (.block 0 (.loop [0, 1, 5] b33L0)))
   (.seq (.reg [⟨some 4, .mv (.k (.sc (.bool false))), none⟩] [4])
    (.ret)))
def a33 : AFun := ⟨2, b33, [.t 4]⟩

def b35L0 : AC :=
  .seq (.seq (.reg [⟨some 11, .mv (.t 4), none⟩,
      ⟨some 12, .mv (.t 3), none⟩,
      ⟨some 13, .bin .lss (.t 11) (.t 12), none⟩,
      ⟨some 14, .mv (.t 13), none⟩,
      ⟨some 15, .mv (.t 5), (some (14, true))⟩,
      ⟨some 16, .mv (.t 3), (some (14, true))⟩,
      ⟨some 17, .bin .lss (.t 15) (.t 16), (some (14, true))⟩,
      ⟨some 18, .pick (.t 14) (.t 17) (.k (.sc (.bool false))), none⟩,
      ⟨some 19, .mv (.t 18), none⟩,
      ⟨some 20, .mv (.t 6), (some (19, true))⟩,
      ⟨some 21, .mv (.t 3), (some (19, true))⟩,
      ⟨some 22, .bin .lss (.t 20) (.t 21), (some (19, true))⟩,
      ⟨some 23, .pick (.t 19) (.t 22) (.k (.sc (.bool false))), none⟩] [0, 3, 4, 5, 6, 23])
   (.cond (.t 23)
     (.skip)
     (.exit 0)))
  (.block 1 (.seq (.regd [(⟨some 24, .mv (.t 0), none⟩, 0, false),
       (⟨some 25, .mv (.t 4), none⟩, 1, false),
       (⟨some 26, .mv (.t 6), none⟩, 2, false),
       (⟨some 27, .bin .add (.t 25) (.t 26), none⟩, 3, false),
       (⟨some 28, .mv (.t 3), none⟩, 4, false),
       (⟨some 29, .bin .rem (.t 27) (.t 28), none⟩, 5, false),
       (⟨some 30, .idxA 1 (.t 24) (.t 29), none⟩, 6, false),
       (⟨some 31, .ld 1 false (.t 30), none⟩, 7, false),
       (⟨some 32, .mv (.t 0), none⟩, 8, false),
       (⟨some 33, .mv (.t 5), none⟩, 9, false),
       (⟨some 34, .mv (.t 6), none⟩, 10, false),
       (⟨some 35, .bin .add (.t 33) (.t 34), none⟩, 11, false),
       (⟨some 36, .mv (.t 3), none⟩, 12, false),
       (⟨some 37, .bin .rem (.t 35) (.t 36), none⟩, 13, false),
       (⟨some 38, .idxA 1 (.t 32) (.t 37), none⟩, 14, false),
       (⟨some 39, .ld 1 false (.t 38), none⟩, 15, false),
       (⟨some 7, .mv (.t 31), none⟩, 16, false),
       (⟨some 8, .mv (.t 39), none⟩, 17, false)] [0, 3, 4, 5, 6, 7, 8])
    (.seq (.block 2 (.seq (.reg [⟨some 45, .mv (.t 7), none⟩,
          ⟨some 46, .mv (.t 8), none⟩,
          ⟨some 47, .bin .eql (.t 45) (.t 46), none⟩,
          ⟨some 44, .mv (.t 47), none⟩] [0, 3, 4, 5, 6, 7, 8, 44])
       (.cond (.t 44)
         (.seq (.reg [⟨some 48, .mv (.t 6), none⟩,
             ⟨some 49, .bin .add (.t 48) (.k (.sc (.int .i64 1))), none⟩,
             ⟨some 6, .mv (.t 49), none⟩] [0, 3, 4, 5, 6])
          (.exit 1))
         (.seq (.reg [⟨some 51, .mv (.t 7), none⟩,
             ⟨some 52, .mv (.t 8), none⟩,
             ⟨some 53, .bin .gtr (.t 51) (.t 52), none⟩,
             ⟨some 50, .mv (.t 53), none⟩] [0, 3, 4, 5, 6, 50])
          (.cond (.t 50)
            (.reg [⟨some 54, .mv (.t 4), none⟩,
               ⟨some 55, .mv (.t 6), none⟩,
               ⟨some 56, .bin .add (.t 55) (.k (.sc (.int .i64 1))), none⟩,
               ⟨some 57, .bin .add (.t 54) (.t 56), none⟩,
               ⟨some 4, .mv (.t 57), none⟩] [0, 3, 4, 5])
            (.reg [⟨some 40, .mv (.t 5), none⟩,
               ⟨some 41, .mv (.t 6), none⟩,
               ⟨some 42, .bin .add (.t 41) (.k (.sc (.int .i64 1))), none⟩,
               ⟨some 43, .bin .add (.t 40) (.t 42), none⟩,
               ⟨some 5, .mv (.t 43), none⟩] [0, 3, 4, 5]))))))
     (.seq (.seq (.reg [⟨some 58, .mv (.t 4), none⟩,
          ⟨some 59, .mv (.t 5), none⟩,
          ⟨some 60, .bin .eql (.t 58) (.t 59), none⟩] [0, 3, 4, 5, 60])
       (.cond (.t 60)
         (.reg [⟨some 61, .mv (.t 5), none⟩,
            ⟨some 62, .bin .add (.t 61) (.k (.sc (.int .i64 1))), none⟩,
            ⟨some 5, .mv (.t 62), none⟩] [0, 3, 4, 5])
         (.skip)))
      (.reg [⟨some 6, .mv (.k (.sc (.int .i64 0))), none⟩] [0, 3, 4, 5, 6])))))
/-- unravel/word.least -/
def b35 : AC :=
  .seq (.reg [⟨some 2, .mv (.k (.sc (.int .i64 0))), none⟩] [0])
  (.seq (.reg [⟨some 9, .mv (.t 0), none⟩,
      ⟨some 10, .len false (.t 9), none⟩,
      ⟨some 3, .mv (.t 10), none⟩] [0, 3])
   (.seq (.reg [⟨some 4, .mv (.k (.sc (.int .i64 0))), none⟩,
       ⟨some 5, .mv (.k (.sc (.int .i64 1))), none⟩,
       ⟨some 6, .mv (.k (.sc (.int .i64 0))), none⟩] [0, 3, 4, 5, 6])
    (.seq (.block 0 (.loop [0, 3, 4, 5, 6] b35L0))
     (.seq (.reg [⟨some 63, .mv (.t 4), none⟩,
         ⟨some 64, .mv (.t 5), none⟩,
         ⟨some 65, .mm false (.t 63) [(.t 64)], none⟩,
         ⟨some 2, .mv (.t 65), none⟩] [2])
      (.ret)))))
def a35 : AFun := ⟨1, b35, [.t 2]⟩

/-- (*strings.Builder).WriteByte -/
def b37 : AC :=
  .seq (.reg [⟨some 4, .mv (.k (.sc .nilI)), none⟩] [0, 1])
  (.seq (.reg [⟨some 5, .mv (.t 0), none⟩,
      ⟨some 6, .call 45 [(.t 5)], none⟩] [0, 1])
   (.seq (.reg [⟨some 7, .mv (.t 0), none⟩,
       ⟨some 8, .mv (.t 0), none⟩,
       ⟨some 9, .nilc (.t 8), none⟩,
       ⟨some 10, .fldA 1 (.t 9), none⟩,
       ⟨some 11, .ld 1 false (.t 10), none⟩,
       ⟨some 12, .mv (.t 1), none⟩,
       ⟨some 13, .bsl ⟨1, some 5⟩ [.int .u8 0] 1 [(0, .t 12)], none⟩,
       ⟨some 14, .app ⟨1, some 5⟩ 1 [.int .u8 0] (.t 11) (.t 13), none⟩,
       ⟨some 15, .nilc (.t 7), none⟩,
       ⟨some 16, .fldA 1 (.t 15), none⟩,
       ⟨none, .st 1 (.t 16) (.t 14), none⟩] [])
    (.seq (.reg [⟨some 4, .mv (.k (.sc .nilI)), none⟩] [4])
     (.ret))))
def a37 : AFun := ⟨2, b37, [.t 4]⟩

/-- (*strings.Builder).WriteString -/
def b38 : AC :=
  .seq (.reg [⟨some 4, .mv (.k (.sc (.int .i64 0))), none⟩,
     ⟨some 5, .mv (.k (.sc .nilI)), none⟩] [0, 1])
  (.seq (.reg [⟨some 6, .mv (.t 0), none⟩,
      ⟨some 7, .call 45 [(.t 6)], none⟩] [0, 1])
   (.seq (.reg [⟨some 8, .mv (.t 0), none⟩,
       ⟨some 9, .mv (.t 0), none⟩,
       ⟨some 10, .nilc (.t 9), none⟩,
       ⟨some 11, .fldA 1 (.t 10), none⟩,
       ⟨some 12, .ld 1 false (.t 11), none⟩,
       ⟨some 13, .mv (.t 1), none⟩,
       ⟨some 14, .app ⟨1, some 5⟩ 1 [.int .u8 0] (.t 12) (.t 13), none⟩,
       ⟨some 15, .nilc (.t 8), none⟩,
       ⟨some 16, .fldA 1 (.t 15), none⟩,
       ⟨none, .st 1 (.t 16) (.t 14), none⟩] [1])
    (.seq (.reg [⟨some 17, .mv (.t 1), none⟩,
        ⟨some 18, .len true (.t 17), none⟩,
        ⟨some 4, .mv (.t 18), none⟩,
        ⟨some 5, .mv (.k (.sc .nilI)), none⟩] [4, 5])
     (.ret))))
def a38 : AFun := ⟨2, b38, [.t 4, .t 5]⟩

/-- strconv.Itoa -/
def b39 : AC :=
  .seq (.reg [⟨some 2, .mv (.k (.sc (.str ⟨#[]⟩))), none⟩] [0])
  (.seq (.reg [⟨some 3, .mv (.t 0), none⟩,
      ⟨some 4, .call 46 [(.t 3)], none⟩,
      ⟨some 2, .mv (.t 4), none⟩] [2])
   (.ret))
def a39 : AFun := ⟨1, b39, [.t 2]⟩

/-- (*strings.Builder).String -/
def b40 : AC :=
  .seq (.reg [⟨some 2, .mv (.k (.sc (.str ⟨#[]⟩))), none⟩] [0])
  (.seq (.regd [(⟨some 3, .mv (.t 0), none⟩, 0, false),
      (⟨some 4, .nilc (.t 3), none⟩, 1, false),
      (⟨some 5, .fldA 1 (.t 4), none⟩, 2, false),
      (⟨some 6, .ld 1 false (.t 5), none⟩, 3, false),
      (⟨some 7, .usd (.t 6), none⟩, 4, false),
      (⟨some 8, .mv (.t 0), none⟩, 5, false),
      (⟨some 9, .nilc (.t 8), none⟩, 6, false),
      (⟨some 10, .fldA 1 (.t 9), none⟩, 7, false),
      (⟨some 11, .ld 1 false (.t 10), none⟩, 8, false),
      (⟨some 12, .len false (.t 11), none⟩, 9, false),
      (⟨some 13, .ustr 5 (.t 7) (.t 12), none⟩, 10, true),
      (⟨some 2, .mv (.t 13), none⟩, 11, false)] [2])
   (.ret))
def a40 : AFun := ⟨1, b40, [.t 2]⟩

/-- internal/strconv.Itoa -/
def b46 : AC :=
  .seq (.reg [⟨some 2, .mv (.k (.sc (.str ⟨#[]⟩))), none⟩] [0])
  (.seq (.reg [⟨some 3, .mv (.t 0), none⟩,
      ⟨some 4, .call 49 [(.t 3), (.k (.sc (.int .i64 10)))], none⟩,
      ⟨some 2, .mv (.t 4), none⟩] [2])
   (.ret))
def a46 : AFun := ⟨1, b46, [.t 2]⟩

/-- internal/strconv.FormatInt -/
def b49 : AC :=
  .seq (.reg [⟨some 4, .mv (.k (.sc (.str ⟨#[]⟩))), none⟩] [0, 1])
  (.seq (.seq (.reg [⟨some 10, .mv (.t 1), none⟩,
       ⟨some 11, .bin .eql (.t 10) (.k (.sc (.int .i64 10))), none⟩] [0, 1, 11])
    (.cond (.t 11)
      (.seq (.seq (.reg [⟨some 12, .mv (.t 0), none⟩,
           ⟨some 13, .bin .leq (.k (.sc (.int .i64 0))) (.t 12), none⟩,
           ⟨some 14, .mv (.t 13), none⟩,
           ⟨some 15, .mv (.t 0), (some (14, true))⟩,
           ⟨some 16, .bin .lss (.t 15) (.k (.sc (.int .i64 100))), (some (14, true))⟩,
           ⟨some 17, .pick (.t 14) (.t 16) (.k (.sc (.bool false))), none⟩] [0, 17])
        (.cond (.t 17)
          (.seq (.reg [⟨some 18, .mv (.t 0), none⟩,
              ⟨some 19, .call 53 [(.t 18)], none⟩,
              ⟨some 4, .mv (.t 19), none⟩] [4])
           (.ret))
          (.skip)))
       (.seq (.reg [⟨some 5, .new [.int .u8 0, .int .u8 0, .int .u8 0, .int .u8 0, .int .u8 0, .int .u8 0, .int .u8 0, .int .u8 0, .int .u8 0, .int .u8 0, .int .u8 0, .int .u8 0, .int .u8 0, .int .u8 0, .int .u8 0, .int .u8 0, .int .u8 0, .int .u8 0, .int .u8 0, .int .u8 0, .int .u8 0, .int .u8 0, .int .u8 0, .int .u8 0], none⟩] [0, 5])
        (.seq (.reg [⟨some 20, .mv (.t 0), none⟩,
            ⟨some 21, .conv .u64 (.t 20), none⟩,
            ⟨some 6, .mv (.t 21), none⟩] [0, 5, 6])
         (.seq (.seq (.reg [⟨some 22, .mv (.t 0), none⟩,
              ⟨some 23, .bin .lss (.t 22) (.k (.sc (.int .i64 0))), none⟩] [0, 5, 6, 23])
           (.cond (.t 23)
             (.reg [⟨some 24, .mv (.t 6), none⟩,
                ⟨some 25, .un .neg (.t 24), none⟩,
                ⟨some 6, .mv (.t 25), none⟩] [0, 5, 6])
             (.skip)))
          (.seq (.reg [⟨some 26, .mv (.t 6), none⟩,
              ⟨some 27, .call 54 [(.t 26)], none⟩,
              ⟨some 7, .mv (.t 27), none⟩] [0, 5, 6, 7])
           (.seq (.reg [⟨some 28, .mv (.t 7), none⟩,
               ⟨some 29, .bin .add (.k (.sc (.int .i64 1))) (.t 28), none⟩,
               ⟨some 30, .bad, none⟩,
               ⟨some 31, .mv (.t 6), none⟩,
               ⟨some 32, .call 55 [(.t 30), (.t 31)], none⟩] [0, 5, 7])
            (.seq (.seq (.reg [⟨some 33, .mv (.t 0), none⟩,
                 ⟨some 34, .bin .lss (.t 33) (.k (.sc (.int .i64 0))), none⟩] [5, 7, 34])
              (.cond (.t 34)
                (.seq (.reg [⟨some 35, .idxP 24 1 (.t 5) (.k (.sc (.int .i64 0))), none⟩,
                    ⟨none, .st 1 (.t 35) (.k (.sc (.int .u8 45))), none⟩] [5, 7])
                 (.seq (.reg [⟨some 36, .mv (.t 7), none⟩,
                     ⟨some 37, .bin .add (.k (.sc (.int .i64 1))) (.t 36), none⟩,
                     ⟨some 38, .bad, none⟩,
                     ⟨some 39, .cbs (.t 38), none⟩,
                     ⟨some 4, .mv (.t 39), none⟩] [4])
                  (.ret)))
                (.skip)))
             (.seq (.reg [⟨some 40, .mv (.t 7), none⟩,
                 ⟨some 41, .bin .add (.k (.sc (.int .i64 1))) (.t 40), none⟩,
                 ⟨some 42, .bad, none⟩,
                 ⟨some 43, .cbs (.t 42), none⟩,
                 ⟨some 4, .mv (.t 43), none⟩] [4])
              (.ret)))))))))
      (.skip)))
   (.seq (.reg [⟨some 45, .mv (.t 0), none⟩,
       ⟨some 46, .conv .u64 (.t 45), none⟩,
       ⟨some 47, .mv (.t 1), none⟩,
       ⟨some 48, .mv (.t 0), none⟩,
       ⟨some 49, .bin .lss (.t 48) (.k (.sc (.int .i64 0))), none⟩,
       ⟨some 50, .call 56 [(.k (.sc .nilS)), (.t 46), (.t 47), (.t 49), (.k (.sc (.bool false)))], none⟩,
       ⟨some 44, .mv (.t 50), none⟩,
       ⟨some 51, .ext (.t 44) 0, none⟩,
       ⟨some 52, .ext (.t 44) 1, none⟩,
       ⟨some 8, .mv (.t 51), none⟩,
       ⟨some 9, .mv (.t 52), none⟩] [9])
    (.seq (.reg [⟨some 53, .mv (.t 9), none⟩,
        ⟨some 4, .mv (.t 53), none⟩] [4])
     (.ret))))
def a49 : AFun := ⟨2, b49, [.t 4]⟩

/-- internal/strconv.small -/
def b53 : AC :=
  .seq (.reg [⟨some 2, .mv (.k (.sc (.str ⟨#[]⟩))), none⟩] [0])
  (.seq (.seq (.reg [⟨some 3, .mv (.t 0), none⟩,
       ⟨some 4, .bin .lss (.t 3) (.k (.sc (.int .i64 10))), none⟩] [0, 4])
    (.cond (.t 4)
      (.seq (.reg [⟨some 5, .mv (.t 0), none⟩,
          ⟨some 6, .mv (.t 0), none⟩,
          ⟨some 7, .bin .add (.t 6) (.k (.sc (.int .i64 1))), none⟩,
          ⟨some 8, .slS (.k (.sc (.str ⟨#[48, 49, 50, 51, 52, 53, 54, 55, 56, 57, 97, 98, 99, 100, 101, 102, 103, 104, 105, 106, 107, 108, 109, 110, 111, 112, 113, 114, 115, 116, 117, 118, 119, 120, 121, 122]⟩))) (some (.t 5)) (some (.t 7)), none⟩,
          ⟨some 2, .mv (.t 8), none⟩] [2])
       (.ret))
      (.skip)))
   (.seq (.reg [⟨some 9, .mv (.t 0), none⟩,
       ⟨some 10, .bin .mul (.t 9) (.k (.sc (.int .i64 2))), none⟩,
       ⟨some 11, .mv (.t 0), none⟩,
       ⟨some 12, .bin .mul (.t 11) (.k (.sc (.int .i64 2))), none⟩,
       ⟨some 13, .bin .add (.t 12) (.k (.sc (.int .i64 2))), none⟩,
       ⟨some 14, .slS (.k (.sc (.str ⟨#[48, 48, 48, 49, 48, 50, 48, 51, 48, 52, 48, 53, 48, 54, 48, 55, 48, 56, 48, 57, 49, 48, 49, 49, 49, 50, 49, 51, 49, 52, 49, 53, 49, 54, 49, 55, 49, 56, 49, 57, 50, 48, 50, 49, 50, 50, 50, 51, 50, 52, 50, 53, 50, 54, 50, 55, 50, 56, 50, 57, 51, 48, 51, 49, 51, 50, 51, 51, 51, 52, 51, 53, 51, 54, 51, 55, 51, 56, 51, 57, 52, 48, 52, 49, 52, 50, 52, 51, 52, 52, 52, 53, 52, 54, 52, 55, 52, 56, 52, 57, 53, 48, 53, 49, 53, 50, 53, 51, 53, 52, 53, 53, 53, 54, 53, 55, 53, 56, 53, 57, 54, 48, 54, 49, 54, 50, 54, 51, 54, 52, 54, 53, 54, 54, 54, 55, 54, 56, 54, 57, 55, 48, 55, 49, 55, 50, 55, 51, 55, 52, 55, 53, 55, 54, 55, 55, 55, 56, 55, 57, 56, 48, 56, 49, 56, 50, 56, 51, 56, 52, 56, 53, 56, 54, 56, 55, 56, 56, 56, 57, 57, 48, 57, 49, 57, 50, 57, 51, 57, 52, 57, 53, 57, 54, 57, 55, 57, 56, 57, 57]⟩))) (some (.t 10)) (some (.t 13)), none⟩,
       ⟨some 2, .mv (.t 14), none⟩] [2])
    (.ret)))
def a53 : AFun := ⟨1, b53, [.t 2]⟩

/-- internal/strconv.numDigits -/
def b54 : AC :=
  .seq (.reg [⟨some 2, .mv (.k (.sc (.int .i64 0))), none⟩] [0])
  (.seq (.reg [⟨some 4, .mv (.t 0), none⟩,
      ⟨some 5, .call 62 [(.t 4)], none⟩,
      ⟨some 6, .call 61 [(.t 5)], none⟩,
      ⟨some 3, .mv (.t 6), none⟩] [0, 3])
   (.seq (.reg [⟨some 7, .mv (.t 3), none⟩,
       ⟨some 8, .mv (.t 0), none⟩,
       ⟨some 9, .mv (.t 3), none⟩,
       ⟨some 10, .bad, none⟩,
       ⟨some 11, .ld 1 false (.t 10), none⟩,
       ⟨some 12, .bin .geq (.t 8) (.t 11), none⟩,
       ⟨some 13, .call 63 [(.t 12)], none⟩,
       ⟨some 14, .bin .add (.t 7) (.t 13), none⟩,
       ⟨some 2, .mv (.t 14), none⟩] [2])
    (.ret)))
def a54 : AFun := ⟨1, b54, [.t 2]⟩

def b55L0 : AC :=
  .seq (.seq (.reg [⟨some 19, .mv (.t 4), none⟩,
      ⟨some 20, .bin .geq (.t 19) (.k (.sc (.int .i64 8))), none⟩] [0, 1, 4, 20])
   (.cond (.t 20)
     (.skip)
     (.exit 0)))
  (.block 1 (.seq (.reg [⟨some 21, .mv (.t 1), none⟩,
       ⟨some 22, .bin .rem (.t 21) (.k (.sc (.int .u64 100000000))), none⟩,
       ⟨some 23, .conv .u32 (.t 22), none⟩,
       ⟨some 5, .mv (.t 23), none⟩] [0, 1, 4, 5])
    (.seq (.reg [⟨some 24, .mv (.t 1), none⟩,
        ⟨some 25, .bin .quo (.t 24) (.k (.sc (.int .u64 100000000))), none⟩,
        ⟨some 1, .mv (.t 25), none⟩] [0, 1, 4, 5])
     (.seq (.reg [⟨some 26, .mv (.t 5), none⟩,
         ⟨some 27, .bin .quo (.t 26) (.k (.sc (.int .u32 10000))), none⟩,
         ⟨some 28, .mv (.t 5), none⟩,
         ⟨some 29, .bin .rem (.t 28) (.k (.sc (.int .u32 10000))), none⟩,
         ⟨some 6, .mv (.t 27), none⟩,
         ⟨some 7, .mv (.t 29), none⟩] [0, 1, 4, 6, 7])
      (.seq (.reg [⟨some 30, .mv (.t 7), none⟩,
          ⟨some 31, .bin .quo (.t 30) (.k (.sc (.int .u32 100))), none⟩,
          ⟨some 32, .bin .mul (.t 31) (.k (.sc (.int .u32 2))), none⟩,
          ⟨some 33, .mv (.t 7), none⟩,
          ⟨some 34, .bin .rem (.t 33) (.k (.sc (.int .u32 100))), none⟩,
          ⟨some 35, .bin .mul (.t 34) (.k (.sc (.int .u32 2))), none⟩,
          ⟨some 8, .mv (.t 32), none⟩,
          ⟨some 9, .mv (.t 35), none⟩] [0, 1, 4, 6, 8, 9])
       (.seq (.reg [⟨some 36, .mv (.t 6), none⟩,
           ⟨some 37, .bin .quo (.t 36) (.k (.sc (.int .u32 100))), none⟩,
           ⟨some 38, .bin .mul (.t 37) (.k (.sc (.int .u32 2))), none⟩,
           ⟨some 39, .mv (.t 6), none⟩,
           ⟨some 40, .bin .rem (.t 39) (.k (.sc (.int .u32 100))), none⟩,
           ⟨some 41, .bin .mul (.t 40) (.k (.sc (.int .u32 2))), none⟩,
           ⟨some 10, .mv (.t 38), none⟩,
           ⟨some 11, .mv (.t 41), none⟩] [0, 1, 4, 8, 9, 10, 11])
        (.seq (.regd [(⟨some 42, .mv (.t 0), none⟩, 0, false),
            (⟨some 43, .mv (.t 4), none⟩, 1, false),
            (⟨some 44, .bin .sub (.t 43) (.k (.sc (.int .i64 1))), none⟩, 2, false),
            (⟨some 45, .mv (.t 0), none⟩, 3, false),
            (⟨some 46, .mv (.t 4), none⟩, 4, false),
            (⟨some 47, .bin .sub (.t 46) (.k (.sc (.int .i64 2))), none⟩, 5, false),
            (⟨some 48, .mv (.t 9), none⟩, 6, false),
            (⟨some 49, .bin .add (.t 48) (.k (.sc (.int .u32 1))), none⟩, 7, false),
            (⟨some 50, .idxS (.k (.sc (.str ⟨#[48, 48, 48, 49, 48, 50, 48, 51, 48, 52, 48, 53, 48, 54, 48, 55, 48, 56, 48, 57, 49, 48, 49, 49, 49, 50, 49, 51, 49, 52, 49, 53, 49, 54, 49, 55, 49, 56, 49, 57, 50, 48, 50, 49, 50, 50, 50, 51, 50, 52, 50, 53, 50, 54, 50, 55, 50, 56, 50, 57, 51, 48, 51, 49, 51, 50, 51, 51, 51, 52, 51, 53, 51, 54, 51, 55, 51, 56, 51, 57, 52, 48, 52, 49, 52, 50, 52, 51, 52, 52, 52, 53, 52, 54, 52, 55, 52, 56, 52, 57, 53, 48, 53, 49, 53, 50, 53, 51, 53, 52, 53, 53, 53, 54, 53, 55, 53, 56, 53, 57, 54, 48, 54, 49, 54, 50, 54, 51, 54, 52, 54, 53, 54, 54, 54, 55, 54, 56, 54, 57, 55, 48, 55, 49, 55, 50, 55, 51, 55, 52, 55, 53, 55, 54, 55, 55, 55, 56, 55, 57, 56, 48, 56, 49, 56, 50, 56, 51, 56, 52, 56, 53, 56, 54, 56, 55, 56, 56, 56, 57, 57, 48, 57, 49, 57, 50, 57, 51, 57, 52, 57, 53, 57, 54, 57, 55, 57, 56, 57, 57]⟩))) (.t 49), none⟩, 8, false),
            (⟨some 51, .mv (.t 9), none⟩, 9, false),
            (⟨some 52, .idxS (.k (.sc (.str ⟨#[48, 48, 48, 49, 48, 50, 48, 51, 48, 52, 48, 53, 48, 54, 48, 55, 48, 56, 48, 57, 49, 48, 49, 49, 49, 50, 49, 51, 49, 52, 49, 53, 49, 54, 49, 55, 49, 56, 49, 57, 50, 48, 50, 49, 50, 50, 50, 51, 50, 52, 50, 53, 50, 54, 50, 55, 50, 56, 50, 57, 51, 48, 51, 49, 51, 50, 51, 51, 51, 52, 51, 53, 51, 54, 51, 55, 51, 56, 51, 57, 52, 48, 52, 49, 52, 50, 52, 51, 52, 52, 52, 53, 52, 54, 52, 55, 52, 56, 52, 57, 53, 48, 53, 49, 53, 50, 53, 51, 53, 52, 53, 53, 53, 54, 53, 55, 53, 56, 53, 57, 54, 48, 54, 49, 54, 50, 54, 51, 54, 52, 54, 53, 54, 54, 54, 55, 54, 56, 54, 57, 55, 48, 55, 49, 55, 50, 55, 51, 55, 52, 55, 53, 55, 54, 55, 55, 55, 56, 55, 57, 56, 48, 56, 49, 56, 50, 56, 51, 56, 52, 56, 53, 56, 54, 56, 55, 56, 56, 56, 57, 57, 48, 57, 49, 57, 50, 57, 51, 57, 52, 57, 53, 57, 54, 57, 55, 57, 56, 57, 57]⟩))) (.t 51), none⟩, 10, false),
            (⟨some 53, .idxA 1 (.t 42) (.t 44), none⟩, 11, false),
            (⟨none, .st 1 (.t 53) (.t 50), none⟩, 12, true),
            (⟨some 54, .idxA 1 (.t 45) (.t 47), none⟩, 13, false),
            (⟨none, .st 1 (.t 54) (.t 52), none⟩, 14, true)] [0, 1, 4, 8, 10, 11])
         (.seq (.regd [(⟨some 55, .mv (.t 0), none⟩, 0, false),
             (⟨some 56, .mv (.t 4), none⟩, 1, false),
             (⟨some 57, .bin .sub (.t 56) (.k (.sc (.int .i64 3))), none⟩, 2, false),
             (⟨some 58, .mv (.t 0), none⟩, 3, false),
             (⟨some 59, .mv (.t 4), none⟩, 4, false),
             (⟨some 60, .bin .sub (.t 59) (.k (.sc (.int .i64 4))), none⟩, 5, false),
             (⟨some 61, .mv (.t 8), none⟩, 6, false),
             (⟨some 62, .bin .add (.t 61) (.k (.sc (.int .u32 1))), none⟩, 7, false),
             (⟨some 63, .idxS (.k (.sc (.str ⟨#[48, 48, 48, 49, 48, 50, 48, 51, 48, 52, 48, 53, 48, 54, 48, 55, 48, 56, 48, 57, 49, 48, 49, 49, 49, 50, 49, 51, 49, 52, 49, 53, 49, 54, 49, 55, 49, 56, 49, 57, 50, 48, 50, 49, 50, 50, 50, 51, 50, 52, 50, 53, 50, 54, 50, 55, 50, 56, 50, 57, 51, 48, 51, 49, 51, 50, 51, 51, 51, 52, 51, 53, 51, 54, 51, 55, 51, 56, 51, 57, 52, 48, 52, 49, 52, 50, 52, 51, 52, 52, 52, 53, 52, 54, 52, 55, 52, 56, 52, 57, 53, 48, 53, 49, 53, 50, 53, 51, 53, 52, 53, 53, 53, 54, 53, 55, 53, 56, 53, 57, 54, 48, 54, 49, 54, 50, 54, 51, 54, 52, 54, 53, 54, 54, 54, 55, 54, 56, 54, 57, 55, 48, 55, 49, 55, 50, 55, 51, 55, 52, 55, 53, 55, 54, 55, 55, 55, 56, 55, 57, 56, 48, 56, 49, 56, 50, 56, 51, 56, 52, 56, 53, 56, 54, 56, 55, 56, 56, 56, 57, 57, 48, 57, 49, 57, 50, 57, 51, 57, 52, 57, 53, 57, 54, 57, 55, 57, 56, 57, 57]⟩))) (.t 62), none⟩, 8, false),
             (⟨some 64, .mv (.t 8), none⟩, 9, false),
             (⟨some 65, .idxS (.k (.sc (.str ⟨#[48, 48, 48, 49, 48, 50, 48, 51, 48, 52, 48, 53, 48, 54, 48, 55, 48, 56, 48, 57, 49, 48, 49, 49, 49, 50, 49, 51, 49, 52, 49, 53, 49, 54, 49, 55, 49, 56, 49, 57, 50, 48, 50, 49, 50, 50, 50, 51, 50, 52, 50, 53, 50, 54, 50, 55, 50, 56, 50, 57, 51, 48, 51, 49, 51, 50, 51, 51, 51, 52, 51, 53, 51, 54, 51, 55, 51, 56, 51, 57, 52, 48, 52, 49, 52, 50, 52, 51, 52, 52, 52, 53, 52, 54, 52, 55, 52, 56, 52, 57, 53, 48, 53, 49, 53, 50, 53, 51, 53, 52, 53, 53, 53, 54, 53, 55, 53, 56, 53, 57, 54, 48, 54, 49, 54, 50, 54, 51, 54, 52, 54, 53, 54, 54, 54, 55, 54, 56, 54, 57, 55, 48, 55, 49, 55, 50, 55, 51, 55, 52, 55, 53, 55, 54, 55, 55, 55, 56, 55, 57, 56, 48, 56, 49, 56, 50, 56, 51, 56, 52, 56, 53, 56, 54, 56, 55, 56, 56, 56, 57, 57, 48, 57, 49, 57, 50, 57, 51, 57, 52, 57, 53, 57, 54, 57, 55, 57, 56, 57, 57]⟩))) (.t 64), none⟩, 10, false),
             (⟨some 66, .idxA 1 (.t 55) (.t 57), none⟩, 11, false),
             (⟨none, .st 1 (.t 66) (.t 63), none⟩, 12, true),
             (⟨some 67, .idxA 1 (.t 58) (.t 60), none⟩, 13, false),
             (⟨none, .st 1 (.t 67) (.t 65), none⟩, 14, true)] [0, 1, 4, 10, 11])
          (.seq (.regd [(⟨some 68, .mv (.t 0), none⟩, 0, false),
              (⟨some 69, .mv (.t 4), none⟩, 1, false),
              (⟨some 70, .bin .sub (.t 69) (.k (.sc (.int .i64 5))), none⟩, 2, false),
              (⟨some 71, .mv (.t 0), none⟩, 3, false),
              (⟨some 72, .mv (.t 4), none⟩, 4, false),
              (⟨some 73, .bin .sub (.t 72) (.k (.sc (.int .i64 6))), none⟩, 5, false),
              (⟨some 74, .mv (.t 11), none⟩, 6, false),
              (⟨some 75, .bin .add (.t 74) (.k (.sc (.int .u32 1))), none⟩, 7, false),
              (⟨some 76, .idxS (.k (.sc (.str ⟨#[48, 48, 48, 49, 48, 50, 48, 51, 48, 52, 48, 53, 48, 54, 48, 55, 48, 56, 48, 57, 49, 48, 49, 49, 49, 50, 49, 51, 49, 52, 49, 53, 49, 54, 49, 55, 49, 56, 49, 57, 50, 48, 50, 49, 50, 50, 50, 51, 50, 52, 50, 53, 50, 54, 50, 55, 50, 56, 50, 57, 51, 48, 51, 49, 51, 50, 51, 51, 51, 52, 51, 53, 51, 54, 51, 55, 51, 56, 51, 57, 52, 48, 52, 49, 52, 50, 52, 51, 52, 52, 52, 53, 52, 54, 52, 55, 52, 56, 52, 57, 53, 48, 53, 49, 53, 50, 53, 51, 53, 52, 53, 53, 53, 54, 53, 55, 53, 56, 53, 57, 54, 48, 54, 49, 54, 50, 54, 51, 54, 52, 54, 53, 54, 54, 54, 55, 54, 56, 54, 57, 55, 48, 55, 49, 55, 50, 55, 51, 55, 52, 55, 53, 55, 54, 55, 55, 55, 56, 55, 57, 56, 48, 56, 49, 56, 50, 56, 51, 56, 52, 56, 53, 56, 54, 56, 55, 56, 56, 56, 57, 57, 48, 57, 49, 57, 50, 57, 51, 57, 52, 57, 53, 57, 54, 57, 55, 57, 56, 57, 57]⟩))) (.t 75), none⟩, 8, false),
              (⟨some 77, .mv (.t 11), none⟩, 9, false),
              (⟨some 78, .idxS (.k (.sc (.str ⟨#[48, 48, 48, 49, 48, 50, 48, 51, 48, 52, 48, 53, 48, 54, 48, 55, 48, 56, 48, 57, 49, 48, 49, 49, 49, 50, 49, 51, 49, 52, 49, 53, 49, 54, 49, 55, 49, 56, 49, 57, 50, 48, 50, 49, 50, 50, 50, 51, 50, 52, 50, 53, 50, 54, 50, 55, 50, 56, 50, 57, 51, 48, 51, 49, 51, 50, 51, 51, 51, 52, 51, 53, 51, 54, 51, 55, 51, 56, 51, 57, 52, 48, 52, 49, 52, 50, 52, 51, 52, 52, 52, 53, 52, 54, 52, 55, 52, 56, 52, 57, 53, 48, 53, 49, 53, 50, 53, 51, 53, 52, 53, 53, 53, 54, 53, 55, 53, 56, 53, 57, 54, 48, 54, 49, 54, 50, 54, 51, 54, 52, 54, 53, 54, 54, 54, 55, 54, 56, 54, 57, 55, 48, 55, 49, 55, 50, 55, 51, 55, 52, 55, 53, 55, 54, 55, 55, 55, 56, 55, 57, 56, 48, 56, 49, 56, 50, 56, 51, 56, 52, 56, 53, 56, 54, 56, 55, 56, 56, 56, 57, 57, 48, 57, 49, 57, 50, 57, 51, 57, 52, 57, 53, 57, 54, 57, 55, 57, 56, 57, 57]⟩))) (.t 77), none⟩, 10, false),
              (⟨some 79, .idxA 1 (.t 68) (.t 70), none⟩, 11, false),
              (⟨none, .st 1 (.t 79) (.t 76), none⟩, 12, true),
              (⟨some 80, .idxA 1 (.t 71) (.t 73), none⟩, 13, false),
              (⟨none, .st 1 (.t 80) (.t 78), none⟩, 14, true)] [0, 1, 4, 10])
           (.seq (.regd [(⟨some 81, .mv (.t 0), none⟩, 0, false),
               (⟨some 82, .mv (.t 4), none⟩, 1, false),
               (⟨some 83, .bin .sub (.t 82) (.k (.sc (.int .i64 7))), none⟩, 2, false),
               (⟨some 84, .mv (.t 0), none⟩, 3, false),
               (⟨some 85, .mv (.t 4), none⟩, 4, false),
               (⟨some 86, .bin .sub (.t 85) (.k (.sc (.int .i64 8))), none⟩, 5, false),
               (⟨some 87, .mv (.t 10), none⟩, 6, false),
               (⟨some 88, .bin .add (.t 87) (.k (.sc (.int .u32 1))), none⟩, 7, false),
               (⟨some 89, .idxS (.k (.sc (.str ⟨#[48, 48, 48, 49, 48, 50, 48, 51, 48, 52, 48, 53, 48, 54, 48, 55, 48, 56, 48, 57, 49, 48, 49, 49, 49, 50, 49, 51, 49, 52, 49, 53, 49, 54, 49, 55, 49, 56, 49, 57, 50, 48, 50, 49, 50, 50, 50, 51, 50, 52, 50, 53, 50, 54, 50, 55, 50, 56, 50, 57, 51, 48, 51, 49, 51, 50, 51, 51, 51, 52, 51, 53, 51, 54, 51, 55, 51, 56, 51, 57, 52, 48, 52, 49, 52, 50, 52, 51, 52, 52, 52, 53, 52, 54, 52, 55, 52, 56, 52, 57, 53, 48, 53, 49, 53, 50, 53, 51, 53, 52, 53, 53, 53, 54, 53, 55, 53, 56, 53, 57, 54, 48, 54, 49, 54, 50, 54, 51, 54, 52, 54, 53, 54, 54, 54, 55, 54, 56, 54, 57, 55, 48, 55, 49, 55, 50, 55, 51, 55, 52, 55, 53, 55, 54, 55, 55, 55, 56, 55, 57, 56, 48, 56, 49, 56, 50, 56, 51, 56, 52, 56, 53, 56, 54, 56, 55, 56, 56, 56, 57, 57, 48, 57, 49, 57, 50, 57, 51, 57, 52, 57, 53, 57, 54, 57, 55, 57, 56, 57, 57]⟩))) (.t 88), none⟩, 8, false),
               (⟨some 90, .mv (.t 10), none⟩, 9, false),
               (⟨some 91, .idxS (.k (.sc (.str ⟨#[48, 48, 48, 49, 48, 50, 48, 51, 48, 52, 48, 53, 48, 54, 48, 55, 48, 56, 48, 57, 49, 48, 49, 49, 49, 50, 49, 51, 49, 52, 49, 53, 49, 54, 49, 55, 49, 56, 49, 57, 50, 48, 50, 49, 50, 50, 50, 51, 50, 52, 50, 53, 50, 54, 50, 55, 50, 56, 50, 57, 51, 48, 51, 49, 51, 50, 51, 51, 51, 52, 51, 53, 51, 54, 51, 55, 51, 56, 51, 57, 52, 48, 52, 49, 52, 50, 52, 51, 52, 52, 52, 53, 52, 54, 52, 55, 52, 56, 52, 57, 53, 48, 53, 49, 53, 50, 53, 51, 53, 52, 53, 53, 53, 54, 53, 55, 53, 56, 53, 57, 54, 48, 54, 49, 54, 50, 54, 51, 54, 52, 54, 53, 54, 54, 54, 55, 54, 56, 54, 57, 55, 48, 55, 49, 55, 50, 55, 51, 55, 52, 55, 53, 55, 54, 55, 55, 55, 56, 55, 57, 56, 48, 56, 49, 56, 50, 56, 51, 56, 52, 56, 53, 56, 54, 56, 55, 56, 56, 56, 57, 57, 48, 57, 49, 57, 50, 57, 51, 57, 52, 57, 53, 57, 54, 57, 55, 57, 56, 57, 57]⟩))) (.t 90), none⟩, 10, false),
               (⟨some 92, .idxA 1 (.t 81) (.t 83), none⟩, 11, false),
               (⟨none, .st 1 (.t 92) (.t 89), none⟩, 12, true),
               (⟨some 93, .idxA 1 (.t 84) (.t 86), none⟩, 13, false),
               (⟨none, .st 1 (.t 93) (.t 91), none⟩, 14, true)] [0, 1, 4])
            (.reg [⟨some 94, .mv (.t 4), none⟩,
               ⟨some 95, .bin .sub (.t 94) (.k (.sc (.int .i64 8))), none⟩,
               ⟨some 4, .mv (.t 95), none⟩] [0, 1, 4])))))))))))
/-- internal/strconv.formatBase10 -/
def b55 : AC :=
  .seq (.reg [⟨some 17, .mv (.t 0), none⟩,
     ⟨some 18, .len false (.t 17), none⟩,
     ⟨some 4, .mv (.t 18), none⟩] [0, 1, 4])
  (.seq (.block 0 (.loop [0, 1, 4] b55L0))
   (.seq (.reg [⟨some 96, .mv (.t 1), none⟩,
       ⟨some 97, .conv .u32 (.t 96), none⟩,
       ⟨some 12, .mv (.t 97), none⟩] [0, 4, 12])
    (.seq (.seq (.reg [⟨some 98, .mv (.t 4), none⟩,
         ⟨some 99, .bin .geq (.t 98) (.k (.sc (.int .i64 4))), none⟩] [0, 4, 12, 99])
      (.cond (.t 99)
        (.seq (.reg [⟨some 100, .mv (.t 12), none⟩,
            ⟨some 101, .bin .rem (.t 100) (.k (.sc (.int .u32 10000))), none⟩,
            ⟨some 13, .mv (.t 101), none⟩] [0, 4, 12, 13])
         (.seq (.reg [⟨some 102, .mv (.t 12), none⟩,
             ⟨some 103, .bin .quo (.t 102) (.k (.sc (.int .u32 10000))), none⟩,
             ⟨some 12, .mv (.t 103), none⟩] [0, 4, 12, 13])
          (.seq (.reg [⟨some 104, .mv (.t 13), none⟩,
              ⟨some 105, .bin .quo (.t 104) (.k (.sc (.int .u32 100))), none⟩,
              ⟨some 106, .bin .mul (.t 105) (.k (.sc (.int .u32 2))), none⟩,
              ⟨some 107, .mv (.t 13), none⟩,
              ⟨some 108, .bin .rem (.t 107) (.k (.sc (.int .u32 100))), none⟩,
              ⟨some 109, .bin .mul (.t 108) (.k (.sc (.int .u32 2))), none⟩,
              ⟨some 14, .mv (.t 106), none⟩,
              ⟨some 15, .mv (.t 109), none⟩] [0, 4, 12, 14, 15])
           (.seq (.regd [(⟨some 110, .mv (.t 0), none⟩, 0, false),
               (⟨some 111, .mv (.t 4), none⟩, 1, false),
               (⟨some 112, .bin .sub (.t 111) (.k (.sc (.int .i64 1))), none⟩, 2, false),
               (⟨some 113, .mv (.t 0), none⟩, 3, false),
               (⟨some 114, .mv (.t 4), none⟩, 4, false),
               (⟨some 115, .bin .sub (.t 114) (.k (.sc (.int .i64 2))), none⟩, 5, false),
               (⟨some 116, .mv (.t 15), none⟩, 6, false),
               (⟨some 117, .bin .add (.t 116) (.k (.sc (.int .u32 1))), none⟩, 7, false),
               (⟨some 118, .idxS (.k (.sc (.str ⟨#[48, 48, 48, 49, 48, 50, 48, 51, 48, 52, 48, 53, 48, 54, 48, 55, 48, 56, 48, 57, 49, 48, 49, 49, 49, 50, 49, 51, 49, 52, 49, 53, 49, 54, 49, 55, 49, 56, 49, 57, 50, 48, 50, 49, 50, 50, 50, 51, 50, 52, 50, 53, 50, 54, 50, 55, 50, 56, 50, 57, 51, 48, 51, 49, 51, 50, 51, 51, 51, 52, 51, 53, 51, 54, 51, 55, 51, 56, 51, 57, 52, 48, 52, 49, 52, 50, 52, 51, 52, 52, 52, 53, 52, 54, 52, 55, 52, 56, 52, 57, 53, 48, 53, 49, 53, 50, 53, 51, 53, 52, 53, 53, 53, 54, 53, 55, 53, 56, 53, 57, 54, 48, 54, 49, 54, 50, 54, 51, 54, 52, 54, 53, 54, 54, 54, 55, 54, 56, 54, 57, 55, 48, 55, 49, 55, 50, 55, 51, 55, 52, 55, 53, 55, 54, 55, 55, 55, 56, 55, 57, 56, 48, 56, 49, 56, 50, 56, 51, 56, 52, 56, 53, 56, 54, 56, 55, 56, 56, 56, 57, 57, 48, 57, 49, 57, 50, 57, 51, 57, 52, 57, 53, 57, 54, 57, 55, 57, 56, 57, 57]⟩))) (.t 117), none⟩, 8, false),
               (⟨some 119, .mv (.t 15), none⟩, 9, false),
               (⟨some 120, .idxS (.k (.sc (.str ⟨#[48, 48, 48, 49, 48, 50, 48, 51, 48, 52, 48, 53, 48, 54, 48, 55, 48, 56, 48, 57, 49, 48, 49, 49, 49, 50, 49, 51, 49, 52, 49, 53, 49, 54, 49, 55, 49, 56, 49, 57, 50, 48, 50, 49, 50, 50, 50, 51, 50, 52, 50, 53, 50, 54, 50, 55, 50, 56, 50, 57, 51, 48, 51, 49, 51, 50, 51, 51, 51, 52, 51, 53, 51, 54, 51, 55, 51, 56, 51, 57, 52, 48, 52, 49, 52, 50, 52, 51, 52, 52, 52, 53, 52, 54, 52, 55, 52, 56, 52, 57, 53, 48, 53, 49, 53, 50, 53, 51, 53, 52, 53, 53, 53, 54, 53, 55, 53, 56, 53, 57, 54, 48, 54, 49, 54, 50, 54, 51, 54, 52, 54, 53, 54, 54, 54, 55, 54, 56, 54, 57, 55, 48, 55, 49, 55, 50, 55, 51, 55, 52, 55, 53, 55, 54, 55, 55, 55, 56, 55, 57, 56, 48, 56, 49, 56, 50, 56, 51, 56, 52, 56, 53, 56, 54, 56, 55, 56, 56, 56, 57, 57, 48, 57, 49, 57, 50, 57, 51, 57, 52, 57, 53, 57, 54, 57, 55, 57, 56, 57, 57]⟩))) (.t 119), none⟩, 10, false),
               (⟨some 121, .idxA 1 (.t 110) (.t 112), none⟩, 11, false),
               (⟨none, .st 1 (.t 121) (.t 118), none⟩, 12, true),
               (⟨some 122, .idxA 1 (.t 113) (.t 115), none⟩, 13, false),
               (⟨none, .st 1 (.t 122) (.t 120), none⟩, 14, true)] [0, 4, 12, 14])
            (.seq (.regd [(⟨some 123, .mv (.t 0), none⟩, 0, false),
                (⟨some 124, .mv (.t 4), none⟩, 1, false),
                (⟨some 125, .bin .sub (.t 124) (.k (.sc (.int .i64 3))), none⟩, 2, false),
                (⟨some 126, .mv (.t 0), none⟩, 3, false),
                (⟨some 127, .mv (.t 4), none⟩, 4, false),
                (⟨some 128, .bin .sub (.t 127) (.k (.sc (.int .i64 4))), none⟩, 5, false),
                (⟨some 129, .mv (.t 14), none⟩, 6, false),
                (⟨some 130, .bin .add (.t 129) (.k (.sc (.int .u32 1))), none⟩, 7, false),
                (⟨some 131, .idxS (.k (.sc (.str ⟨#[48, 48, 48, 49, 48, 50, 48, 51, 48, 52, 48, 53, 48, 54, 48, 55, 48, 56, 48, 57, 49, 48, 49, 49, 49, 50, 49, 51, 49, 52, 49, 53, 49, 54, 49, 55, 49, 56, 49, 57, 50, 48, 50, 49, 50, 50, 50, 51, 50, 52, 50, 53, 50, 54, 50, 55, 50, 56, 50, 57, 51, 48, 51, 49, 51, 50, 51, 51, 51, 52, 51, 53, 51, 54, 51, 55, 51, 56, 51, 57, 52, 48, 52, 49, 52, 50, 52, 51, 52, 52, 52, 53, 52, 54, 52, 55, 52, 56, 52, 57, 53, 48, 53, 49, 53, 50, 53, 51, 53, 52, 53, 53, 53, 54, 53, 55, 53, 56, 53, 57, 54, 48, 54, 49, 54, 50, 54, 51, 54, 52, 54, 53, 54, 54, 54, 55, 54, 56, 54, 57, 55, 48, 55, 49, 55, 50, 55, 51, 55, 52, 55, 53, 55, 54, 55, 55, 55, 56, 55, 57, 56, 48, 56, 49, 56, 50, 56, 51, 56, 52, 56, 53, 56, 54, 56, 55, 56, 56, 56, 57, 57, 48, 57, 49, 57, 50, 57, 51, 57, 52, 57, 53, 57, 54, 57, 55, 57, 56, 57, 57]⟩))) (.t 130), none⟩, 8, false),
                (⟨some 132, .mv (.t 14), none⟩, 9, false),
                (⟨some 133, .idxS (.k (.sc (.str ⟨#[48, 48, 48, 49, 48, 50, 48, 51, 48, 52, 48, 53, 48, 54, 48, 55, 48, 56, 48, 57, 49, 48, 49, 49, 49, 50, 49, 51, 49, 52, 49, 53, 49, 54, 49, 55, 49, 56, 49, 57, 50, 48, 50, 49, 50, 50, 50, 51, 50, 52, 50, 53, 50, 54, 50, 55, 50, 56, 50, 57, 51, 48, 51, 49, 51, 50, 51, 51, 51, 52, 51, 53, 51, 54, 51, 55, 51, 56, 51, 57, 52, 48, 52, 49, 52, 50, 52, 51, 52, 52, 52, 53, 52, 54, 52, 55, 52, 56, 52, 57, 53, 48, 53, 49, 53, 50, 53, 51, 53, 52, 53, 53, 53, 54, 53, 55, 53, 56, 53, 57, 54, 48, 54, 49, 54, 50, 54, 51, 54, 52, 54, 53, 54, 54, 54, 55, 54, 56, 54, 57, 55, 48, 55, 49, 55, 50, 55, 51, 55, 52, 55, 53, 55, 54, 55, 55, 55, 56, 55, 57, 56, 48, 56, 49, 56, 50, 56, 51, 56, 52, 56, 53, 56, 54, 56, 55, 56, 56, 56, 57, 57, 48, 57, 49, 57, 50, 57, 51, 57, 52, 57, 53, 57, 54, 57, 55, 57, 56, 57, 57]⟩))) (.t 132), none⟩, 10, false),
                (⟨some 134, .idxA 1 (.t 123) (.t 125), none⟩, 11, false),
                (⟨none, .st 1 (.t 134) (.t 131), none⟩, 12, true),
                (⟨some 135, .idxA 1 (.t 126) (.t 128), none⟩, 13, false),
                (⟨none, .st 1 (.t 135) (.t 133), none⟩, 14, true)] [0, 4, 12])
             (.reg [⟨some 136, .mv (.t 4), none⟩,
                ⟨some 137, .bin .sub (.t 136) (.k (.sc (.int .i64 4))), none⟩,
                ⟨some 4, .mv (.t 137), none⟩] [0, 4, 12]))))))
        (.skip)))
     (.seq (.seq (.reg [⟨some 138, .mv (.t 4), none⟩,
          ⟨some 139, .bin .geq (.t 138) (.k (.sc (.int .i64 2))), none⟩] [0, 4, 12, 139])
       (.cond (.t 139)
         (.seq (.reg [⟨some 140, .mv (.t 12), none⟩,
             ⟨some 141, .bin .rem (.t 140) (.k (.sc (.int .u32 100))), none⟩,
             ⟨some 142, .bin .mul (.t 141) (.k (.sc (.int .u32 2))), none⟩,
             ⟨some 16, .mv (.t 142), none⟩] [0, 4, 12, 16])
          (.seq (.reg [⟨some 143, .mv (.t 12), none⟩,
              ⟨some 144, .bin .quo (.t 143) (.k (.sc (.int .u32 100))), none⟩,
              ⟨some 12, .mv (.t 144), none⟩] [0, 4, 12, 16])
           (.seq (.regd [(⟨some 145, .mv (.t 0), none⟩, 0, false),
               (⟨some 146, .mv (.t 4), none⟩, 1, false),
               (⟨some 147, .bin .sub (.t 146) (.k (.sc (.int .i64 1))), none⟩, 2, false),
               (⟨some 148, .mv (.t 0), none⟩, 3, false),
               (⟨some 149, .mv (.t 4), none⟩, 4, false),
               (⟨some 150, .bin .sub (.t 149) (.k (.sc (.int .i64 2))), none⟩, 5, false),
               (⟨some 151, .mv (.t 16), none⟩, 6, false),
               (⟨some 152, .bin .add (.t 151) (.k (.sc (.int .u32 1))), none⟩, 7, false),
               (⟨some 153, .idxS (.k (.sc (.str ⟨#[48, 48, 48, 49, 48, 50, 48, 51, 48, 52, 48, 53, 48, 54, 48, 55, 48, 56, 48, 57, 49, 48, 49, 49, 49, 50, 49, 51, 49, 52, 49, 53, 49, 54, 49, 55, 49, 56, 49, 57, 50, 48, 50, 49, 50, 50, 50, 51, 50, 52, 50, 53, 50, 54, 50, 55, 50, 56, 50, 57, 51, 48, 51, 49, 51, 50, 51, 51, 51, 52, 51, 53, 51, 54, 51, 55, 51, 56, 51, 57, 52, 48, 52, 49, 52, 50, 52, 51, 52, 52, 52, 53, 52, 54, 52, 55, 52, 56, 52, 57, 53, 48, 53, 49, 53, 50, 53, 51, 53, 52, 53, 53, 53, 54, 53, 55, 53, 56, 53, 57, 54, 48, 54, 49, 54, 50, 54, 51, 54, 52, 54, 53, 54, 54, 54, 55, 54, 56, 54, 57, 55, 48, 55, 49, 55, 50, 55, 51, 55, 52, 55, 53, 55, 54, 55, 55, 55, 56, 55, 57, 56, 48, 56, 49, 56, 50, 56, 51, 56, 52, 56, 53, 56, 54, 56, 55, 56, 56, 56, 57, 57, 48, 57, 49, 57, 50, 57, 51, 57, 52, 57, 53, 57, 54, 57, 55, 57, 56, 57, 57]⟩))) (.t 152), none⟩, 8, false),
               (⟨some 154, .mv (.t 16), none⟩, 9, false),
               (⟨some 155, .idxS (.k (.sc (.str ⟨#[48, 48, 48, 49, 48, 50, 48, 51, 48, 52, 48, 53, 48, 54, 48, 55, 48, 56, 48, 57, 49, 48, 49, 49, 49, 50, 49, 51, 49, 52, 49, 53, 49, 54, 49, 55, 49, 56, 49, 57, 50, 48, 50, 49, 50, 50, 50, 51, 50, 52, 50, 53, 50, 54, 50, 55, 50, 56, 50, 57, 51, 48, 51, 49, 51, 50, 51, 51, 51, 52, 51, 53, 51, 54, 51, 55, 51, 56, 51, 57, 52, 48, 52, 49, 52, 50, 52, 51, 52, 52, 52, 53, 52, 54, 52, 55, 52, 56, 52, 57, 53, 48, 53, 49, 53, 50, 53, 51, 53, 52, 53, 53, 53, 54, 53, 55, 53, 56, 53, 57, 54, 48, 54, 49, 54, 50, 54, 51, 54, 52, 54, 53, 54, 54, 54, 55, 54, 56, 54, 57, 55, 48, 55, 49, 55, 50, 55, 51, 55, 52, 55, 53, 55, 54, 55, 55, 55, 56, 55, 57, 56, 48, 56, 49, 56, 50, 56, 51, 56, 52, 56, 53, 56, 54, 56, 55, 56, 56, 56, 57, 57, 48, 57, 49, 57, 50, 57, 51, 57, 52, 57, 53, 57, 54, 57, 55, 57, 56, 57, 57]⟩))) (.t 154), none⟩, 10, false),
               (⟨some 156, .idxA 1 (.t 145) (.t 147), none⟩, 11, false),
               (⟨none, .st 1 (.t 156) (.t 153), none⟩, 12, true),
               (⟨some 157, .idxA 1 (.t 148) (.t 150), none⟩, 13, false),
               (⟨none, .st 1 (.t 157) (.t 155), none⟩, 14, true)] [0, 4, 12])
            (.reg [⟨some 158, .mv (.t 4), none⟩,
               ⟨some 159, .bin .sub (.t 158) (.k (.sc (.int .i64 2))), none⟩,
               ⟨some 4, .mv (.t 159), none⟩] [0, 4, 12]))))
         (.skip)))
      (.seq (.reg [⟨some 160, .mv (.t 4), none⟩,
          ⟨some 161, .bin .gtr (.t 160) (.k (.sc (.int .i64 0))), none⟩] [0, 12, 161])
       (.cond (.t 161)
         (.reg [⟨some 162, .mv (.t 0), none⟩,
            ⟨some 163, .mv (.t 12), none⟩,
            ⟨some 164, .bin .add (.k (.sc (.int .u32 48))) (.t 163), none⟩,
            ⟨some 165, .conv .u8 (.t 164), none⟩,
            ⟨some 166, .idxA 1 (.t 162) (.k (.sc (.int .i64 0))), none⟩,
            ⟨none, .st 1 (.t 166) (.t 165), none⟩] [])
         (.skip)))))))
def a55 : AFun := ⟨2, b55, []⟩

def b56L0 : AC :=
  .seq (.seq (.reg [⟨some 44, .mv (.t 1), none⟩,
      ⟨some 45, .mv (.t 15), none⟩,
      ⟨some 46, .bin .geq (.t 44) (.t 45), none⟩] [0, 1, 3, 4, 10, 11, 12, 13, 14, 15, 16, 46])
   (.cond (.t 46)
     (.skip)
     (.exit 0)))
  (.block 1 (.seq (.reg [⟨some 47, .mv (.t 13), none⟩,
       ⟨some 48, .bin .sub (.t 47) (.k (.sc (.int .i64 1))), none⟩,
       ⟨some 13, .mv (.t 48), none⟩] [0, 1, 3, 4, 10, 11, 12, 13, 14, 15, 16])
    (.seq (.reg [⟨some 49, .mv (.t 13), none⟩,
        ⟨some 50, .mv (.t 1), none⟩,
        ⟨some 51, .mv (.t 16), none⟩,
        ⟨some 52, .bin .and (.t 50) (.t 51), none⟩,
        ⟨some 53, .idxS (.k (.sc (.str ⟨#[48, 49, 50, 51, 52, 53, 54, 55, 56, 57, 97, 98, 99, 100, 101, 102, 103, 104, 105, 106, 107, 108, 109, 110, 111, 112, 113, 114, 115, 116, 117, 118, 119, 120, 121, 122]⟩))) (.t 52), none⟩,
        ⟨some 54, .idxP 65 1 (.t 12) (.t 49), none⟩,
        ⟨none, .st 1 (.t 54) (.t 53), none⟩] [0, 1, 3, 4, 10, 11, 12, 13, 14, 15, 16])
     (.reg [⟨some 55, .mv (.t 1), none⟩,
        ⟨some 56, .mv (.t 14), none⟩,
        ⟨some 57, .bin .shr (.t 55) (.t 56), none⟩,
        ⟨some 1, .mv (.t 57), none⟩] [0, 1, 3, 4, 10, 11, 12, 13, 14, 15, 16]))))
def b56L1 : AC :=
  .seq (.seq (.reg [⟨some 66, .mv (.t 1), none⟩,
      ⟨some 67, .mv (.t 17), none⟩,
      ⟨some 68, .bin .geq (.t 66) (.t 67), none⟩] [0, 1, 3, 4, 10, 11, 12, 13, 17, 68])
   (.cond (.t 68)
     (.skip)
     (.exit 2)))
  (.block 3 (.seq (.reg [⟨some 69, .mv (.t 13), none⟩,
       ⟨some 70, .bin .sub (.t 69) (.k (.sc (.int .i64 1))), none⟩,
       ⟨some 13, .mv (.t 70), none⟩] [0, 1, 3, 4, 10, 11, 12, 13, 17])
    (.seq (.reg [⟨some 71, .mv (.t 1), none⟩,
        ⟨some 72, .mv (.t 17), none⟩,
        ⟨some 73, .bin .quo (.t 71) (.t 72), none⟩,
        ⟨some 18, .mv (.t 73), none⟩] [0, 1, 3, 4, 10, 11, 12, 13, 17, 18])
     (.seq (.reg [⟨some 74, .mv (.t 13), none⟩,
         ⟨some 75, .mv (.t 1), none⟩,
         ⟨some 76, .mv (.t 18), none⟩,
         ⟨some 77, .mv (.t 17), none⟩,
         ⟨some 78, .bin .mul (.t 76) (.t 77), none⟩,
         ⟨some 79, .bin .sub (.t 75) (.t 78), none⟩,
         ⟨some 80, .idxS (.k (.sc (.str ⟨#[48, 49, 50, 51, 52, 53, 54, 55, 56, 57, 97, 98, 99, 100, 101, 102, 103, 104, 105, 106, 107, 108, 109, 110, 111, 112, 113, 114, 115, 116, 117, 118, 119, 120, 121, 122]⟩))) (.t 79), none⟩,
         ⟨some 81, .idxP 65 1 (.t 12) (.t 74), none⟩,
         ⟨none, .st 1 (.t 81) (.t 80), none⟩] [0, 3, 4, 10, 11, 12, 13, 17, 18])
      (.reg [⟨some 82, .mv (.t 18), none⟩,
         ⟨some 1, .mv (.t 82), none⟩] [0, 1, 3, 4, 10, 11, 12, 13, 17])))))
/-- internal/strconv.formatBits -/
def b56 : AC :=
  .seq (.reg [⟨some 10, .mv (.k (.sc .nilS)), none⟩,
     ⟨some 11, .mv (.k (.sc (.str ⟨#[]⟩))), none⟩] [0, 1, 2, 3, 4, 10, 11])
  (.seq (.seq (.reg [⟨some 19, .mv (.t 2), none⟩,
       ⟨some 20, .bin .lss (.t 19) (.k (.sc (.int .i64 2))), none⟩,
       ⟨some 21, .mv (.t 20), none⟩,
       ⟨some 22, .mv (.t 2), (some (21, false))⟩,
       ⟨some 23, .bin .eql (.t 22) (.k (.sc (.int .i64 10))), (some (21, false))⟩,
       ⟨some 24, .pick (.t 21) (.k (.sc (.bool true))) (.t 23), none⟩,
       ⟨some 25, .mv (.t 24), none⟩,
       ⟨some 26, .mv (.t 2), (some (25, false))⟩,
       ⟨some 27, .bin .gtr (.t 26) (.k (.sc (.int .i64 36))), (some (25, false))⟩,
       ⟨some 28, .pick (.t 25) (.k (.sc (.bool true))) (.t 27), none⟩] [0, 1, 2, 3, 4, 10, 11, 28])
    (.cond (.t 28)
      (.reg [⟨some 29, .bad, none⟩,
         ⟨none, .bad, none⟩] [0, 1, 2, 3, 4, 10, 11])
      (.skip)))
   (.seq (.reg [⟨some 12, .new [.int .u8 0, .int .u8 0, .int .u8 0, .int .u8 0, .int .u8 0, .int .u8 0, .int .u8 0, .int .u8 0, .int .u8 0, .int .u8 0, .int .u8 0, .int .u8 0, .int .u8 0, .int .u8 0, .int .u8 0, .int .u8 0, .int .u8 0, .int .u8 0, .int .u8 0, .int .u8 0, .int .u8 0, .int .u8 0, .int .u8 0, .int .u8 0, .int .u8 0, .int .u8 0, .int .u8 0, .int .u8 0, .int .u8 0, .int .u8 0, .int .u8 0, .int .u8 0, .int .u8 0, .int .u8 0, .int .u8 0, .int .u8 0, .int .u8 0, .int .u8 0, .int .u8 0, .int .u8 0, .int .u8 0, .int .u8 0, .int .u8 0, .int .u8 0, .int .u8 0, .int .u8 0, .int .u8 0, .int .u8 0, .int .u8 0, .int .u8 0, .int .u8 0, .int .u8 0, .int .u8 0, .int .u8 0, .int .u8 0, .int .u8 0, .int .u8 0, .int .u8 0, .int .u8 0, .int .u8 0, .int .u8 0, .int .u8 0, .int .u8 0, .int .u8 0, .int .u8 0], none⟩] [0, 1, 2, 3, 4, 10, 11, 12])
    (.seq (.reg [⟨some 13, .mv (.k (.sc (.int .i64 65))), none⟩] [0, 1, 2, 3, 4, 10, 11, 12, 13])
     (.seq (.seq (.reg [⟨some 30, .mv (.t 3), none⟩] [0, 1, 2, 3, 4, 10, 11, 12, 13, 30])
       (.cond (.t 30)
         (.reg [⟨some 31, .mv (.t 1), none⟩,
            ⟨some 32, .un .neg (.t 31), none⟩,
            ⟨some 1, .mv (.t 32), none⟩] [0, 1, 2, 3, 4, 10, 11, 12, 13])
         (.skip)))
      (.seq (.seq (.reg [⟨some 33, .mv (.t 2), none⟩,
           ⟨some 34, .call 64 [(.t 33)], none⟩] [0, 1, 2, 3, 4, 10, 11, 12, 13, 34])
        (.cond (.t 34)
          (.seq (.reg [⟨some 35, .mv (.t 2), none⟩,
              ⟨some 36, .conv .u64 (.t 35), none⟩,
              ⟨some 37, .call 65 [(.t 36)], none⟩,
              ⟨some 38, .conv .u64 (.t 37), none⟩,
              ⟨some 14, .mv (.t 38), none⟩] [0, 1, 2, 3, 4, 10, 11, 12, 13, 14])
           (.seq (.reg [⟨some 39, .mv (.t 2), none⟩,
               ⟨some 40, .conv .u64 (.t 39), none⟩,
               ⟨some 15, .mv (.t 40), none⟩] [0, 1, 2, 3, 4, 10, 11, 12, 13, 14, 15])
            (.seq (.reg [⟨some 41, .mv (.t 2), none⟩,
                ⟨some 42, .conv .u64 (.t 41), none⟩,
                ⟨some 43, .bin .sub (.t 42) (.k (.sc (.int .u64 1))), none⟩,
                ⟨some 16, .mv (.t 43), none⟩] [0, 1, 3, 4, 10, 11, 12, 13, 14, 15, 16])
             (.seq (.block 0 (.loop [0, 1, 3, 4, 10, 11, 12, 13, 14, 15, 16] b56L0))
              (.seq (.reg [⟨some 58, .mv (.t 13), none⟩,
                  ⟨some 59, .bin .sub (.t 58) (.k (.sc (.int .i64 1))), none⟩,
                  ⟨some 13, .mv (.t 59), none⟩] [0, 1, 3, 4, 10, 11, 12, 13])
               (.reg [⟨some 60, .mv (.t 13), none⟩,
                  ⟨some 61, .mv (.t 1), none⟩,
                  ⟨some 62, .idxS (.k (.sc (.str ⟨#[48, 49, 50, 51, 52, 53, 54, 55, 56, 57, 97, 98, 99, 100, 101, 102, 103, 104, 105, 106, 107, 108, 109, 110, 111, 112, 113, 114, 115, 116, 117, 118, 119, 120, 121, 122]⟩))) (.t 61), none⟩,
                  ⟨some 63, .idxP 65 1 (.t 12) (.t 60), none⟩,
                  ⟨none, .st 1 (.t 63) (.t 62), none⟩] [0, 3, 4, 10, 11, 12, 13]))))))
          (.seq (.reg [⟨some 64, .mv (.t 2), none⟩,
              ⟨some 65, .conv .u64 (.t 64), none⟩,
              ⟨some 17, .mv (.t 65), none⟩] [0, 1, 3, 4, 10, 11, 12, 13, 17])
           (.seq (.block 2 (.loop [0, 1, 3, 4, 10, 11, 12, 13, 17] b56L1))
            (.seq (.reg [⟨some 83, .mv (.t 13), none⟩,
                ⟨some 84, .bin .sub (.t 83) (.k (.sc (.int .i64 1))), none⟩,
                ⟨some 13, .mv (.t 84), none⟩] [0, 1, 3, 4, 10, 11, 12, 13])
             (.reg [⟨some 85, .mv (.t 13), none⟩,
                ⟨some 86, .mv (.t 1), none⟩,
                ⟨some 87, .idxS (.k (.sc (.str ⟨#[48, 49, 50, 51, 52, 53, 54, 55, 56, 57, 97, 98, 99, 100, 101, 102, 103, 104, 105, 106, 107, 108, 109, 110, 111, 112, 113, 114, 115, 116, 117, 118, 119, 120, 121, 122]⟩))) (.t 86), none⟩,
                ⟨some 88, .idxP 65 1 (.t 12) (.t 85), none⟩,
                ⟨none, .st 1 (.t 88) (.t 87), none⟩] [0, 3, 4, 10, 11, 12, 13]))))))
       (.seq (.seq (.reg [⟨some 89, .mv (.t 3), none⟩] [0, 4, 10, 11, 12, 13, 89])
         (.cond (.t 89)
           (.seq (.reg [⟨some 90, .mv (.t 13), none⟩,
               ⟨some 91, .bin .sub (.t 90) (.k (.sc (.int .i64 1))), none⟩,
               ⟨some 13, .mv (.t 91), none⟩] [0, 4, 10, 11, 12, 13])
            (.reg [⟨some 92, .mv (.t 13), none⟩,
               ⟨some 93, .idxP 65 1 (.t 12) (.t 92), none⟩,
               ⟨none, .st 1 (.t 93) (.k (.sc (.int .u8 45))), none⟩] [0, 4, 10, 11, 12, 13]))
           (.skip)))
        (.seq (.seq (.reg [⟨some 94, .mv (.t 4), none⟩] [0, 10, 11, 12, 13, 94])
          (.cond (.t 94)
            (.seq (.reg [⟨some 95, .mv (.t 0), none⟩,
                ⟨some 96, .mv (.t 13), none⟩,
                ⟨some 97, .bad, none⟩,
                ⟨some 98, .app ⟨1, some 5⟩ 1 [.int .u8 0] (.t 95) (.t 97), none⟩,
                ⟨some 10, .mv (.t 98), none⟩] [10, 11])
             (.ret))
            (.skip)))
         (.seq (.reg [⟨some 99, .mv (.t 13), none⟩,
             ⟨some 100, .bad, none⟩,
             ⟨some 101, .cbs (.t 100), none⟩,
             ⟨some 11, .mv (.t 101), none⟩] [10, 11])
          (.ret)))))))))
def a56 : AFun := ⟨5, b56, [.t 10, .t 11]⟩

/-- internal/strconv.log10Pow2 -/
def b61 : AC :=
  .seq (.reg [⟨some 2, .mv (.k (.sc (.int .i64 0))), none⟩] [0])
  (.seq (.reg [⟨some 3, .mv (.t 0), none⟩,
      ⟨some 4, .bin .mul (.t 3) (.k (.sc (.int .i64 78913))), none⟩,
      ⟨some 5, .bin .shr (.t 4) (.k (.sc (.int .u64 18))), none⟩,
      ⟨some 2, .mv (.t 5), none⟩] [2])
   (.ret))
def a61 : AFun := ⟨1, b61, [.t 2]⟩

/-- math/bits.Len64 -/
def b62 : AC :=
  .seq (.reg [⟨some 2, .mv (.k (.sc (.int .i64 0))), none⟩] [0, 2])
  (.seq (.seq (.reg [⟨some 3, .mv (.t 0), none⟩,
       ⟨some 4, .bin .geq (.t 3) (.k (.sc (.int .u64 4294967296))), none⟩] [0, 2, 4])
    (.cond (.t 4)
      (.seq (.reg [⟨some 5, .mv (.t 0), none⟩,
          ⟨some 6, .bin .shr (.t 5) (.k (.sc (.int .u64 32))), none⟩,
          ⟨some 0, .mv (.t 6), none⟩] [0])
       (.reg [⟨some 2, .mv (.k (.sc (.int .i64 32))), none⟩] [0, 2]))
      (.skip)))
   (.seq (.seq (.reg [⟨some 7, .mv (.t 0), none⟩,
        ⟨some 8, .bin .geq (.t 7) (.k (.sc (.int .u64 65536))), none⟩] [0, 2, 8])
     (.cond (.t 8)
       (.seq (.reg [⟨some 9, .mv (.t 0), none⟩,
           ⟨some 10, .bin .shr (.t 9) (.k (.sc (.int .u64 16))), none⟩,
           ⟨some 0, .mv (.t 10), none⟩] [0, 2])
        (.reg [⟨some 11, .mv (.t 2), none⟩,
           ⟨some 12, .bin .add (.t 11) (.k (.sc (.int .i64 16))), none⟩,
           ⟨some 2, .mv (.t 12), none⟩] [0, 2]))
       (.skip)))
    (.seq (.seq (.reg [⟨some 13, .mv (.t 0), none⟩,
         ⟨some 14, .bin .geq (.t 13) (.k (.sc (.int .u64 256))), none⟩] [0, 2, 14])
      (.cond (.t 14)
        (.seq (.reg [⟨some 15, .mv (.t 0), none⟩,
            ⟨some 16, .bin .shr (.t 15) (.k (.sc (.int .u64 8))), none⟩,
            ⟨some 0, .mv (.t 16), none⟩] [0, 2])
         (.reg [⟨some 17, .mv (.t 2), none⟩,
            ⟨some 18, .bin .add (.t 17) (.k (.sc (.int .i64 8))), none⟩,
            ⟨some 2, .mv (.t 18), none⟩] [0, 2]))
        (.skip)))
     (.seq (.reg [⟨some 19, .mv (.t 2), none⟩,
         ⟨some 20, .mv (.t 0), none⟩,
         ⟨some 21, .conv .u8 (.t 20), none⟩,
         ⟨some 22, .idxS (.k (.sc (.str ⟨#[0, 1, 2, 2, 3, 3, 3, 3, 4, 4, 4, 4, 4, 4, 4, 4, 5, 5, 5, 5, 5, 5, 5, 5, 5, 5, 5, 5, 5, 5, 5, 5, 6, 6, 6, 6, 6, 6, 6, 6, 6, 6, 6, 6, 6, 6, 6, 6, 6, 6, 6, 6, 6, 6, 6, 6, 6, 6, 6, 6, 6, 6, 6, 6, 7, 7, 7, 7, 7, 7, 7, 7, 7, 7, 7, 7, 7, 7, 7, 7, 7, 7, 7, 7, 7, 7, 7, 7, 7, 7, 7, 7, 7, 7, 7, 7, 7, 7, 7, 7, 7, 7, 7, 7, 7, 7, 7, 7, 7, 7, 7, 7, 7, 7, 7, 7, 7, 7, 7, 7, 7, 7, 7, 7, 7, 7, 7, 7, 8, 8, 8, 8, 8, 8, 8, 8, 8, 8, 8, 8, 8, 8, 8, 8, 8, 8, 8, 8, 8, 8, 8, 8, 8, 8, 8, 8, 8, 8, 8, 8, 8, 8, 8, 8, 8, 8, 8, 8, 8, 8, 8, 8, 8, 8, 8, 8, 8, 8, 8, 8, 8, 8, 8, 8, 8, 8, 8, 8, 8, 8, 8, 8, 8, 8, 8, 8, 8, 8, 8, 8, 8, 8, 8, 8, 8, 8, 8, 8, 8, 8, 8, 8, 8, 8, 8, 8, 8, 8, 8, 8, 8, 8, 8, 8, 8, 8, 8, 8, 8, 8, 8, 8, 8, 8, 8, 8, 8, 8, 8, 8, 8, 8, 8, 8, 8, 8, 8, 8, 8, 8, 8, 8, 8, 8, 8, 8]⟩))) (.t 21), none⟩,
         ⟨some 23, .conv .i64 (.t 22), none⟩,
         ⟨some 24, .bin .add (.t 19) (.t 23), none⟩,
         ⟨some 2, .mv (.t 24), none⟩] [2])
      (.ret)))))
def a62 : AFun := ⟨1, b62, [.t 2]⟩

/-- internal/strconv.bool2[int] -/
def b63 : AC :=
  .seq (.reg [⟨some 2, .mv (.k (.sc (.int .i64 0))), none⟩] [0])
  (.seq (.seq (.reg [⟨some 3, .mv (.t 0), none⟩] [3])
    (.cond (.t 3)
      (.seq (.reg [⟨some 2, .mv (.k (.sc (.int .i64 1))), none⟩] [2])
       (.ret))
      (.skip)))
   (.seq (.reg [⟨some 2, .mv (.k (.sc (.int .i64 0))), none⟩] [2])
    (.ret)))
def a63 : AFun := ⟨1, b63, [.t 2]⟩

/-- internal/strconv.isPowerOfTwo -/
def b64 : AC :=
  .seq (.reg [⟨some 2, .mv (.k (.sc (.bool false))), none⟩] [0])
  (.seq (.reg [⟨some 3, .mv (.t 0), none⟩,
      ⟨some 4, .mv (.t 0), none⟩,
      ⟨some 5, .bin .sub (.t 4) (.k (.sc (.int .i64 1))), none⟩,
      ⟨some 6, .bin .and (.t 3) (.t 5), none⟩,
      ⟨some 7, .bin .eql (.t 6) (.k (.sc (.int .i64 0))), none⟩,
      ⟨some 2, .mv (.t 7), none⟩] [2])
   (.ret))
def a64 : AFun := ⟨1, b64, [.t 2]⟩

/-- math/bits.TrailingZeros -/
def b65 : AC :=
  .seq (.reg [⟨some 2, .mv (.k (.sc (.int .i64 0))), none⟩] [0])
  (.seq (.cond (.k (.sc (.bool false)))
     (.seq (.reg [⟨some 3, .mv (.t 0), none⟩,
         ⟨some 4, .conv .u32 (.t 3), none⟩,
         ⟨some 5, .call 71 [(.t 4)], none⟩,
         ⟨some 2, .mv (.t 5), none⟩] [2])
      (.ret))
     (.skip))
   (.seq (.reg [⟨some 6, .mv (.t 0), none⟩,
       ⟨some 7, .call 72 [(.t 6)], none⟩,
       ⟨some 2, .mv (.t 7), none⟩] [2])
    (.ret)))
def a65 : AFun := ⟨1, b65, [.t 2]⟩

/-- math/bits.TrailingZeros32 -/
def b71 : AC :=
  .seq (.reg [⟨some 2, .mv (.k (.sc (.int .i64 0))), none⟩] [0])
  (.seq (.seq (.reg [⟨some 3, .mv (.t 0), none⟩,
       ⟨some 4, .bin .eql (.t 3) (.k (.sc (.int .u32 0))), none⟩] [0, 4])
    (.cond (.t 4)
      (.seq (.reg [⟨some 2, .mv (.k (.sc (.int .i64 32))), none⟩] [2])
       (.ret))
      (.skip)))
   (.seq (.reg [⟨some 5, .mv (.t 0), none⟩,
       ⟨some 6, .mv (.t 0), none⟩,
       ⟨some 7, .un .neg (.t 6), none⟩,
       ⟨some 8, .bin .and (.t 5) (.t 7), none⟩,
       ⟨some 9, .bin .mul (.t 8) (.k (.sc (.int .u32 125613361))), none⟩,
       ⟨some 10, .bin .shr (.t 9) (.k (.sc (.int .u64 27))), none⟩,
       ⟨some 11, .bad, none⟩,
       ⟨some 12, .ld 1 false (.t 11), none⟩,
       ⟨some 13, .conv .i64 (.t 12), none⟩,
       ⟨some 2, .mv (.t 13), none⟩] [2])
    (.ret)))
def a71 : AFun := ⟨1, b71, [.t 2]⟩

/-- math/bits.TrailingZeros64 -/
def b72 : AC :=
  .seq (.reg [⟨some 2, .mv (.k (.sc (.int .i64 0))), none⟩] [0])
  (.seq (.seq (.reg [⟨some 3, .mv (.t 0), none⟩,
       ⟨some 4, .bin .eql (.t 3) (.k (.sc (.int .u64 0))), none⟩] [0, 4])
    (.cond (.t 4)
      (.seq (.reg [⟨some 2, .mv (.k (.sc (.int .i64 64))), none⟩] [2])
       (.ret))
      (.skip)))
   (.seq (.reg [⟨some 5, .mv (.t 0), none⟩,
       ⟨some 6, .mv (.t 0), none⟩,
       ⟨some 7, .un .neg (.t 6), none⟩,
       ⟨some 8, .bin .and (.t 5) (.t 7), none⟩,
       ⟨some 9, .bin .mul (.t 8) (.k (.sc (.int .u64 285870213051353865))), none⟩,
       ⟨some 10, .bin .shr (.t 9) (.k (.sc (.int .u64 58))), none⟩,
       ⟨some 11, .bad, none⟩,
       ⟨some 12, .ld 1 false (.t 11), none⟩,
       ⟨some 13, .conv .i64 (.t 12), none⟩,
       ⟨some 2, .mv (.t 13), none⟩] [2])
    (.ret)))
def a72 : AFun := ⟨1, b72, [.t 2]⟩

def FT : FuncId → Option AFun
  | 8 => some a8
  | 12 => some a12
  | 13 => some a13
  | 14 => some a14
  | 15 => some a15
  | 16 => some a16
  | 17 => some a17
  | 18 => some a18
  | 20 => some a20
  | 21 => some a21
  | 23 => some a23
  | 26 => some a26
  | 27 => some a27
  | 29 => some a29
  | 32 => some a32
  | 33 => some a33
  | 35 => some a35
  | 37 => some a37
  | 38 => some a38
  | 39 => some a39
  | 40 => some a40
  | 46 => some a46
  | 49 => some a49
  | 53 => some a53
  | 54 => some a54
  | 55 => some a55
  | 56 => some a56
  | 61 => some a61
  | 62 => some a62
  | 63 => some a63
  | 64 => some a64
  | 65 => some a65
  | 71 => some a71
  | 72 => some a72
  | _ => none

theorem ok8 : okFun Tryd.prog a8 Tryd.f8 = true := by kernel_rfl
theorem ok12 : okFun Tryd.prog a12 Tryd.f12 = true := by kernel_rfl
theorem ok13 : okFun Tryd.prog a13 Tryd.f13 = true := by kernel_rfl
theorem ok14 : okFun Tryd.prog a14 Tryd.f14 = true := by kernel_rfl
theorem ok15 : okFun Tryd.prog a15 Tryd.f15 = true := by kernel_rfl
theorem ok16 : okFun Tryd.prog a16 Tryd.f16 = true := by kernel_rfl
theorem ok17 : okFun Tryd.prog a17 Tryd.f17 = true := by kernel_rfl
theorem ok18 : okFun Tryd.prog a18 Tryd.f18 = true := by kernel_rfl
theorem ok20 : okFun Tryd.prog a20 Tryd.f20 = true := by kernel_rfl
theorem ok21 : okFun Tryd.prog a21 Tryd.f21 = true := by kernel_rfl
theorem ok23 : okFun Tryd.prog a23 Tryd.f23 = true := by kernel_rfl
theorem ok26 : okFun Tryd.prog a26 Tryd.f26 = true := by kernel_rfl
theorem ok27 : okFun Tryd.prog a27 Tryd.f27 = true := by kernel_rfl
theorem ok29 : okFun Tryd.prog a29 Tryd.f29 = true := by kernel_rfl
theorem ok32 : okFun Tryd.prog a32 Tryd.f32 = true := by kernel_rfl
theorem ok33 : okFun Tryd.prog a33 Tryd.f33 = true := by kernel_rfl
theorem ok35 : okFun Tryd.prog a35 Tryd.f35 = true := by kernel_rfl
theorem ok37 : okFun Tryd.prog a37 Tryd.f37 = true := by kernel_rfl
theorem ok38 : okFun Tryd.prog a38 Tryd.f38 = true := by kernel_rfl
theorem ok39 : okFun Tryd.prog a39 Tryd.f39 = true := by kernel_rfl
theorem ok40 : okFun Tryd.prog a40 Tryd.f40 = true := by kernel_rfl
theorem ok46 : okFun Tryd.prog a46 Tryd.f46 = true := by kernel_rfl
theorem ok49 : okFun Tryd.prog a49 Tryd.f49 = true := by kernel_rfl
theorem ok53 : okFun Tryd.prog a53 Tryd.f53 = true := by kernel_rfl
theorem ok54 : okFun Tryd.prog a54 Tryd.f54 = true := by kernel_rfl
theorem ok55 : okFun Tryd.prog a55 Tryd.f55 = true := by kernel_rfl
theorem ok56 : okFun Tryd.prog a56 Tryd.f56 = true := by kernel_rfl
theorem ok61 : okFun Tryd.prog a61 Tryd.f61 = true := by kernel_rfl
theorem ok62 : okFun Tryd.prog a62 Tryd.f62 = true := by kernel_rfl
theorem ok63 : okFun Tryd.prog a63 Tryd.f63 = true := by kernel_rfl
theorem ok64 : okFun Tryd.prog a64 Tryd.f64 = true := by kernel_rfl
theorem ok65 : okFun Tryd.prog a65 Tryd.f65 = true := by kernel_rfl
theorem ok71 : okFun Tryd.prog a71 Tryd.f71 = true := by kernel_rfl
theorem ok72 : okFun Tryd.prog a72 Tryd.f72 = true := by kernel_rfl
theorem mixed : Tryd.prog.follows .mixedOrders = true := by kernel_rfl
theorem ft_ok : FTok Tryd.prog FT := by
  refine ⟨mixed, fun f F h => ?_⟩
  unfold FT at h
  split at h
  · simp at h; subst h; exact ⟨_, Tryd.func8, ok8⟩
  · simp at h; subst h; exact ⟨_, Tryd.func12, ok12⟩
  · simp at h; subst h; exact ⟨_, Tryd.func13, ok13⟩
  · simp at h; subst h; exact ⟨_, Tryd.func14, ok14⟩
  · simp at h; subst h; exact ⟨_, Tryd.func15, ok15⟩
  · simp at h; subst h; exact ⟨_, Tryd.func16, ok16⟩
  · simp at h; subst h; exact ⟨_, Tryd.func17, ok17⟩
  · simp at h; subst h; exact ⟨_, Tryd.func18, ok18⟩
  · simp at h; subst h; exact ⟨_, Tryd.func20, ok20⟩
  · simp at h; subst h; exact ⟨_, Tryd.func21, ok21⟩
  · simp at h; subst h; exact ⟨_, Tryd.func23, ok23⟩
  · simp at h; subst h; exact ⟨_, Tryd.func26, ok26⟩
  · simp at h; subst h; exact ⟨_, Tryd.func27, ok27⟩
  · simp at h; subst h; exact ⟨_, Tryd.func29, ok29⟩
  · simp at h; subst h; exact ⟨_, Tryd.func32, ok32⟩
  · simp at h; subst h; exact ⟨_, Tryd.func33, ok33⟩
  · simp at h; subst h; exact ⟨_, Tryd.func35, ok35⟩
  · simp at h; subst h; exact ⟨_, Tryd.func37, ok37⟩
  · simp at h; subst h; exact ⟨_, Tryd.func38, ok38⟩
  · simp at h; subst h; exact ⟨_, Tryd.func39, ok39⟩
  · simp at h; subst h; exact ⟨_, Tryd.func40, ok40⟩
  · simp at h; subst h; exact ⟨_, Tryd.func46, ok46⟩
  · simp at h; subst h; exact ⟨_, Tryd.func49, ok49⟩
  · simp at h; subst h; exact ⟨_, Tryd.func53, ok53⟩
  · simp at h; subst h; exact ⟨_, Tryd.func54, ok54⟩
  · simp at h; subst h; exact ⟨_, Tryd.func55, ok55⟩
  · simp at h; subst h; exact ⟨_, Tryd.func56, ok56⟩
  · simp at h; subst h; exact ⟨_, Tryd.func61, ok61⟩
  · simp at h; subst h; exact ⟨_, Tryd.func62, ok62⟩
  · simp at h; subst h; exact ⟨_, Tryd.func63, ok63⟩
  · simp at h; subst h; exact ⟨_, Tryd.func64, ok64⟩
  · simp at h; subst h; exact ⟨_, Tryd.func65, ok65⟩
  · simp at h; subst h; exact ⟨_, Tryd.func71, ok71⟩
  · simp at h; subst h; exact ⟨_, Tryd.func72, ok72⟩
  · simp at h
end Go.Proofs.YtgmfjhmphiiifaaDoor
