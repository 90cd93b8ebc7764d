/- The annotated code of this seat, printed by program (mkseat.py). -/
import Derived.Test.YtehnalbdfnmphaaDoorProg
import Derived.KernelRfl
import Derived.Test.YtehnalbdfnmphaaDoorAb17
namespace Go.Proofs.YtehnalbdfnmphaaDoor
open Go.Ab

/-- unravel/unravellaw03.PlanarParses -/
def b7 : AC :=
  .seq (.reg [⟨some 2, .mv (.k (.sc (.bool false))), none⟩] [0])
  (.seq (.seq (.reg [⟨some 7, .call 11 [], none⟩,
       ⟨some 8, .un .not (.t 7), none⟩] [0, 8])
    (.cond (.t 8)
      (.seq (.reg [⟨some 2, .mv (.k (.sc (.bool false))), none⟩] [2])
       (.ret))
      (.skip)))
   (.seq (.seq (.reg [⟨some 9, .mv (.t 0), none⟩,
        ⟨some 10, .len true (.t 9), none⟩,
        ⟨some 11, .bin .gtr (.t 10) (.k (.sc (.int .i64 4000))), none⟩,
        ⟨some 12, .mv (.t 11), none⟩,
        ⟨some 13, .mv (.t 0), (some (12, true))⟩,
        ⟨some 14, .len true (.t 13), (some (12, true))⟩,
        ⟨some 15, .bin .leq (.t 14) (.k (.sc (.int .i64 65536))), (some (12, true))⟩,
        ⟨some 16, .pick (.t 12) (.t 15) (.k (.sc (.bool false))), none⟩] [0, 16])
     (.cond (.t 16)
       (.seq (.reg [⟨some 2, .mv (.k (.sc (.bool true))), none⟩] [2])
        (.ret))
       (.skip)))
    (.seq (.reg [⟨some 18, .mv (.t 0), none⟩,
        ⟨some 19, .call 22 [(.t 18)], none⟩,
        ⟨some 17, .mv (.t 19), none⟩,
        ⟨some 20, .ext (.t 17) 0, none⟩,
        ⟨some 21, .ext (.t 17) 1, none⟩,
        ⟨some 3, .new [.nilS, .nilS, .int .i64 0], none⟩,
        ⟨none, .st 3 (.t 3) (.t 20), none⟩,
        ⟨some 4, .mv (.t 21), none⟩] [0, 3, 4])
     (.seq (.reg [⟨some 23, .mv (.t 0), none⟩,
         ⟨some 24, .call 23 [(.t 23)], none⟩,
         ⟨some 22, .mv (.t 24), none⟩,
         ⟨some 25, .ext (.t 22) 0, none⟩,
         ⟨some 26, .ext (.t 22) 1, none⟩,
         ⟨some 5, .new [.nilS, .nilS, .int .i64 0], none⟩,
         ⟨none, .st 3 (.t 5) (.t 25), none⟩,
         ⟨some 6, .mv (.t 26), none⟩] [3, 4, 5, 6])
      (.seq (.reg [⟨some 27, .mv (.t 4), none⟩,
          ⟨some 28, .mv (.t 6), none⟩,
          ⟨some 29, .bin .eql (.t 27) (.t 28), none⟩,
          ⟨some 30, .mv (.t 29), none⟩,
          ⟨some 31, .ld 3 true (.t 3), (some (30, true))⟩,
          ⟨some 32, .ld 3 true (.t 5), (some (30, true))⟩,
          ⟨some 33, .call 19 [(.t 31), (.t 32)], (some (30, true))⟩,
          ⟨some 34, .pick (.t 30) (.t 33) (.k (.sc (.bool false))), none⟩,
          ⟨some 2, .mv (.t 34), none⟩] [2])
       (.ret))))))
def a7 : AFun := ⟨1, b7, [.t 2]⟩

/-- unravel/unravellaw03.awake -/
def b11 : AC :=
  .seq (.reg [⟨some 0, .mv (.k (.sc (.bool false))), none⟩] [])
  (.seq (.reg [⟨some 6, .call 30 [], none⟩,
      ⟨some 7, .call 12 [(.t 6)], none⟩,
      ⟨some 5, .mv (.t 7), none⟩,
      ⟨some 8, .ext (.t 5) 0, none⟩,
      ⟨some 9, .ext (.t 5) 1, none⟩,
      ⟨some 1, .mv (.t 8), none⟩,
      ⟨some 2, .mv (.t 9), none⟩] [1, 2])
   (.seq (.reg [⟨some 11, .call 30 [], none⟩,
       ⟨some 12, .call 15 [(.t 11)], none⟩,
       ⟨some 10, .mv (.t 12), none⟩,
       ⟨some 13, .ext (.t 10) 0, none⟩,
       ⟨some 14, .ext (.t 10) 1, none⟩,
       ⟨some 3, .mv (.t 13), none⟩,
       ⟨some 4, .mv (.t 14), none⟩] [1, 2, 3, 4])
    (.seq (.reg [⟨some 15, .mv (.t 2), none⟩,
        ⟨some 16, .bin .eql (.t 15) (.k (.sc (.int .i64 0))), none⟩,
        ⟨some 17, .mv (.t 16), none⟩,
        ⟨some 18, .mv (.t 4), (some (17, true))⟩,
        ⟨some 19, .bin .eql (.t 18) (.k (.sc (.int .i64 0))), (some (17, true))⟩,
        ⟨some 20, .pick (.t 17) (.t 19) (.k (.sc (.bool false))), none⟩,
        ⟨some 21, .mv (.t 20), none⟩,
        ⟨some 22, .mv (.t 1), (some (21, true))⟩,
        ⟨some 23, .bin .eql (.t 22) (.k (.sc (.str ⟨#[43, 32, 49, 32, 49, 32, 50, 32, 50, 10, 108, 111, 111, 112, 115, 32, 48, 10]⟩))), (some (21, true))⟩,
        ⟨some 24, .pick (.t 21) (.t 23) (.k (.sc (.bool false))), none⟩,
        ⟨some 25, .mv (.t 24), none⟩,
        ⟨some 26, .mv (.t 3), (some (25, true))⟩,
        ⟨some 27, .cbs (.t 26), (some (25, true))⟩,
        ⟨some 28, .bin .eql (.t 27) (.k (.sc (.str ⟨#[1, 0, 1, 0, 3]⟩))), (some (25, true))⟩,
        ⟨some 29, .pick (.t 25) (.t 28) (.k (.sc (.bool false))), none⟩,
        ⟨some 0, .mv (.t 29), none⟩] [0])
     (.ret))))
def a11 : AFun := ⟨0, b11, [.t 0]⟩

def b12L1 : AC :=
  .seq (.reg [⟨some 31, .bin .lss (.t 30) (.t 29), none⟩] [1, 4, 5, 22, 23, 24, 28, 29, 30, 31])
  (.seq (.cond (.t 31)
     (.skip)
     (.exit 2))
   (.seq (.block 3 (.seq (.reg [⟨some 32, .idxA 1 (.t 28) (.t 30), none⟩,
         ⟨some 33, .ld 1 false (.t 32), none⟩,
         ⟨some 9, .mv (.t 33), none⟩] [1, 4, 5, 9, 22, 23, 24, 28, 29, 30])
      (.seq (.reg [⟨some 34, .mv (.t 4), none⟩,
          ⟨some 35, .mv (.t 9), none⟩,
          ⟨some 36, .mv (.t 5), none⟩,
          ⟨some 37, .idxA 1 (.t 34) (.t 35), none⟩,
          ⟨none, .st 1 (.t 37) (.t 36), none⟩] [1, 4, 5, 9, 22, 23, 24, 28, 29, 30])
       (.seq (.reg [⟨some 38, .mv (.t 4), none⟩,
           ⟨some 39, .fldA 1 (.t 1), none⟩,
           ⟨some 40, .ld 1 false (.t 39), none⟩,
           ⟨some 41, .mv (.t 9), none⟩,
           ⟨some 42, .idxA 1 (.t 40) (.t 41), none⟩,
           ⟨some 43, .ld 1 false (.t 42), none⟩,
           ⟨some 44, .mv (.t 5), none⟩,
           ⟨some 45, .idxA 1 (.t 38) (.t 43), none⟩,
           ⟨none, .st 1 (.t 45) (.t 44), none⟩] [1, 4, 5, 22, 23, 24, 28, 29, 30])
        (.reg [⟨some 46, .mv (.t 5), none⟩,
           ⟨some 47, .bin .add (.t 46) (.k (.sc (.int .i64 1))), none⟩,
           ⟨some 5, .mv (.t 47), none⟩] [1, 4, 5, 22, 23, 24, 28, 29, 30])))))
    (.reg [⟨some 48, .bin .add (.t 30) (.k (.sc (.int .i64 1))), none⟩,
       ⟨some 30, .mv (.t 48), none⟩] [1, 4, 5, 22, 23, 24, 28, 29, 30])))
def b12L0 : AC :=
  .seq (.reg [⟨some 25, .bin .lss (.t 24) (.t 23), none⟩] [1, 4, 5, 22, 23, 24, 25])
  (.seq (.cond (.t 25)
     (.skip)
     (.exit 0))
   (.seq (.block 1 (.seq (.reg [⟨some 26, .idxA 1 (.t 22) (.t 24), none⟩,
         ⟨some 27, .ld 1 false (.t 26), none⟩,
         ⟨some 7, .mv (.t 27), none⟩] [1, 4, 5, 7, 22, 23, 24])
      (.seq (.reg [⟨some 28, .mv (.t 7), none⟩,
          ⟨some 29, .len false (.t 28), none⟩,
          ⟨some 30, .mv (.k (.sc (.int .i64 0))), none⟩] [1, 4, 5, 22, 23, 24, 28, 29, 30])
       (.block 2 (.loop [1, 4, 5, 22, 23, 24, 28, 29, 30] b12L1)))))
    (.reg [⟨some 49, .bin .add (.t 24) (.k (.sc (.int .i64 1))), none⟩,
       ⟨some 24, .mv (.t 49), none⟩] [1, 4, 5, 22, 23, 24])))
def b12L3 : AC :=
  .seq (.reg [⟨some 63, .bin .lss (.t 62) (.k (.sc (.int .i64 4))), none⟩] [1, 4, 10, 11, 51, 52, 53, 62, 63])
  (.seq (.cond (.t 63)
     (.skip)
     (.exit 6))
   (.seq (.block 7 (.seq (.reg [⟨some 64, .mv (.t 62), none⟩,
         ⟨some 13, .mv (.t 64), none⟩] [1, 4, 10, 11, 13, 51, 52, 53, 62])
      (.seq (.reg [⟨some 65, .call 31 [(.t 10), (.k (.sc (.int .u8 32)))], none⟩] [1, 4, 10, 11, 13, 51, 52, 53, 62])
       (.reg [⟨some 66, .mv (.t 4), none⟩,
          ⟨some 67, .mv (.t 11), none⟩,
          ⟨some 68, .bin .mul (.k (.sc (.int .i64 4))) (.t 67), none⟩,
          ⟨some 69, .mv (.t 13), none⟩,
          ⟨some 70, .bin .add (.t 68) (.t 69), none⟩,
          ⟨some 71, .idxA 1 (.t 66) (.t 70), none⟩,
          ⟨some 72, .ld 1 false (.t 71), none⟩,
          ⟨some 73, .call 26 [(.t 72)], none⟩,
          ⟨some 74, .call 32 [(.t 10), (.t 73)], none⟩] [1, 4, 10, 11, 51, 52, 53, 62]))))
    (.reg [⟨some 75, .bin .add (.t 62) (.k (.sc (.int .i64 1))), none⟩,
       ⟨some 62, .mv (.t 75), none⟩] [1, 4, 10, 11, 51, 52, 53, 62])))
def b12L2 : AC :=
  .seq (.reg [⟨some 54, .bin .lss (.t 53) (.t 52), none⟩] [1, 4, 10, 51, 52, 53, 54])
  (.seq (.cond (.t 54)
     (.skip)
     (.exit 4))
   (.seq (.block 5 (.seq (.reg [⟨some 55, .mv (.t 53), none⟩,
         ⟨some 56, .idxA 1 (.t 51) (.t 53), none⟩,
         ⟨some 57, .ld 1 false (.t 56), none⟩,
         ⟨some 11, .mv (.t 55), none⟩,
         ⟨some 12, .mv (.t 57), none⟩] [1, 4, 10, 11, 12, 51, 52, 53])
      (.seq (.seq (.reg [⟨some 58, .mv (.t 12), none⟩,
           ⟨some 59, .bin .eql (.t 58) (.k (.sc (.int .i64 1))), none⟩] [1, 4, 10, 11, 51, 52, 53, 59])
        (.cond (.t 59)
          (.reg [⟨some 60, .call 31 [(.t 10), (.k (.sc (.int .u8 43)))], none⟩] [1, 4, 10, 11, 51, 52, 53])
          (.reg [⟨some 61, .call 31 [(.t 10), (.k (.sc (.int .u8 45)))], none⟩] [1, 4, 10, 11, 51, 52, 53])))
       (.seq (.seq (.reg [⟨some 62, .mv (.k (.sc (.int .i64 0))), none⟩] [1, 4, 10, 11, 51, 52, 53, 62])
         (.block 6 (.loop [1, 4, 10, 11, 51, 52, 53, 62] b12L3)))
        (.reg [⟨some 76, .call 31 [(.t 10), (.k (.sc (.int .u8 10)))], none⟩] [1, 4, 10, 51, 52, 53])))))
    (.reg [⟨some 77, .bin .add (.t 53) (.k (.sc (.int .i64 1))), none⟩,
       ⟨some 53, .mv (.t 77), none⟩] [1, 4, 10, 51, 52, 53])))
/-- unravel/planar.Format -/
def b12 : AC :=
  .seq (.reg [⟨some 1, .box (.t 0), none⟩,
     ⟨some 2, .mv (.k (.sc (.str ⟨#[]⟩))), none⟩,
     ⟨some 3, .mv (.k (.sc (.int .i64 0))), none⟩] [1])
  (.seq (.seq (.reg [⟨some 14, .ld 3 true (.t 1), none⟩,
       ⟨some 15, .call 20 [(.t 14)], none⟩,
       ⟨some 16, .un .not (.t 15), none⟩] [1, 16])
    (.cond (.t 16)
      (.seq (.reg [⟨some 2, .mv (.k (.sc (.str ⟨#[]⟩))), none⟩,
          ⟨some 3, .mv (.k (.sc (.int .i64 1))), none⟩] [2, 3])
       (.ret))
      (.skip)))
   (.seq (.reg [⟨some 17, .fldA 1 (.t 1), none⟩,
       ⟨some 18, .ld 1 false (.t 17), none⟩,
       ⟨some 19, .len false (.t 18), none⟩,
       ⟨some 20, .mk 1 8 [.int .i64 0] (.t 19) (.t 19), none⟩,
       ⟨some 4, .mv (.t 20), none⟩] [1, 4])
    (.seq (.reg [⟨some 5, .mv (.k (.sc (.int .i64 1))), none⟩] [1, 4, 5])
     (.seq (.seq (.reg [⟨some 21, .ld 3 true (.t 1), none⟩,
          ⟨some 22, .call 25 [(.t 21)], none⟩,
          ⟨some 23, .len false (.t 22), none⟩,
          ⟨some 24, .mv (.k (.sc (.int .i64 0))), none⟩] [1, 4, 5, 22, 23, 24])
       (.block 0 (.loop [1, 4, 5, 22, 23, 24] b12L0)))
      (.seq (.reg [⟨some 10, .newT 60 [.nilP, .nilS], none⟩] [1, 4, 10])
       (.seq (.seq (.reg [⟨some 50, .fldA 0 (.t 1), none⟩,
            ⟨some 51, .ld 1 false (.t 50), none⟩,
            ⟨some 52, .len false (.t 51), none⟩,
            ⟨some 53, .mv (.k (.sc (.int .i64 0))), none⟩] [1, 4, 10, 51, 52, 53])
         (.block 4 (.loop [1, 4, 10, 51, 52, 53] b12L2)))
        (.seq (.reg [⟨some 78, .call 32 [(.t 10), (.k (.sc (.str ⟨#[108, 111, 111, 112, 115, 32]⟩)))], none⟩] [1, 10])
         (.seq (.reg [⟨some 79, .fldA 2 (.t 1), none⟩,
             ⟨some 80, .ld 1 false (.t 79), none⟩,
             ⟨some 81, .call 26 [(.t 80)], none⟩,
             ⟨some 82, .call 32 [(.t 10), (.t 81)], none⟩] [10])
          (.seq (.reg [⟨some 83, .call 31 [(.t 10), (.k (.sc (.int .u8 10)))], none⟩] [10])
           (.seq (.reg [⟨some 84, .call 33 [(.t 10)], none⟩,
               ⟨some 2, .mv (.t 84), none⟩,
               ⟨some 3, .mv (.k (.sc (.int .i64 0))), none⟩] [2, 3])
            (.ret)))))))))))
def a12 : AFun := ⟨1, b12, [.t 2, .t 3]⟩

def b13L0 : AC :=
  .seq (.seq (.reg [⟨some 37, .mv (.t 4), none⟩,
      ⟨some 38, .mv (.t 3), none⟩,
      ⟨some 39, .bin .lss (.t 37) (.t 38), none⟩] [1, 3, 4, 39])
   (.cond (.t 39)
     (.skip)
     (.exit 0)))
  (.seq (.block 1 (.seq (.reg [⟨some 42, .fldA 0 (.t 1), none⟩,
        ⟨some 43, .ld 1 false (.t 42), none⟩,
        ⟨some 44, .mv (.t 4), none⟩,
        ⟨some 45, .idxA 1 (.t 43) (.t 44), none⟩,
        ⟨some 46, .ld 1 false (.t 45), none⟩,
        ⟨some 47, .bin .neq (.t 46) (.k (.sc (.int .i64 1))), none⟩,
        ⟨some 48, .mv (.t 47), none⟩,
        ⟨some 49, .fldA 0 (.t 1), (some (48, true))⟩,
        ⟨some 50, .ld 1 false (.t 49), (some (48, true))⟩,
        ⟨some 51, .mv (.t 4), (some (48, true))⟩,
        ⟨some 52, .idxA 1 (.t 50) (.t 51), (some (48, true))⟩,
        ⟨some 53, .ld 1 false (.t 52), (some (48, true))⟩,
        ⟨some 54, .bin .neq (.t 53) (.k (.sc (.int .i64 (-1)))), (some (48, true))⟩,
        ⟨some 55, .pick (.t 48) (.t 54) (.k (.sc (.bool false))), none⟩] [1, 3, 4, 55])
     (.cond (.t 55)
       (.seq (.reg [⟨some 2, .mv (.k (.sc (.bool false))), none⟩] [2])
        (.ret))
       (.skip))))
   (.reg [⟨some 40, .mv (.t 4), none⟩,
      ⟨some 41, .bin .add (.t 40) (.k (.sc (.int .i64 1))), none⟩,
      ⟨some 4, .mv (.t 41), none⟩] [1, 3, 4]))
def b13L1 : AC :=
  .seq (.seq (.reg [⟨some 56, .mv (.t 5), none⟩,
      ⟨some 57, .mv (.t 3), none⟩,
      ⟨some 58, .bin .mul (.k (.sc (.int .i64 4))) (.t 57), none⟩,
      ⟨some 59, .bin .lss (.t 56) (.t 58), none⟩] [1, 3, 5, 59])
   (.cond (.t 59)
     (.skip)
     (.exit 2)))
  (.seq (.block 3 (.seq (.reg [⟨some 62, .fldA 1 (.t 1), none⟩,
        ⟨some 63, .ld 1 false (.t 62), none⟩,
        ⟨some 64, .mv (.t 5), none⟩,
        ⟨some 65, .idxA 1 (.t 63) (.t 64), none⟩,
        ⟨some 66, .ld 1 false (.t 65), none⟩,
        ⟨some 6, .mv (.t 66), none⟩] [1, 3, 5, 6])
     (.seq (.regd [(⟨some 67, .mv (.t 6), none⟩, 0, false),
         (⟨some 68, .bin .lss (.t 67) (.k (.sc (.int .i64 0))), none⟩, 1, false),
         (⟨some 69, .mv (.t 68), none⟩, 2, false),
         (⟨some 70, .mv (.t 6), (some (69, false))⟩, 3, false),
         (⟨some 71, .mv (.t 3), (some (69, false))⟩, 4, false),
         (⟨some 72, .bin .mul (.k (.sc (.int .i64 4))) (.t 71), (some (69, false))⟩, 5, false),
         (⟨some 73, .bin .geq (.t 70) (.t 72), (some (69, false))⟩, 6, false),
         (⟨some 74, .pick (.t 69) (.k (.sc (.bool true))) (.t 73), none⟩, 7, false),
         (⟨some 75, .mv (.t 74), none⟩, 8, false),
         (⟨some 76, .mv (.t 6), (some (75, false))⟩, 9, false),
         (⟨some 77, .mv (.t 5), (some (75, false))⟩, 10, false),
         (⟨some 78, .bin .eql (.t 76) (.t 77), (some (75, false))⟩, 11, false),
         (⟨some 79, .pick (.t 75) (.k (.sc (.bool true))) (.t 78), none⟩, 12, false),
         (⟨some 80, .mv (.t 79), none⟩, 13, false),
         (⟨some 81, .fldA 1 (.t 1), (some (80, false))⟩, 14, false),
         (⟨some 82, .ld 1 false (.t 81), (some (80, false))⟩, 15, true),
         (⟨some 83, .mv (.t 6), (some (80, false))⟩, 16, false),
         (⟨some 84, .idxA 1 (.t 82) (.t 83), (some (80, false))⟩, 17, false),
         (⟨some 85, .ld 1 false (.t 84), (some (80, false))⟩, 18, true),
         (⟨some 86, .mv (.t 5), (some (80, false))⟩, 19, false),
         (⟨some 87, .bin .neq (.t 85) (.t 86), (some (80, false))⟩, 20, false),
         (⟨some 88, .pick (.t 80) (.k (.sc (.bool true))) (.t 87), none⟩, 21, false),
         (⟨some 89, .mv (.t 88), none⟩, 22, false),
         (⟨some 90, .fldA 0 (.t 1), (some (89, false))⟩, 23, false),
         (⟨some 91, .ld 1 false (.t 90), (some (89, false))⟩, 24, false),
         (⟨some 92, .mv (.t 5), (some (89, false))⟩, 25, false),
         (⟨some 93, .call 34 [(.t 91), (.t 92)], (some (89, false))⟩, 26, false),
         (⟨some 94, .fldA 0 (.t 1), (some (89, false))⟩, 27, false),
         (⟨some 95, .ld 1 false (.t 94), (some (89, false))⟩, 28, false),
         (⟨some 96, .mv (.t 6), (some (89, false))⟩, 29, false),
         (⟨some 97, .call 34 [(.t 95), (.t 96)], (some (89, false))⟩, 30, true),
         (⟨some 98, .beq false (.t 93) (.t 97), (some (89, false))⟩, 31, false),
         (⟨some 99, .pick (.t 89) (.k (.sc (.bool true))) (.t 98), none⟩, 32, false)] [1, 3, 5, 99])
      (.cond (.t 99)
        (.seq (.reg [⟨some 2, .mv (.k (.sc (.bool false))), none⟩] [2])
         (.ret))
        (.skip)))))
   (.reg [⟨some 60, .mv (.t 5), none⟩,
      ⟨some 61, .bin .add (.t 60) (.k (.sc (.int .i64 1))), none⟩,
      ⟨some 5, .mv (.t 61), none⟩] [1, 3, 5]))
def b13L3 : AC :=
  .seq (.seq (.reg [⟨some 117, .mv (.t 12), none⟩,
      ⟨some 118, .mv (.t 3), none⟩,
      ⟨some 119, .bin .lss (.t 117) (.t 118), none⟩] [3, 7, 8, 9, 10, 11, 12, 119])
   (.cond (.t 119)
     (.skip)
     (.exit 6)))
  (.seq (.block 7 (.seq (.reg [⟨some 122, .mv (.t 7), none⟩,
        ⟨some 123, .mv (.t 12), none⟩,
        ⟨some 124, .idxA 1 (.t 122) (.t 123), none⟩,
        ⟨some 125, .ld 1 false (.t 124), none⟩,
        ⟨some 126, .mv (.t 9), none⟩,
        ⟨some 127, .bin .eql (.t 125) (.t 126), none⟩] [3, 7, 8, 9, 10, 11, 12, 127])
     (.cond (.t 127)
       (.reg [⟨some 128, .mv (.t 10), none⟩,
          ⟨some 129, .bin .add (.t 128) (.k (.sc (.int .i64 1))), none⟩,
          ⟨some 10, .mv (.t 129), none⟩] [3, 7, 8, 9, 10, 11, 12])
       (.skip))))
   (.reg [⟨some 120, .mv (.t 12), none⟩,
      ⟨some 121, .bin .add (.t 120) (.k (.sc (.int .i64 1))), none⟩,
      ⟨some 12, .mv (.t 121), none⟩] [3, 7, 8, 9, 10, 11, 12]))
def b13L4 : AC :=
  .seq (.seq (.reg [⟨some 130, .mv (.t 13), none⟩,
      ⟨some 131, .mv (.t 8), none⟩,
      ⟨some 132, .len false (.t 131), none⟩,
      ⟨some 133, .bin .lss (.t 130) (.t 132), none⟩] [3, 7, 8, 9, 10, 11, 13, 133])
   (.cond (.t 133)
     (.skip)
     (.exit 8)))
  (.seq (.block 9 (.seq (.reg [⟨some 136, .mv (.t 7), none⟩,
        ⟨some 137, .mv (.t 8), none⟩,
        ⟨some 138, .mv (.t 13), none⟩,
        ⟨some 139, .idxA 1 (.t 137) (.t 138), none⟩,
        ⟨some 140, .ld 1 false (.t 139), none⟩,
        ⟨some 141, .idxA 1 (.t 140) (.k (.sc (.int .i64 0))), none⟩,
        ⟨some 142, .ld 1 false (.t 141), none⟩,
        ⟨some 143, .bin .quo (.t 142) (.k (.sc (.int .i64 4))), none⟩,
        ⟨some 144, .idxA 1 (.t 136) (.t 143), none⟩,
        ⟨some 145, .ld 1 false (.t 144), none⟩,
        ⟨some 146, .mv (.t 9), none⟩,
        ⟨some 147, .bin .eql (.t 145) (.t 146), none⟩] [3, 7, 8, 9, 10, 11, 13, 147])
     (.cond (.t 147)
       (.reg [⟨some 148, .mv (.t 11), none⟩,
          ⟨some 149, .bin .add (.t 148) (.k (.sc (.int .i64 1))), none⟩,
          ⟨some 11, .mv (.t 149), none⟩] [3, 7, 8, 9, 10, 11, 13])
       (.skip))))
   (.reg [⟨some 134, .mv (.t 13), none⟩,
      ⟨some 135, .bin .add (.t 134) (.k (.sc (.int .i64 1))), none⟩,
      ⟨some 13, .mv (.t 135), none⟩] [3, 7, 8, 9, 10, 11, 13]))
def b13L2 : AC :=
  .seq (.seq (.reg [⟨some 106, .mv (.t 9), none⟩,
      ⟨some 107, .mv (.t 3), none⟩,
      ⟨some 108, .bin .lss (.t 106) (.t 107), none⟩] [3, 7, 8, 9, 108])
   (.cond (.t 108)
     (.skip)
     (.exit 4)))
  (.seq (.block 5 (.seq (.seq (.reg [⟨some 111, .mv (.t 7), none⟩,
         ⟨some 112, .mv (.t 9), none⟩,
         ⟨some 113, .idxA 1 (.t 111) (.t 112), none⟩,
         ⟨some 114, .ld 1 false (.t 113), none⟩,
         ⟨some 115, .mv (.t 9), none⟩,
         ⟨some 116, .bin .neq (.t 114) (.t 115), none⟩] [3, 7, 8, 9, 116])
      (.cond (.t 116)
        (.exit 5)
        (.skip)))
     (.seq (.reg [⟨some 10, .mv (.k (.sc (.int .i64 0))), none⟩,
         ⟨some 11, .mv (.k (.sc (.int .i64 0))), none⟩] [3, 7, 8, 9, 10, 11])
      (.seq (.seq (.reg [⟨some 12, .mv (.k (.sc (.int .i64 0))), none⟩] [3, 7, 8, 9, 10, 11, 12])
        (.block 6 (.loop [3, 7, 8, 9, 10, 11, 12] b13L3)))
       (.seq (.seq (.reg [⟨some 13, .mv (.k (.sc (.int .i64 0))), none⟩] [3, 7, 8, 9, 10, 11, 13])
         (.block 8 (.loop [3, 7, 8, 9, 10, 11, 13] b13L4)))
        (.seq (.reg [⟨some 150, .mv (.t 11), none⟩,
            ⟨some 151, .mv (.t 10), none⟩,
            ⟨some 152, .bin .add (.t 151) (.k (.sc (.int .i64 2))), none⟩,
            ⟨some 153, .bin .neq (.t 150) (.t 152), none⟩] [3, 7, 8, 9, 153])
         (.cond (.t 153)
           (.seq (.reg [⟨some 2, .mv (.k (.sc (.bool false))), none⟩] [2])
            (.ret))
           (.skip))))))))
   (.reg [⟨some 109, .mv (.t 9), none⟩,
      ⟨some 110, .bin .add (.t 109) (.k (.sc (.int .i64 1))), none⟩,
      ⟨some 9, .mv (.t 110), none⟩] [3, 7, 8, 9]))
/-- unravel/unravelref01.Valid -/
def b13 : AC :=
  .seq (.reg [⟨some 1, .box (.t 0), none⟩,
     ⟨some 2, .mv (.k (.sc (.bool false))), none⟩] [1])
  (.seq (.reg [⟨some 14, .fldA 0 (.t 1), none⟩,
      ⟨some 15, .ld 1 false (.t 14), none⟩,
      ⟨some 16, .len false (.t 15), none⟩,
      ⟨some 3, .mv (.t 16), none⟩] [1, 3])
   (.seq (.seq (.reg [⟨some 17, .mv (.t 3), none⟩,
        ⟨some 18, .bin .gtr (.t 17) (.k (.sc (.int .i64 64))), none⟩,
        ⟨some 19, .mv (.t 18), none⟩,
        ⟨some 20, .fldA 1 (.t 1), (some (19, false))⟩,
        ⟨some 21, .ld 1 false (.t 20), (some (19, false))⟩,
        ⟨some 22, .len false (.t 21), (some (19, false))⟩,
        ⟨some 23, .mv (.t 3), (some (19, false))⟩,
        ⟨some 24, .bin .mul (.k (.sc (.int .i64 4))) (.t 23), (some (19, false))⟩,
        ⟨some 25, .bin .neq (.t 22) (.t 24), (some (19, false))⟩,
        ⟨some 26, .pick (.t 19) (.k (.sc (.bool true))) (.t 25), none⟩,
        ⟨some 27, .mv (.t 26), none⟩,
        ⟨some 28, .fldA 2 (.t 1), (some (27, false))⟩,
        ⟨some 29, .ld 1 false (.t 28), (some (27, false))⟩,
        ⟨some 30, .bin .lss (.t 29) (.k (.sc (.int .i64 0))), (some (27, false))⟩,
        ⟨some 31, .pick (.t 27) (.k (.sc (.bool true))) (.t 30), none⟩,
        ⟨some 32, .mv (.t 31), none⟩,
        ⟨some 33, .fldA 2 (.t 1), (some (32, false))⟩,
        ⟨some 34, .ld 1 false (.t 33), (some (32, false))⟩,
        ⟨some 35, .bin .gtr (.t 34) (.k (.sc (.int .i64 64))), (some (32, false))⟩,
        ⟨some 36, .pick (.t 32) (.k (.sc (.bool true))) (.t 35), none⟩] [1, 3, 36])
     (.cond (.t 36)
       (.seq (.reg [⟨some 2, .mv (.k (.sc (.bool false))), none⟩] [2])
        (.ret))
       (.skip)))
    (.seq (.seq (.reg [⟨some 4, .mv (.k (.sc (.int .i64 0))), none⟩] [1, 3, 4])
      (.block 0 (.loop [1, 3, 4] b13L0)))
     (.seq (.seq (.reg [⟨some 5, .mv (.k (.sc (.int .i64 0))), none⟩] [1, 3, 5])
       (.block 2 (.loop [1, 3, 5] b13L1)))
      (.seq (.reg [⟨some 100, .fldA 1 (.t 1), none⟩,
          ⟨some 101, .ld 1 false (.t 100), none⟩,
          ⟨some 102, .call 35 [(.t 101)], none⟩,
          ⟨some 7, .mv (.t 102), none⟩] [1, 3, 7])
       (.seq (.reg [⟨some 103, .fldA 1 (.t 1), none⟩,
           ⟨some 104, .ld 1 false (.t 103), none⟩,
           ⟨some 105, .call 36 [(.t 104)], none⟩,
           ⟨some 8, .mv (.t 105), none⟩] [3, 7, 8])
        (.seq (.seq (.reg [⟨some 9, .mv (.k (.sc (.int .i64 0))), none⟩] [3, 7, 8, 9])
          (.block 4 (.loop [3, 7, 8, 9] b13L2)))
         (.seq (.reg [⟨some 2, .mv (.k (.sc (.bool true))), none⟩] [2])
          (.ret)))))))))
def a13 : AFun := ⟨1, b13, [.t 2]⟩

def b15L0 : AC :=
  .seq (.reg [⟨some 40, .bin .lss (.t 39) (.t 38), none⟩] [1, 6, 37, 38, 39, 40])
  (.seq (.cond (.t 40)
     (.skip)
     (.exit 0))
   (.seq (.block 1 (.seq (.reg [⟨some 41, .mv (.t 39), none⟩,
         ⟨some 42, .idxA 1 (.t 37) (.t 39), none⟩,
         ⟨some 43, .ld 1 false (.t 42), none⟩,
         ⟨some 7, .mv (.t 41), none⟩,
         ⟨some 8, .mv (.t 43), none⟩] [1, 6, 7, 8, 37, 38, 39])
      (.seq (.reg [⟨some 44, .mv (.t 8), none⟩,
          ⟨some 45, .bin .eql (.t 44) (.k (.sc (.int .i64 1))), none⟩] [1, 6, 7, 37, 38, 39, 45])
       (.cond (.t 45)
         (.regd [(⟨some 46, .mv (.t 6), none⟩, 0, false),
            (⟨some 47, .mv (.t 7), none⟩, 1, false),
            (⟨some 48, .bin .quo (.t 47) (.k (.sc (.int .i64 8))), none⟩, 2, false),
            (⟨some 49, .bin .add (.k (.sc (.int .i64 2))) (.t 48), none⟩, 3, false),
            (⟨some 50, .idxA 1 (.t 46) (.t 49), none⟩, 4, false),
            (⟨some 51, .ld 1 false (.t 50), none⟩, 5, true),
            (⟨some 52, .mv (.t 7), none⟩, 6, false),
            (⟨some 53, .bin .rem (.t 52) (.k (.sc (.int .i64 8))), none⟩, 7, false),
            (⟨some 54, .bin .shl (.k (.sc (.int .u8 1))) (.t 53), none⟩, 8, false),
            (⟨some 55, .bin .or (.t 51) (.t 54), none⟩, 9, false),
            (⟨some 56, .idxA 1 (.t 46) (.t 49), none⟩, 10, false),
            (⟨none, .st 1 (.t 56) (.t 55), none⟩, 11, true)] [1, 6, 37, 38, 39])
         (.skip)))))
    (.reg [⟨some 57, .bin .add (.t 39) (.k (.sc (.int .i64 1))), none⟩,
       ⟨some 39, .mv (.t 57), none⟩] [1, 6, 37, 38, 39])))
def b15L1 : AC :=
  .seq (.reg [⟨some 62, .bin .lss (.t 61) (.t 60), none⟩] [1, 6, 59, 60, 61, 62])
  (.seq (.cond (.t 62)
     (.skip)
     (.exit 2))
   (.seq (.block 3 (.seq (.reg [⟨some 63, .mv (.t 61), none⟩,
         ⟨some 64, .idxA 1 (.t 59) (.t 61), none⟩,
         ⟨some 65, .ld 1 false (.t 64), none⟩,
         ⟨some 9, .mv (.t 63), none⟩,
         ⟨some 10, .mv (.t 65), none⟩] [1, 6, 9, 10, 59, 60, 61])
      (.seq (.reg [⟨some 66, .fldA 0 (.t 1), none⟩,
          ⟨some 67, .ld 1 false (.t 66), none⟩,
          ⟨some 68, .mv (.t 9), none⟩,
          ⟨some 69, .bin .quo (.t 68) (.k (.sc (.int .i64 4))), none⟩,
          ⟨some 70, .idxA 1 (.t 67) (.t 69), none⟩,
          ⟨some 71, .ld 1 false (.t 70), none⟩,
          ⟨some 72, .mv (.t 9), none⟩,
          ⟨some 73, .bin .rem (.t 72) (.k (.sc (.int .i64 4))), none⟩,
          ⟨some 74, .call 39 [(.t 71), (.t 73)], none⟩] [1, 6, 10, 59, 60, 61, 74])
       (.cond (.t 74)
         (.reg [⟨some 75, .mv (.t 6), none⟩,
            ⟨some 76, .mv (.t 10), none⟩,
            ⟨some 77, .conv .u8 (.t 76), none⟩,
            ⟨some 78, .bsl ⟨1, some 5⟩ [.int .u8 0] 1 [(0, .t 77)], none⟩,
            ⟨some 79, .app ⟨1, some 5⟩ 1 [.int .u8 0] (.t 75) (.t 78), none⟩,
            ⟨some 6, .mv (.t 79), none⟩] [1, 6, 59, 60, 61])
         (.skip)))))
    (.reg [⟨some 80, .bin .add (.t 61) (.k (.sc (.int .i64 1))), none⟩,
       ⟨some 61, .mv (.t 80), none⟩] [1, 6, 59, 60, 61])))
/-- unravel/planar.Encode -/
def b15 : AC :=
  .seq (.reg [⟨some 1, .box (.t 0), none⟩,
     ⟨some 2, .mv (.k (.sc .nilS)), none⟩,
     ⟨some 3, .mv (.k (.sc (.int .i64 0))), none⟩] [1])
  (.seq (.seq (.reg [⟨some 11, .ld 3 true (.t 1), none⟩,
       ⟨some 12, .call 20 [(.t 11)], none⟩,
       ⟨some 13, .un .not (.t 12), none⟩] [1, 13])
    (.cond (.t 13)
      (.seq (.reg [⟨some 2, .mv (.k (.sc .nilS)), none⟩,
          ⟨some 3, .mv (.k (.sc (.int .i64 1))), none⟩] [2, 3])
       (.ret))
      (.skip)))
   (.seq (.reg [⟨some 14, .fldA 0 (.t 1), none⟩,
       ⟨some 15, .ld 1 false (.t 14), none⟩,
       ⟨some 16, .len false (.t 15), none⟩,
       ⟨some 4, .mv (.t 16), none⟩] [1, 4])
    (.seq (.reg [⟨some 17, .mv (.t 4), none⟩,
        ⟨some 18, .bin .add (.t 17) (.k (.sc (.int .i64 7))), none⟩,
        ⟨some 19, .bin .quo (.t 18) (.k (.sc (.int .i64 8))), none⟩,
        ⟨some 20, .bin .add (.k (.sc (.int .i64 2))) (.t 19), none⟩,
        ⟨some 5, .mv (.t 20), none⟩] [1, 4, 5])
     (.seq (.reg [⟨some 21, .mv (.t 5), none⟩,
         ⟨some 22, .mv (.t 5), none⟩,
         ⟨some 23, .mv (.t 4), none⟩,
         ⟨some 24, .bin .mul (.k (.sc (.int .i64 2))) (.t 23), none⟩,
         ⟨some 25, .bin .add (.t 22) (.t 24), none⟩,
         ⟨some 26, .mk ⟨1, some 5⟩ 1 [.int .u8 0] (.t 21) (.t 25), none⟩,
         ⟨some 6, .mv (.t 26), none⟩] [1, 4, 6])
      (.seq (.reg [⟨some 27, .mv (.t 6), none⟩,
          ⟨some 28, .mv (.t 4), none⟩,
          ⟨some 29, .conv .u8 (.t 28), none⟩,
          ⟨some 30, .idxA 1 (.t 27) (.k (.sc (.int .i64 0))), none⟩,
          ⟨none, .st 1 (.t 30) (.t 29), none⟩] [1, 6])
       (.seq (.reg [⟨some 31, .mv (.t 6), none⟩,
           ⟨some 32, .fldA 2 (.t 1), none⟩,
           ⟨some 33, .ld 1 false (.t 32), none⟩,
           ⟨some 34, .conv .u8 (.t 33), none⟩,
           ⟨some 35, .idxA 1 (.t 31) (.k (.sc (.int .i64 1))), none⟩,
           ⟨none, .st 1 (.t 35) (.t 34), none⟩] [1, 6])
        (.seq (.seq (.reg [⟨some 36, .fldA 0 (.t 1), none⟩,
             ⟨some 37, .ld 1 false (.t 36), none⟩,
             ⟨some 38, .len false (.t 37), none⟩,
             ⟨some 39, .mv (.k (.sc (.int .i64 0))), none⟩] [1, 6, 37, 38, 39])
          (.block 0 (.loop [1, 6, 37, 38, 39] b15L0)))
         (.seq (.seq (.reg [⟨some 58, .fldA 1 (.t 1), none⟩,
              ⟨some 59, .ld 1 false (.t 58), none⟩,
              ⟨some 60, .len false (.t 59), none⟩,
              ⟨some 61, .mv (.k (.sc (.int .i64 0))), none⟩] [1, 6, 59, 60, 61])
           (.block 2 (.loop [1, 6, 59, 60, 61] b15L1)))
          (.seq (.reg [⟨some 81, .mv (.t 6), none⟩,
              ⟨some 2, .mv (.t 81), none⟩,
              ⟨some 3, .mv (.k (.sc (.int .i64 0))), none⟩] [2, 3])
           (.ret))))))))))
def a15 : AFun := ⟨1, b15, [.t 2, .t 3]⟩

/-- unravel/unravelref01.Equal -/
def b19 : AC :=
  .seq (.reg [⟨some 2, .box (.t 0), none⟩,
     ⟨some 3, .box (.t 1), none⟩,
     ⟨some 4, .mv (.k (.sc (.bool false))), none⟩] [2, 3])
  (.seq (.reg [⟨some 5, .fldA 0 (.t 2), none⟩,
      ⟨some 6, .ld 1 false (.t 5), none⟩,
      ⟨some 7, .fldA 0 (.t 3), none⟩,
      ⟨some 8, .ld 1 false (.t 7), none⟩,
      ⟨some 9, .call 41 [(.t 6), (.t 8)], none⟩,
      ⟨some 10, .mv (.t 9), none⟩,
      ⟨some 11, .fldA 1 (.t 2), (some (10, true))⟩,
      ⟨some 12, .ld 1 false (.t 11), (some (10, true))⟩,
      ⟨some 13, .fldA 1 (.t 3), (some (10, true))⟩,
      ⟨some 14, .ld 1 false (.t 13), (some (10, true))⟩,
      ⟨some 15, .call 41 [(.t 12), (.t 14)], (some (10, true))⟩,
      ⟨some 16, .pick (.t 10) (.t 15) (.k (.sc (.bool false))), none⟩,
      ⟨some 17, .mv (.t 16), none⟩,
      ⟨some 18, .fldA 2 (.t 2), (some (17, true))⟩,
      ⟨some 19, .ld 1 false (.t 18), (some (17, true))⟩,
      ⟨some 20, .fldA 2 (.t 3), (some (17, true))⟩,
      ⟨some 21, .ld 1 false (.t 20), (some (17, true))⟩,
      ⟨some 22, .bin .eql (.t 19) (.t 21), (some (17, true))⟩,
      ⟨some 23, .pick (.t 17) (.t 22) (.k (.sc (.bool false))), none⟩,
      ⟨some 4, .mv (.t 23), none⟩] [4])
   (.ret))
def a19 : AFun := ⟨2, b19, [.t 4]⟩

def b20L0 : AC :=
  .seq (.reg [⟨some 35, .bin .lss (.t 34) (.t 33), none⟩] [1, 3, 32, 33, 34, 35])
  (.seq (.cond (.t 35)
     (.skip)
     (.exit 0))
   (.seq (.block 1 (.seq (.reg [⟨some 36, .idxA 1 (.t 32) (.t 34), none⟩,
         ⟨some 37, .ld 1 false (.t 36), none⟩,
         ⟨some 5, .mv (.t 37), none⟩] [1, 3, 5, 32, 33, 34])
      (.seq (.reg [⟨some 38, .mv (.t 5), none⟩,
          ⟨some 39, .bin .neq (.t 38) (.k (.sc (.int .i64 1))), none⟩,
          ⟨some 40, .mv (.t 39), none⟩,
          ⟨some 41, .mv (.t 5), (some (40, true))⟩,
          ⟨some 42, .bin .neq (.t 41) (.k (.sc (.int .i64 (-1)))), (some (40, true))⟩,
          ⟨some 43, .pick (.t 40) (.t 42) (.k (.sc (.bool false))), none⟩] [1, 3, 32, 33, 34, 43])
       (.cond (.t 43)
         (.seq (.reg [⟨some 2, .mv (.k (.sc (.bool false))), none⟩] [2])
          (.ret))
         (.skip)))))
    (.reg [⟨some 44, .bin .add (.t 34) (.k (.sc (.int .i64 1))), none⟩,
       ⟨some 34, .mv (.t 44), none⟩] [1, 3, 32, 33, 34])))
def b20L1 : AC :=
  .seq (.reg [⟨some 49, .bin .lss (.t 48) (.t 47), none⟩] [1, 3, 46, 47, 48, 49])
  (.seq (.cond (.t 49)
     (.skip)
     (.exit 2))
   (.seq (.block 3 (.seq (.reg [⟨some 50, .mv (.t 48), none⟩,
         ⟨some 51, .idxA 1 (.t 46) (.t 48), none⟩,
         ⟨some 52, .ld 1 false (.t 51), none⟩,
         ⟨some 6, .mv (.t 50), none⟩,
         ⟨some 7, .mv (.t 52), none⟩] [1, 3, 6, 7, 46, 47, 48])
      (.seq (.seq (.reg [⟨some 53, .mv (.t 7), none⟩,
           ⟨some 54, .bin .lss (.t 53) (.k (.sc (.int .i64 0))), none⟩,
           ⟨some 55, .mv (.t 54), none⟩,
           ⟨some 56, .mv (.t 7), (some (55, false))⟩,
           ⟨some 57, .mv (.t 3), (some (55, false))⟩,
           ⟨some 58, .bin .mul (.k (.sc (.int .i64 4))) (.t 57), (some (55, false))⟩,
           ⟨some 59, .bin .geq (.t 56) (.t 58), (some (55, false))⟩,
           ⟨some 60, .pick (.t 55) (.k (.sc (.bool true))) (.t 59), none⟩,
           ⟨some 61, .mv (.t 60), none⟩,
           ⟨some 62, .mv (.t 7), (some (61, false))⟩,
           ⟨some 63, .mv (.t 6), (some (61, false))⟩,
           ⟨some 64, .bin .eql (.t 62) (.t 63), (some (61, false))⟩,
           ⟨some 65, .pick (.t 61) (.k (.sc (.bool true))) (.t 64), none⟩,
           ⟨some 66, .mv (.t 65), none⟩,
           ⟨some 67, .fldA 1 (.t 1), (some (66, false))⟩,
           ⟨some 68, .ld 1 false (.t 67), (some (66, false))⟩,
           ⟨some 69, .mv (.t 7), (some (66, false))⟩,
           ⟨some 70, .idxA 1 (.t 68) (.t 69), (some (66, false))⟩,
           ⟨some 71, .ld 1 false (.t 70), (some (66, false))⟩,
           ⟨some 72, .mv (.t 6), (some (66, false))⟩,
           ⟨some 73, .bin .neq (.t 71) (.t 72), (some (66, false))⟩,
           ⟨some 74, .pick (.t 66) (.k (.sc (.bool true))) (.t 73), none⟩] [1, 3, 6, 7, 46, 47, 48, 74])
        (.cond (.t 74)
          (.seq (.reg [⟨some 2, .mv (.k (.sc (.bool false))), none⟩] [2])
           (.ret))
          (.skip)))
       (.seq (.regd [(⟨some 75, .ld 3 true (.t 1), none⟩, 0, false),
           (⟨some 76, .mv (.t 6), none⟩, 1, false),
           (⟨some 77, .call 42 [(.t 75), (.t 76)], none⟩, 2, false),
           (⟨some 78, .ld 3 true (.t 1), none⟩, 3, false),
           (⟨some 79, .mv (.t 7), none⟩, 4, false),
           (⟨some 80, .call 42 [(.t 78), (.t 79)], none⟩, 5, true),
           (⟨some 81, .beq false (.t 77) (.t 80), none⟩, 6, false)] [1, 3, 46, 47, 48, 81])
        (.cond (.t 81)
          (.seq (.reg [⟨some 2, .mv (.k (.sc (.bool false))), none⟩] [2])
           (.ret))
          (.skip))))))
    (.reg [⟨some 82, .bin .add (.t 48) (.k (.sc (.int .i64 1))), none⟩,
       ⟨some 48, .mv (.t 82), none⟩] [1, 3, 46, 47, 48])))
/-- unravel/diagram.Valid -/
def b20 : AC :=
  .seq (.reg [⟨some 1, .box (.t 0), none⟩,
     ⟨some 2, .mv (.k (.sc (.bool false))), none⟩] [1])
  (.seq (.reg [⟨some 8, .fldA 0 (.t 1), none⟩,
      ⟨some 9, .ld 1 false (.t 8), none⟩,
      ⟨some 10, .len false (.t 9), none⟩,
      ⟨some 3, .mv (.t 10), none⟩] [1, 3])
   (.seq (.seq (.reg [⟨some 11, .mv (.t 3), none⟩,
        ⟨some 12, .bin .gtr (.t 11) (.k (.sc (.int .i64 64))), none⟩,
        ⟨some 13, .mv (.t 12), none⟩,
        ⟨some 14, .fldA 1 (.t 1), (some (13, false))⟩,
        ⟨some 15, .ld 1 false (.t 14), (some (13, false))⟩,
        ⟨some 16, .len false (.t 15), (some (13, false))⟩,
        ⟨some 17, .mv (.t 3), (some (13, false))⟩,
        ⟨some 18, .bin .mul (.k (.sc (.int .i64 4))) (.t 17), (some (13, false))⟩,
        ⟨some 19, .bin .neq (.t 16) (.t 18), (some (13, false))⟩,
        ⟨some 20, .pick (.t 13) (.k (.sc (.bool true))) (.t 19), none⟩,
        ⟨some 21, .mv (.t 20), none⟩,
        ⟨some 22, .fldA 2 (.t 1), (some (21, false))⟩,
        ⟨some 23, .ld 1 false (.t 22), (some (21, false))⟩,
        ⟨some 24, .bin .lss (.t 23) (.k (.sc (.int .i64 0))), (some (21, false))⟩,
        ⟨some 25, .pick (.t 21) (.k (.sc (.bool true))) (.t 24), none⟩,
        ⟨some 26, .mv (.t 25), none⟩,
        ⟨some 27, .fldA 2 (.t 1), (some (26, false))⟩,
        ⟨some 28, .ld 1 false (.t 27), (some (26, false))⟩,
        ⟨some 29, .bin .gtr (.t 28) (.k (.sc (.int .i64 64))), (some (26, false))⟩,
        ⟨some 30, .pick (.t 26) (.k (.sc (.bool true))) (.t 29), none⟩] [1, 3, 30])
     (.cond (.t 30)
       (.seq (.reg [⟨some 2, .mv (.k (.sc (.bool false))), none⟩] [2])
        (.ret))
       (.skip)))
    (.seq (.seq (.reg [⟨some 31, .fldA 0 (.t 1), none⟩,
         ⟨some 32, .ld 1 false (.t 31), none⟩,
         ⟨some 33, .len false (.t 32), none⟩,
         ⟨some 34, .mv (.k (.sc (.int .i64 0))), none⟩] [1, 3, 32, 33, 34])
      (.block 0 (.loop [1, 3, 32, 33, 34] b20L0)))
     (.seq (.seq (.reg [⟨some 45, .fldA 1 (.t 1), none⟩,
          ⟨some 46, .ld 1 false (.t 45), none⟩,
          ⟨some 47, .len false (.t 46), none⟩,
          ⟨some 48, .mv (.k (.sc (.int .i64 0))), none⟩] [1, 3, 46, 47, 48])
       (.block 2 (.loop [1, 3, 46, 47, 48] b20L1)))
      (.seq (.reg [⟨some 83, .ld 3 true (.t 1), none⟩,
          ⟨some 84, .call 43 [(.t 83)], none⟩,
          ⟨some 2, .mv (.t 84), none⟩] [2])
       (.ret))))))
def a20 : AFun := ⟨1, b20, [.t 2]⟩

def b22L1 : AC :=
  .seq (.reg [⟨some 69, .bin .lss (.t 68) (.k (.sc (.int .i64 4))), none⟩] [2, 8, 9, 10, 11, 12, 53, 54, 55, 67, 68, 69])
  (.seq (.cond (.t 69)
     (.skip)
     (.exit 2))
   (.seq (.block 3 (.seq (.reg [⟨some 70, .mv (.t 68), none⟩,
         ⟨some 71, .idxG 4 1 false (.t 67) (.t 68), none⟩,
         ⟨some 13, .mv (.t 70), none⟩,
         ⟨some 14, .mv (.t 71), none⟩] [2, 8, 9, 10, 11, 12, 13, 14, 53, 54, 55, 67, 68])
      (.seq (.reg [⟨some 72, .mv (.t 10), none⟩,
          ⟨some 15, .mv (.t 72), none⟩] [2, 8, 9, 10, 11, 12, 13, 14, 15, 53, 54, 55, 67, 68])
       (.seq (.seq (.reg [⟨some 73, .fldA 0 (.t 12), none⟩,
            ⟨some 74, .ld 1 false (.t 73), none⟩,
            ⟨some 75, .mv (.t 13), none⟩,
            ⟨some 76, .call 39 [(.t 74), (.t 75)], none⟩] [2, 8, 9, 10, 11, 12, 13, 14, 15, 53, 54, 55, 67, 68, 76])
         (.cond (.t 76)
           (.reg [⟨some 77, .mv (.t 9), none⟩,
              ⟨some 15, .mv (.t 77), none⟩] [2, 8, 9, 10, 11, 12, 13, 14, 15, 53, 54, 55, 67, 68])
           (.skip)))
        (.seq (.seq (.reg [⟨some 79, .mv (.t 15), none⟩,
             ⟨some 80, .mv (.t 14), none⟩,
             ⟨some 81, .mpL ⟨1001001, none⟩ [.int .i64 0] true (.t 79) (.t 80), none⟩,
             ⟨some 78, .mv (.t 81), none⟩,
             ⟨some 82, .ext (.t 78) 0, none⟩,
             ⟨some 83, .ext (.t 78) 1, none⟩,
             ⟨some 16, .mv (.t 82), none⟩,
             ⟨some 17, .mv (.t 83), none⟩] [2, 8, 9, 10, 11, 12, 13, 14, 15, 17, 53, 54, 55, 67, 68])
          (.seq (.reg [⟨some 84, .mv (.t 17), none⟩] [2, 8, 9, 10, 11, 12, 13, 14, 15, 53, 54, 55, 67, 68, 84])
           (.cond (.t 84)
             (.seq (.reg [⟨some 85, .bld [.nilS, .nilS, .int .i64 0] [], none⟩,
                 ⟨none, .st 3 (.t 2) (.t 85), none⟩,
                 ⟨some 3, .mv (.k (.sc (.int .i64 3))), none⟩] [2, 3])
              (.ret))
             (.skip))))
         (.reg [⟨some 86, .mv (.t 15), none⟩,
            ⟨some 87, .mv (.t 14), none⟩,
            ⟨some 88, .mv (.t 11), none⟩,
            ⟨some 89, .bin .mul (.k (.sc (.int .i64 4))) (.t 88), none⟩,
            ⟨some 90, .mv (.t 13), none⟩,
            ⟨some 91, .bin .add (.t 89) (.t 90), none⟩,
            ⟨none, .mpU ⟨1001001, none⟩ (.t 86) (.t 87) (.t 91), none⟩] [2, 8, 9, 10, 11, 12, 53, 54, 55, 67, 68]))))))
    (.reg [⟨some 92, .bin .add (.t 68) (.k (.sc (.int .i64 1))), none⟩,
       ⟨some 68, .mv (.t 92), none⟩] [2, 8, 9, 10, 11, 12, 53, 54, 55, 67, 68])))
def b22L0 : AC :=
  .seq (.reg [⟨some 56, .bin .lss (.t 55) (.t 54), none⟩] [2, 8, 9, 10, 53, 54, 55, 56])
  (.seq (.cond (.t 56)
     (.skip)
     (.exit 0))
   (.seq (.block 1 (.seq (.reg [⟨some 57, .mv (.t 55), none⟩,
         ⟨some 58, .idxA 5 (.t 53) (.t 55), none⟩,
         ⟨some 59, .ld 5 true (.t 58), none⟩,
         ⟨some 12, .new [.int .i64 0, .int .i64 0, .int .i64 0, .int .i64 0, .int .i64 0], none⟩,
         ⟨some 11, .mv (.t 57), none⟩,
         ⟨none, .st 5 (.t 12) (.t 59), none⟩] [2, 8, 9, 10, 11, 12, 53, 54, 55])
      (.seq (.reg [⟨some 60, .fldA 0 (.t 8), none⟩,
          ⟨some 61, .ld 1 false (.t 60), none⟩,
          ⟨some 62, .mv (.t 11), none⟩,
          ⟨some 63, .fldA 0 (.t 12), none⟩,
          ⟨some 64, .ld 1 false (.t 63), none⟩,
          ⟨some 65, .idxA 1 (.t 61) (.t 62), none⟩,
          ⟨none, .st 1 (.t 65) (.t 64), none⟩] [2, 8, 9, 10, 11, 12, 53, 54, 55])
       (.seq (.reg [⟨some 66, .fldA 1 (.t 12), none⟩,
           ⟨some 67, .ld 4 true (.t 66), none⟩,
           ⟨some 68, .mv (.k (.sc (.int .i64 0))), none⟩] [2, 8, 9, 10, 11, 12, 53, 54, 55, 67, 68])
        (.block 2 (.loop [2, 8, 9, 10, 11, 12, 53, 54, 55, 67, 68] b22L1))))))
    (.reg [⟨some 93, .bin .add (.t 55) (.k (.sc (.int .i64 1))), none⟩,
       ⟨some 55, .mv (.t 93), none⟩] [2, 8, 9, 10, 53, 54, 55])))
def b22L2 : AC :=
  .seq (.reg [⟨some 96, .mpX (.t 95), none⟩,
     ⟨some 97, .ext (.t 96) 0, none⟩] [2, 8, 10, 95, 97])
  (.seq (.cond (.t 97)
     (.skip)
     (.exit 4))
   (.block 5 (.seq (.reg [⟨some 98, .mpT (.t 95), none⟩,
        ⟨some 99, .ext (.t 98) 0, none⟩,
        ⟨some 100, .ext (.t 98) 1, none⟩,
        ⟨some 18, .mv (.t 99), none⟩,
        ⟨some 19, .mv (.t 100), none⟩] [2, 8, 10, 18, 19, 95])
     (.seq (.reg [⟨some 102, .mv (.t 10), none⟩,
         ⟨some 103, .mv (.t 18), none⟩,
         ⟨some 104, .mpL ⟨1001001, none⟩ [.int .i64 0] true (.t 102) (.t 103), none⟩,
         ⟨some 101, .mv (.t 104), none⟩,
         ⟨some 105, .ext (.t 101) 0, none⟩,
         ⟨some 106, .ext (.t 101) 1, none⟩,
         ⟨some 20, .mv (.t 105), none⟩,
         ⟨some 21, .mv (.t 106), none⟩] [2, 8, 10, 19, 20, 21, 95])
      (.seq (.seq (.reg [⟨some 107, .mv (.t 21), none⟩,
           ⟨some 108, .un .not (.t 107), none⟩] [2, 8, 10, 19, 20, 95, 108])
        (.cond (.t 108)
          (.seq (.reg [⟨some 109, .bld [.nilS, .nilS, .int .i64 0] [], none⟩,
              ⟨none, .st 3 (.t 2) (.t 109), none⟩,
              ⟨some 3, .mv (.k (.sc (.int .i64 3))), none⟩] [2, 3])
           (.ret))
          (.skip)))
       (.seq (.reg [⟨some 110, .fldA 1 (.t 8), none⟩,
           ⟨some 111, .ld 1 false (.t 110), none⟩,
           ⟨some 112, .mv (.t 19), none⟩,
           ⟨some 113, .mv (.t 20), none⟩,
           ⟨some 114, .idxA 1 (.t 111) (.t 112), none⟩,
           ⟨none, .st 1 (.t 114) (.t 113), none⟩] [2, 8, 10, 19, 20, 95])
        (.reg [⟨some 115, .fldA 1 (.t 8), none⟩,
           ⟨some 116, .ld 1 false (.t 115), none⟩,
           ⟨some 117, .mv (.t 20), none⟩,
           ⟨some 118, .mv (.t 19), none⟩,
           ⟨some 119, .idxA 1 (.t 116) (.t 117), none⟩,
           ⟨none, .st 1 (.t 119) (.t 118), none⟩] [2, 8, 10, 95])))))))
/-- unravel/planar.Parse -/
def b22 : AC :=
  .seq (.reg [⟨some 2, .new [.nilS, .nilS, .int .i64 0], none⟩,
     ⟨some 3, .mv (.k (.sc (.int .i64 0))), none⟩] [0, 2])
  (.seq (.seq (.reg [⟨some 22, .mv (.t 0), none⟩,
       ⟨some 23, .len true (.t 22), none⟩,
       ⟨some 24, .bin .gtr (.t 23) (.k (.sc (.int .i64 65536))), none⟩] [0, 2, 24])
    (.cond (.t 24)
      (.seq (.reg [⟨some 25, .bld [.nilS, .nilS, .int .i64 0] [], none⟩,
          ⟨none, .st 3 (.t 2) (.t 25), none⟩,
          ⟨some 3, .mv (.k (.sc (.int .i64 5))), none⟩] [2, 3])
       (.ret))
      (.skip)))
   (.seq (.reg [⟨some 27, .mv (.t 0), none⟩,
       ⟨some 28, .call 45 [(.t 27)], none⟩,
       ⟨some 26, .mv (.t 28), none⟩,
       ⟨some 29, .ext (.t 26) 0, none⟩,
       ⟨some 30, .ext (.t 26) 1, none⟩,
       ⟨some 31, .ext (.t 26) 2, none⟩,
       ⟨some 4, .mv (.t 29), none⟩,
       ⟨some 5, .mv (.t 30), none⟩,
       ⟨some 6, .mv (.t 31), none⟩] [2, 4, 5, 6])
    (.seq (.seq (.reg [⟨some 32, .mv (.t 6), none⟩,
         ⟨some 33, .un .not (.t 32), none⟩] [2, 4, 5, 33])
      (.cond (.t 33)
        (.seq (.reg [⟨some 34, .bld [.nilS, .nilS, .int .i64 0] [], none⟩,
            ⟨none, .st 3 (.t 2) (.t 34), none⟩,
            ⟨some 3, .mv (.k (.sc (.int .i64 3))), none⟩] [2, 3])
         (.ret))
        (.skip)))
     (.seq (.reg [⟨some 35, .mv (.t 4), none⟩,
         ⟨some 36, .len false (.t 35), none⟩,
         ⟨some 7, .mv (.t 36), none⟩] [2, 4, 5, 7])
      (.seq (.seq (.reg [⟨some 37, .mv (.t 7), none⟩,
           ⟨some 38, .bin .gtr (.t 37) (.k (.sc (.int .i64 64))), none⟩,
           ⟨some 39, .mv (.t 38), none⟩,
           ⟨some 40, .mv (.t 5), (some (39, false))⟩,
           ⟨some 41, .bin .gtr (.t 40) (.k (.sc (.int .i64 64))), (some (39, false))⟩,
           ⟨some 42, .pick (.t 39) (.k (.sc (.bool true))) (.t 41), none⟩] [2, 4, 5, 7, 42])
        (.cond (.t 42)
          (.seq (.reg [⟨some 43, .bld [.nilS, .nilS, .int .i64 0] [], none⟩,
              ⟨none, .st 3 (.t 2) (.t 43), none⟩,
              ⟨some 3, .mv (.k (.sc (.int .i64 5))), none⟩] [2, 3])
           (.ret))
          (.skip)))
       (.seq (.regd [(⟨some 44, .mv (.t 7), none⟩, 0, false),
           (⟨some 45, .mk 1 8 [.int .i64 0] (.t 44) (.t 44), none⟩, 1, false),
           (⟨some 46, .mv (.t 7), none⟩, 2, false),
           (⟨some 47, .bin .mul (.k (.sc (.int .i64 4))) (.t 46), none⟩, 3, false),
           (⟨some 48, .mk 1 8 [.int .i64 0] (.t 47) (.t 47), none⟩, 4, false),
           (⟨some 49, .mv (.t 5), none⟩, 5, false),
           (⟨some 50, .bld [.nilS, .nilS, .int .i64 0] [(0, 1, .t 45), (1, 1, .t 48), (2, 1, .t 49)], none⟩, 6, false),
           (⟨some 8, .new [.nilS, .nilS, .int .i64 0], none⟩, 7, false),
           (⟨none, .st 3 (.t 8) (.t 50), none⟩, 8, true)] [2, 4, 8])
        (.seq (.reg [⟨some 51, .mpM ⟨1001001, none⟩, none⟩,
            ⟨some 9, .mv (.t 51), none⟩] [2, 4, 8, 9])
         (.seq (.reg [⟨some 52, .mpM ⟨1001001, none⟩, none⟩,
             ⟨some 10, .mv (.t 52), none⟩] [2, 4, 8, 9, 10])
          (.seq (.seq (.reg [⟨some 53, .mv (.t 4), none⟩,
               ⟨some 54, .len false (.t 53), none⟩,
               ⟨some 55, .mv (.k (.sc (.int .i64 0))), none⟩] [2, 8, 9, 10, 53, 54, 55])
            (.block 0 (.loop [2, 8, 9, 10, 53, 54, 55] b22L0)))
           (.seq (.seq (.reg [⟨some 94, .mv (.t 9), none⟩,
                ⟨some 95, .mpR (.t 94), none⟩] [2, 8, 10, 95])
             (.block 4 (.loop [2, 8, 10, 95] b22L2)))
            (.seq (.seq (.reg [⟨some 120, .ld 3 true (.t 8), none⟩,
                 ⟨some 121, .call 20 [(.t 120)], none⟩,
                 ⟨some 122, .un .not (.t 121), none⟩] [2, 8, 122])
              (.cond (.t 122)
                (.seq (.reg [⟨some 123, .bld [.nilS, .nilS, .int .i64 0] [], none⟩,
                    ⟨none, .st 3 (.t 2) (.t 123), none⟩,
                    ⟨some 3, .mv (.k (.sc (.int .i64 7))), none⟩] [2, 3])
                 (.ret))
                (.skip)))
             (.seq (.reg [⟨some 124, .ld 3 true (.t 8), none⟩,
                 ⟨none, .st 3 (.t 2) (.t 124), none⟩,
                 ⟨some 3, .mv (.k (.sc (.int .i64 0))), none⟩] [2, 3])
              (.ret)))))))))))))
def a22 : AFun := ⟨1, b22, [.cell 2 3 true, .t 3]⟩

def b23L0 : AC :=
  .seq (.seq (.reg [⟨some 58, .mv (.t 8), none⟩,
      ⟨some 59, .mv (.t 4), none⟩,
      ⟨some 60, .len false (.t 59), none⟩,
      ⟨some 61, .bin .sub (.t 60) (.k (.sc (.int .i64 2))), none⟩,
      ⟨some 62, .bin .lss (.t 58) (.t 61), none⟩] [2, 4, 6, 7, 8, 62])
   (.cond (.t 62)
     (.skip)
     (.exit 0)))
  (.seq (.block 1 (.seq (.reg [⟨some 66, .mv (.t 4), none⟩,
        ⟨some 67, .mv (.t 8), none⟩,
        ⟨some 68, .idxA 1 (.t 66) (.t 67), none⟩,
        ⟨some 69, .ld 1 false (.t 68), none⟩,
        ⟨some 70, .call 48 [(.t 69)], none⟩,
        ⟨some 65, .mv (.t 70), none⟩,
        ⟨some 71, .ext (.t 65) 0, none⟩,
        ⟨some 72, .ext (.t 65) 1, none⟩,
        ⟨some 9, .mv (.t 71), none⟩,
        ⟨some 10, .mv (.t 72), none⟩] [2, 4, 6, 7, 8, 9, 10])
     (.seq (.seq (.reg [⟨some 73, .mv (.t 9), none⟩,
          ⟨some 74, .bin .eql (.t 73) (.k (.sc (.int .i64 0))), none⟩] [2, 4, 6, 7, 8, 9, 10, 74])
       (.cond (.t 74)
         (.seq (.reg [⟨some 75, .bld [.nilS, .nilS, .int .i64 0] [], none⟩,
             ⟨none, .st 3 (.t 2) (.t 75), none⟩,
             ⟨some 3, .mv (.k (.sc (.int .i64 3))), none⟩] [2, 3])
          (.ret))
         (.skip)))
      (.reg [⟨some 76, .fldA 0 (.t 6), none⟩,
         ⟨some 77, .ld 1 false (.t 76), none⟩,
         ⟨some 78, .mv (.t 9), none⟩,
         ⟨some 79, .bsl 1 [.int .i64 0] 1 [(0, .t 78)], none⟩,
         ⟨some 80, .app 1 8 [.int .i64 0] (.t 77) (.t 79), none⟩,
         ⟨some 81, .mv (.t 7), none⟩,
         ⟨some 82, .mv (.t 10), none⟩,
         ⟨some 83, .app 1 8 [.int .i64 0] (.t 81) (.t 82), none⟩,
         ⟨some 84, .fldA 0 (.t 6), none⟩,
         ⟨none, .st 1 (.t 84) (.t 80), none⟩,
         ⟨some 7, .mv (.t 83), none⟩] [2, 4, 6, 7, 8]))))
   (.reg [⟨some 63, .mv (.t 8), none⟩,
      ⟨some 64, .bin .add (.t 63) (.k (.sc (.int .i64 1))), none⟩,
      ⟨some 8, .mv (.t 64), none⟩] [2, 4, 6, 7, 8]))
def b23L2 : AC :=
  .seq (.seq (.reg [⟨some 105, .mv (.t 13), none⟩,
      ⟨some 106, .mv (.t 7), none⟩,
      ⟨some 107, .len false (.t 106), none⟩,
      ⟨some 108, .bin .lss (.t 105) (.t 107), none⟩] [2, 6, 7, 11, 12, 13, 108])
   (.cond (.t 108)
     (.skip)
     (.exit 4)))
  (.seq (.block 5 (.seq (.regd [(⟨some 111, .mv (.t 13), none⟩, 0, false),
        (⟨some 112, .mv (.t 11), none⟩, 1, false),
        (⟨some 113, .bin .neq (.t 111) (.t 112), none⟩, 2, false),
        (⟨some 114, .mv (.t 113), none⟩, 3, false),
        (⟨some 115, .mv (.t 7), (some (114, true))⟩, 4, false),
        (⟨some 116, .mv (.t 13), (some (114, true))⟩, 5, false),
        (⟨some 117, .idxA 1 (.t 115) (.t 116), (some (114, true))⟩, 6, false),
        (⟨some 118, .ld 1 false (.t 117), (some (114, true))⟩, 7, false),
        (⟨some 119, .mv (.t 7), (some (114, true))⟩, 8, false),
        (⟨some 120, .mv (.t 11), (some (114, true))⟩, 9, false),
        (⟨some 121, .idxA 1 (.t 119) (.t 120), (some (114, true))⟩, 10, false),
        (⟨some 122, .ld 1 false (.t 121), (some (114, true))⟩, 11, false),
        (⟨some 123, .bin .eql (.t 118) (.t 122), (some (114, true))⟩, 12, false),
        (⟨some 124, .pick (.t 114) (.t 123) (.k (.sc (.bool false))), none⟩, 13, false)] [2, 6, 7, 11, 12, 13, 124])
     (.cond (.t 124)
       (.seq (.reg [⟨some 125, .mv (.t 12), none⟩,
           ⟨some 126, .bin .add (.t 125) (.k (.sc (.int .i64 1))), none⟩,
           ⟨some 12, .mv (.t 126), none⟩] [2, 6, 7, 11, 12, 13])
        (.reg [⟨some 127, .fldA 1 (.t 6), none⟩,
           ⟨some 128, .ld 1 false (.t 127), none⟩,
           ⟨some 129, .mv (.t 11), none⟩,
           ⟨some 130, .mv (.t 13), none⟩,
           ⟨some 131, .idxA 1 (.t 128) (.t 129), none⟩,
           ⟨none, .st 1 (.t 131) (.t 130), none⟩] [2, 6, 7, 11, 12, 13]))
       (.skip))))
   (.reg [⟨some 109, .mv (.t 13), none⟩,
      ⟨some 110, .bin .add (.t 109) (.k (.sc (.int .i64 1))), none⟩,
      ⟨some 13, .mv (.t 110), none⟩] [2, 6, 7, 11, 12, 13]))
def b23L1 : AC :=
  .seq (.seq (.reg [⟨some 99, .mv (.t 11), none⟩,
      ⟨some 100, .mv (.t 7), none⟩,
      ⟨some 101, .len false (.t 100), none⟩,
      ⟨some 102, .bin .lss (.t 99) (.t 101), none⟩] [2, 6, 7, 11, 102])
   (.cond (.t 102)
     (.skip)
     (.exit 2)))
  (.seq (.block 3 (.seq (.reg [⟨some 12, .mv (.k (.sc (.int .i64 0))), none⟩] [2, 6, 7, 11, 12])
     (.seq (.seq (.reg [⟨some 13, .mv (.k (.sc (.int .i64 0))), none⟩] [2, 6, 7, 11, 12, 13])
       (.block 4 (.loop [2, 6, 7, 11, 12, 13] b23L2)))
      (.seq (.regd [(⟨some 132, .mv (.t 12), none⟩, 0, false),
          (⟨some 133, .bin .neq (.t 132) (.k (.sc (.int .i64 1))), none⟩, 1, false),
          (⟨some 134, .mv (.t 133), none⟩, 2, false),
          (⟨some 135, .fldA 0 (.t 6), (some (134, false))⟩, 3, false),
          (⟨some 136, .ld 1 false (.t 135), (some (134, false))⟩, 4, false),
          (⟨some 137, .mv (.t 11), (some (134, false))⟩, 5, false),
          (⟨some 138, .call 34 [(.t 136), (.t 137)], (some (134, false))⟩, 6, false),
          (⟨some 139, .fldA 0 (.t 6), (some (134, false))⟩, 7, false),
          (⟨some 140, .ld 1 false (.t 139), (some (134, false))⟩, 8, false),
          (⟨some 141, .fldA 1 (.t 6), (some (134, false))⟩, 9, false),
          (⟨some 142, .ld 1 false (.t 141), (some (134, false))⟩, 10, false),
          (⟨some 143, .mv (.t 11), (some (134, false))⟩, 11, false),
          (⟨some 144, .idxA 1 (.t 142) (.t 143), (some (134, false))⟩, 12, false),
          (⟨some 145, .ld 1 false (.t 144), (some (134, false))⟩, 13, false),
          (⟨some 146, .call 34 [(.t 140), (.t 145)], (some (134, false))⟩, 14, true),
          (⟨some 147, .beq false (.t 138) (.t 146), (some (134, false))⟩, 15, false),
          (⟨some 148, .pick (.t 134) (.k (.sc (.bool true))) (.t 147), none⟩, 16, false)] [2, 6, 7, 11, 148])
       (.cond (.t 148)
         (.seq (.reg [⟨some 149, .bld [.nilS, .nilS, .int .i64 0] [], none⟩,
             ⟨none, .st 3 (.t 2) (.t 149), none⟩,
             ⟨some 3, .mv (.k (.sc (.int .i64 3))), none⟩] [2, 3])
          (.ret))
         (.skip))))))
   (.reg [⟨some 103, .mv (.t 11), none⟩,
      ⟨some 104, .bin .add (.t 103) (.k (.sc (.int .i64 1))), none⟩,
      ⟨some 11, .mv (.t 104), none⟩] [2, 6, 7, 11]))
/-- unravel/unravelref03.Parse -/
def b23 : AC :=
  .seq (.reg [⟨some 2, .new [.nilS, .nilS, .int .i64 0], none⟩,
     ⟨some 3, .mv (.k (.sc (.int .i64 0))), none⟩] [0, 2])
  (.seq (.seq (.reg [⟨some 14, .mv (.t 0), none⟩,
       ⟨some 15, .len true (.t 14), none⟩,
       ⟨some 16, .bin .gtr (.t 15) (.k (.sc (.int .i64 65536))), none⟩] [0, 2, 16])
    (.cond (.t 16)
      (.seq (.reg [⟨some 17, .bld [.nilS, .nilS, .int .i64 0] [], none⟩,
          ⟨none, .st 3 (.t 2) (.t 17), none⟩,
          ⟨some 3, .mv (.k (.sc (.int .i64 5))), none⟩] [2, 3])
       (.ret))
      (.skip)))
   (.seq (.reg [⟨some 18, .mv (.t 0), none⟩,
       ⟨some 19, .call 46 [(.t 18), (.k (.sc (.int .u8 10)))], none⟩,
       ⟨some 4, .mv (.t 19), none⟩] [2, 4])
    (.seq (.seq (.reg [⟨some 20, .mv (.t 4), none⟩,
         ⟨some 21, .len false (.t 20), none⟩,
         ⟨some 22, .bin .lss (.t 21) (.k (.sc (.int .i64 2))), none⟩,
         ⟨some 23, .mv (.t 22), none⟩,
         ⟨some 24, .mv (.t 4), (some (23, false))⟩,
         ⟨some 25, .mv (.t 4), (some (23, false))⟩,
         ⟨some 26, .len false (.t 25), (some (23, false))⟩,
         ⟨some 27, .bin .sub (.t 26) (.k (.sc (.int .i64 1))), (some (23, false))⟩,
         ⟨some 28, .idxA 1 (.t 24) (.t 27), (some (23, false))⟩,
         ⟨some 29, .ld 1 false (.t 28), (some (23, false))⟩,
         ⟨some 30, .bin .neq (.t 29) (.k (.sc (.str ⟨#[]⟩))), (some (23, false))⟩,
         ⟨some 31, .pick (.t 23) (.k (.sc (.bool true))) (.t 30), none⟩] [2, 4, 31])
      (.cond (.t 31)
        (.seq (.reg [⟨some 32, .bld [.nilS, .nilS, .int .i64 0] [], none⟩,
            ⟨none, .st 3 (.t 2) (.t 32), none⟩,
            ⟨some 3, .mv (.k (.sc (.int .i64 3))), none⟩] [2, 3])
         (.ret))
        (.skip)))
     (.seq (.reg [⟨some 33, .mv (.t 4), none⟩,
         ⟨some 34, .mv (.t 4), none⟩,
         ⟨some 35, .len false (.t 34), none⟩,
         ⟨some 36, .bin .sub (.t 35) (.k (.sc (.int .i64 2))), none⟩,
         ⟨some 37, .idxA 1 (.t 33) (.t 36), none⟩,
         ⟨some 38, .ld 1 false (.t 37), none⟩,
         ⟨some 5, .mv (.t 38), none⟩] [2, 4, 5])
      (.seq (.seq (.reg [⟨some 39, .mv (.t 5), none⟩,
           ⟨some 40, .len true (.t 39), none⟩,
           ⟨some 41, .bin .lss (.t 40) (.k (.sc (.int .i64 7))), none⟩,
           ⟨some 42, .mv (.t 41), none⟩,
           ⟨some 43, .mv (.t 5), (some (42, false))⟩,
           ⟨some 44, .slS (.t 43) none (some (.k (.sc (.int .i64 6)))), (some (42, false))⟩,
           ⟨some 45, .bin .neq (.t 44) (.k (.sc (.str ⟨#[108, 111, 111, 112, 115, 32]⟩))), (some (42, false))⟩,
           ⟨some 46, .pick (.t 42) (.k (.sc (.bool true))) (.t 45), none⟩,
           ⟨some 47, .mv (.t 46), none⟩,
           ⟨some 48, .mv (.t 5), (some (47, false))⟩,
           ⟨some 49, .slS (.t 48) (some (.k (.sc (.int .i64 6)))) none, (some (47, false))⟩,
           ⟨some 50, .call 47 [(.t 49), (.k (.sc (.int .i64 3)))], (some (47, false))⟩,
           ⟨some 51, .bin .lss (.t 50) (.k (.sc (.int .i64 0))), (some (47, false))⟩,
           ⟨some 52, .pick (.t 47) (.k (.sc (.bool true))) (.t 51), none⟩] [2, 4, 5, 52])
        (.cond (.t 52)
          (.seq (.reg [⟨some 53, .bld [.nilS, .nilS, .int .i64 0] [], none⟩,
              ⟨none, .st 3 (.t 2) (.t 53), none⟩,
              ⟨some 3, .mv (.k (.sc (.int .i64 3))), none⟩] [2, 3])
           (.ret))
          (.skip)))
       (.seq (.reg [⟨some 54, .mv (.t 5), none⟩,
           ⟨some 55, .slS (.t 54) (some (.k (.sc (.int .i64 6)))) none, none⟩,
           ⟨some 56, .call 47 [(.t 55), (.k (.sc (.int .i64 3)))], none⟩,
           ⟨some 57, .bld [.nilS, .nilS, .int .i64 0] [(2, 1, .t 56)], none⟩,
           ⟨some 6, .new [.nilS, .nilS, .int .i64 0], none⟩,
           ⟨none, .st 3 (.t 6) (.t 57), none⟩] [2, 4, 6])
        (.seq (.reg [⟨some 7, .mv (.k (.sc .nilS)), none⟩] [2, 4, 6, 7])
         (.seq (.seq (.reg [⟨some 8, .mv (.k (.sc (.int .i64 0))), none⟩] [2, 4, 6, 7, 8])
           (.block 0 (.loop [2, 4, 6, 7, 8] b23L0)))
          (.seq (.seq (.reg [⟨some 85, .fldA 0 (.t 6), none⟩,
               ⟨some 86, .ld 1 false (.t 85), none⟩,
               ⟨some 87, .len false (.t 86), none⟩,
               ⟨some 88, .bin .gtr (.t 87) (.k (.sc (.int .i64 64))), none⟩,
               ⟨some 89, .mv (.t 88), none⟩,
               ⟨some 90, .fldA 2 (.t 6), (some (89, false))⟩,
               ⟨some 91, .ld 1 false (.t 90), (some (89, false))⟩,
               ⟨some 92, .bin .gtr (.t 91) (.k (.sc (.int .i64 64))), (some (89, false))⟩,
               ⟨some 93, .pick (.t 89) (.k (.sc (.bool true))) (.t 92), none⟩] [2, 6, 7, 93])
            (.cond (.t 93)
              (.seq (.reg [⟨some 94, .bld [.nilS, .nilS, .int .i64 0] [], none⟩,
                  ⟨none, .st 3 (.t 2) (.t 94), none⟩,
                  ⟨some 3, .mv (.k (.sc (.int .i64 5))), none⟩] [2, 3])
               (.ret))
              (.skip)))
           (.seq (.reg [⟨some 95, .mv (.t 7), none⟩,
               ⟨some 96, .len false (.t 95), none⟩,
               ⟨some 97, .mk 1 8 [.int .i64 0] (.t 96) (.t 96), none⟩,
               ⟨some 98, .fldA 1 (.t 6), none⟩,
               ⟨none, .st 1 (.t 98) (.t 97), none⟩] [2, 6, 7])
            (.seq (.seq (.reg [⟨some 11, .mv (.k (.sc (.int .i64 0))), none⟩] [2, 6, 7, 11])
              (.block 2 (.loop [2, 6, 7, 11] b23L1)))
             (.seq (.seq (.reg [⟨some 150, .ld 3 true (.t 6), none⟩,
                  ⟨some 151, .call 40 [(.t 150)], none⟩,
                  ⟨some 152, .un .not (.t 151), none⟩] [2, 6, 152])
               (.cond (.t 152)
                 (.seq (.reg [⟨some 153, .bld [.nilS, .nilS, .int .i64 0] [], none⟩,
                     ⟨none, .st 3 (.t 2) (.t 153), none⟩,
                     ⟨some 3, .mv (.k (.sc (.int .i64 7))), none⟩] [2, 3])
                  (.ret))
                 (.skip)))
              (.seq (.reg [⟨some 154, .ld 3 true (.t 6), none⟩,
                  ⟨none, .st 3 (.t 2) (.t 154), none⟩,
                  ⟨some 3, .mv (.k (.sc (.int .i64 0))), none⟩] [2, 3])
               (.ret))))))))))))))
def a23 : AFun := ⟨1, b23, [.cell 2 3 true, .t 3]⟩

/-- unravel/diagram.Strands -/
def b25 : AC :=
  .seq (.reg [⟨some 1, .box (.t 0), none⟩,
     ⟨some 2, .mv (.k (.sc .nilS)), none⟩] [1])
  (.seq (.seq (.reg [⟨some 4, .ld 3 true (.t 1), none⟩,
       ⟨some 5, .call 20 [(.t 4)], none⟩,
       ⟨some 6, .un .not (.t 5), none⟩] [1, 6])
    (.cond (.t 6)
      (.seq (.reg [⟨some 2, .mv (.k (.sc .nilS)), none⟩] [2])
       (.ret))
      (.skip)))
   (.seq (.reg [⟨some 7, .mkf 50 [(.t 1)], none⟩,
       ⟨some 3, .mv (.t 7), none⟩] [1, 3])
    (.seq (.reg [⟨some 8, .fldA 1 (.t 1), none⟩,
        ⟨some 9, .ld 1 false (.t 8), none⟩,
        ⟨some 10, .len false (.t 9), none⟩,
        ⟨some 11, .mv (.t 3), none⟩,
        ⟨some 12, .mkf 52 [(.t 1)], none⟩,
        ⟨some 13, .call 51 [(.t 10), (.t 11), (.t 12)], none⟩,
        ⟨some 2, .mv (.t 13), none⟩] [2])
     (.ret))))
def a25 : AFun := ⟨1, b25, [.t 2]⟩

/-- unravel/unravellaw03.kink -/
def b30 : AC :=
  .seq (.reg [⟨some 0, .new [.nilS, .nilS, .int .i64 0], none⟩] [0])
  (.seq (.reg [⟨some 1, .bsl 1 [.int .i64 0] 1 [(0, .k (.sc (.int .i64 1)))], none⟩,
      ⟨some 2, .bsl 1 [.int .i64 0] 4 [(0, .k (.sc (.int .i64 1))), (1, .k (.sc (.int .i64 0))), (2, .k (.sc (.int .i64 3))), (3, .k (.sc (.int .i64 2)))], none⟩,
      ⟨some 3, .bld [.nilS, .nilS, .int .i64 0] [(0, 1, .t 1), (1, 1, .t 2)], none⟩,
      ⟨none, .st 3 (.t 0) (.t 3), none⟩] [0])
   (.ret))
def a30 : AFun := ⟨0, b30, [.cell 0 3 true]⟩

/-- (*strings.Builder).WriteByte -/
def b31 : AC :=
  .seq (.reg [⟨some 4, .mv (.k (.sc .nilI)), none⟩] [0, 1])
  (.seq (.reg [⟨some 5, .mv (.t 0), none⟩,
      ⟨some 6, .call 59 [(.t 5)], none⟩] [0, 1])
   (.seq (.reg [⟨some 7, .mv (.t 0), none⟩,
       ⟨some 8, .mv (.t 0), none⟩,
       ⟨some 9, .nilc (.t 8), none⟩,
       ⟨some 10, .fldA 1 (.t 9), none⟩,
       ⟨some 11, .ld 1 false (.t 10), none⟩,
       ⟨some 12, .mv (.t 1), none⟩,
       ⟨some 13, .bsl ⟨1, some 5⟩ [.int .u8 0] 1 [(0, .t 12)], none⟩,
       ⟨some 14, .app ⟨1, some 5⟩ 1 [.int .u8 0] (.t 11) (.t 13), none⟩,
       ⟨some 15, .nilc (.t 7), none⟩,
       ⟨some 16, .fldA 1 (.t 15), none⟩,
       ⟨none, .st 1 (.t 16) (.t 14), none⟩] [])
    (.seq (.reg [⟨some 4, .mv (.k (.sc .nilI)), none⟩] [4])
     (.ret))))
def a31 : AFun := ⟨2, b31, [.t 4]⟩

/-- (*strings.Builder).WriteString -/
def b32 : AC :=
  .seq (.reg [⟨some 4, .mv (.k (.sc (.int .i64 0))), none⟩,
     ⟨some 5, .mv (.k (.sc .nilI)), none⟩] [0, 1])
  (.seq (.reg [⟨some 6, .mv (.t 0), none⟩,
      ⟨some 7, .call 59 [(.t 6)], none⟩] [0, 1])
   (.seq (.reg [⟨some 8, .mv (.t 0), none⟩,
       ⟨some 9, .mv (.t 0), none⟩,
       ⟨some 10, .nilc (.t 9), none⟩,
       ⟨some 11, .fldA 1 (.t 10), none⟩,
       ⟨some 12, .ld 1 false (.t 11), none⟩,
       ⟨some 13, .mv (.t 1), none⟩,
       ⟨some 14, .app ⟨1, some 5⟩ 1 [.int .u8 0] (.t 12) (.t 13), none⟩,
       ⟨some 15, .nilc (.t 8), none⟩,
       ⟨some 16, .fldA 1 (.t 15), none⟩,
       ⟨none, .st 1 (.t 16) (.t 14), none⟩] [1])
    (.seq (.reg [⟨some 17, .mv (.t 1), none⟩,
        ⟨some 18, .len true (.t 17), none⟩,
        ⟨some 4, .mv (.t 18), none⟩,
        ⟨some 5, .mv (.k (.sc .nilI)), none⟩] [4, 5])
     (.ret))))
def a32 : AFun := ⟨2, b32, [.t 4, .t 5]⟩

/-- (*strings.Builder).String -/
def b33 : AC :=
  .seq (.reg [⟨some 2, .mv (.k (.sc (.str ⟨#[]⟩))), none⟩] [0])
  (.seq (.regd [(⟨some 3, .mv (.t 0), none⟩, 0, false),
      (⟨some 4, .nilc (.t 3), none⟩, 1, false),
      (⟨some 5, .fldA 1 (.t 4), none⟩, 2, false),
      (⟨some 6, .ld 1 false (.t 5), none⟩, 3, false),
      (⟨some 7, .usd (.t 6), none⟩, 4, false),
      (⟨some 8, .mv (.t 0), none⟩, 5, false),
      (⟨some 9, .nilc (.t 8), none⟩, 6, false),
      (⟨some 10, .fldA 1 (.t 9), none⟩, 7, false),
      (⟨some 11, .ld 1 false (.t 10), none⟩, 8, false),
      (⟨some 12, .len false (.t 11), none⟩, 9, false),
      (⟨some 13, .ustr 5 (.t 7) (.t 12), none⟩, 10, true),
      (⟨some 2, .mv (.t 13), none⟩, 11, false)] [2])
   (.ret))
def a33 : AFun := ⟨1, b33, [.t 2]⟩

/-- unravel/unravelref01.Out -/
def b34 : AC :=
  .seq (.reg [⟨some 4, .mv (.k (.sc (.bool false))), none⟩] [0, 1])
  (.seq (.seq (.reg [⟨some 5, .mv (.t 1), none⟩,
       ⟨some 6, .bin .rem (.t 5) (.k (.sc (.int .i64 4))), none⟩] [0, 1, 6])
    (.block 0 (.seq (.reg [⟨some 8, .bin .eql (.t 6) (.k (.sc (.int .i64 2))), none⟩,
         ⟨some 7, .mv (.t 8), none⟩] [0, 1, 6, 7])
      (.cond (.t 7)
        (.seq (.reg [⟨some 4, .mv (.k (.sc (.bool true))), none⟩] [4])
         (.ret))
        (.seq (.reg [⟨some 10, .bin .eql (.t 6) (.k (.sc (.int .i64 1))), none⟩,
            ⟨some 9, .mv (.t 10), none⟩] [0, 1, 6, 9])
         (.cond (.t 9)
           (.seq (.reg [⟨some 11, .mv (.t 0), none⟩,
               ⟨some 12, .mv (.t 1), none⟩,
               ⟨some 13, .bin .quo (.t 12) (.k (.sc (.int .i64 4))), none⟩,
               ⟨some 14, .idxA 1 (.t 11) (.t 13), none⟩,
               ⟨some 15, .ld 1 false (.t 14), none⟩,
               ⟨some 16, .bin .eql (.t 15) (.k (.sc (.int .i64 1))), none⟩,
               ⟨some 4, .mv (.t 16), none⟩] [4])
            (.ret))
           (.seq (.reg [⟨some 18, .bin .eql (.t 6) (.k (.sc (.int .i64 3))), none⟩,
               ⟨some 17, .mv (.t 18), none⟩] [0, 1, 17])
            (.cond (.t 17)
              (.seq (.reg [⟨some 19, .mv (.t 0), none⟩,
                  ⟨some 20, .mv (.t 1), none⟩,
                  ⟨some 21, .bin .quo (.t 20) (.k (.sc (.int .i64 4))), none⟩,
                  ⟨some 22, .idxA 1 (.t 19) (.t 21), none⟩,
                  ⟨some 23, .ld 1 false (.t 22), none⟩,
                  ⟨some 24, .bin .eql (.t 23) (.k (.sc (.int .i64 (-1)))), none⟩,
                  ⟨some 4, .mv (.t 24), none⟩] [4])
               (.ret))
              (.skip)))))))))
   (.seq (.reg [⟨some 4, .mv (.k (.sc (.bool false))), none⟩] [4])
    (.ret)))
def a34 : AFun := ⟨2, b34, [.t 4]⟩

def b35L0 : AC :=
  .seq (.seq (.reg [⟨some 16, .mv (.t 5), none⟩,
      ⟨some 17, .mv (.t 3), none⟩,
      ⟨some 18, .bin .lss (.t 16) (.t 17), none⟩] [0, 3, 4, 5, 18])
   (.cond (.t 18)
     (.skip)
     (.exit 0)))
  (.seq (.block 1 (.reg [⟨some 21, .mv (.t 4), none⟩,
       ⟨some 22, .mv (.t 5), none⟩,
       ⟨some 23, .mv (.t 5), none⟩,
       ⟨some 24, .idxA 1 (.t 21) (.t 22), none⟩,
       ⟨none, .st 1 (.t 24) (.t 23), none⟩] [0, 3, 4, 5]))
   (.reg [⟨some 19, .mv (.t 5), none⟩,
      ⟨some 20, .bin .add (.t 19) (.k (.sc (.int .i64 1))), none⟩,
      ⟨some 5, .mv (.t 20), none⟩] [0, 3, 4, 5]))
def b35L2 : AC :=
  .seq (.seq (.reg [⟨some 30, .mv (.t 7), none⟩,
      ⟨some 31, .mv (.t 0), none⟩,
      ⟨some 32, .len false (.t 31), none⟩,
      ⟨some 33, .bin .lss (.t 30) (.t 32), none⟩] [0, 3, 4, 6, 7, 33])
   (.cond (.t 33)
     (.skip)
     (.exit 4)))
  (.seq (.block 5 (.seq (.regd [(⟨some 36, .mv (.t 7), none⟩, 0, false),
        (⟨some 37, .bin .quo (.t 36) (.k (.sc (.int .i64 4))), none⟩, 1, false),
        (⟨some 38, .mv (.t 0), none⟩, 2, false),
        (⟨some 39, .mv (.t 7), none⟩, 3, false),
        (⟨some 40, .idxA 1 (.t 38) (.t 39), none⟩, 4, false),
        (⟨some 41, .ld 1 false (.t 40), none⟩, 5, true),
        (⟨some 42, .bin .quo (.t 41) (.k (.sc (.int .i64 4))), none⟩, 6, false),
        (⟨some 8, .mv (.t 37), none⟩, 7, false),
        (⟨some 9, .mv (.t 42), none⟩, 8, false)] [0, 3, 4, 6, 7, 8, 9])
     (.seq (.regd [(⟨some 43, .mv (.t 4), none⟩, 0, false),
         (⟨some 44, .mv (.t 8), none⟩, 1, false),
         (⟨some 45, .idxA 1 (.t 43) (.t 44), none⟩, 2, false),
         (⟨some 46, .ld 1 false (.t 45), none⟩, 3, false),
         (⟨some 47, .mv (.t 4), none⟩, 4, false),
         (⟨some 48, .mv (.t 9), none⟩, 5, false),
         (⟨some 49, .idxA 1 (.t 47) (.t 48), none⟩, 6, false),
         (⟨some 50, .ld 1 false (.t 49), none⟩, 7, false),
         (⟨some 51, .mm false (.t 46) [(.t 50)], none⟩, 8, false),
         (⟨some 10, .mv (.t 51), none⟩, 9, false)] [0, 3, 4, 6, 7, 8, 9, 10])
      (.reg [⟨some 52, .mv (.t 4), none⟩,
         ⟨some 53, .mv (.t 8), none⟩,
         ⟨some 54, .mv (.t 4), none⟩,
         ⟨some 55, .mv (.t 9), none⟩,
         ⟨some 56, .mv (.t 10), none⟩,
         ⟨some 57, .mv (.t 10), none⟩,
         ⟨some 58, .idxA 1 (.t 52) (.t 53), none⟩,
         ⟨none, .st 1 (.t 58) (.t 56), none⟩,
         ⟨some 59, .idxA 1 (.t 54) (.t 55), none⟩,
         ⟨none, .st 1 (.t 59) (.t 57), none⟩] [0, 3, 4, 6, 7]))))
   (.reg [⟨some 34, .mv (.t 7), none⟩,
      ⟨some 35, .bin .add (.t 34) (.k (.sc (.int .i64 1))), none⟩,
      ⟨some 7, .mv (.t 35), none⟩] [0, 3, 4, 6, 7]))
def b35L1 : AC :=
  .seq (.seq (.reg [⟨some 25, .mv (.t 6), none⟩,
      ⟨some 26, .mv (.t 3), none⟩,
      ⟨some 27, .bin .lss (.t 25) (.t 26), none⟩] [0, 3, 4, 6, 27])
   (.cond (.t 27)
     (.skip)
     (.exit 2)))
  (.seq (.block 3 (.seq (.reg [⟨some 7, .mv (.k (.sc (.int .i64 0))), none⟩] [0, 3, 4, 6, 7])
     (.block 4 (.loop [0, 3, 4, 6, 7] b35L2))))
   (.reg [⟨some 28, .mv (.t 6), none⟩,
      ⟨some 29, .bin .add (.t 28) (.k (.sc (.int .i64 1))), none⟩,
      ⟨some 6, .mv (.t 29), none⟩] [0, 3, 4, 6]))
/-- unravel/unravelref01.Label -/
def b35 : AC :=
  .seq (.reg [⟨some 2, .mv (.k (.sc .nilS)), none⟩] [0])
  (.seq (.reg [⟨some 11, .mv (.t 0), none⟩,
      ⟨some 12, .len false (.t 11), none⟩,
      ⟨some 13, .bin .quo (.t 12) (.k (.sc (.int .i64 4))), none⟩,
      ⟨some 3, .mv (.t 13), none⟩] [0, 3])
   (.seq (.reg [⟨some 14, .mv (.t 3), none⟩,
       ⟨some 15, .mk 1 8 [.int .i64 0] (.t 14) (.t 14), none⟩,
       ⟨some 4, .mv (.t 15), none⟩] [0, 3, 4])
    (.seq (.seq (.reg [⟨some 5, .mv (.k (.sc (.int .i64 0))), none⟩] [0, 3, 4, 5])
      (.block 0 (.loop [0, 3, 4, 5] b35L0)))
     (.seq (.seq (.reg [⟨some 6, .mv (.k (.sc (.int .i64 0))), none⟩] [0, 3, 4, 6])
       (.block 2 (.loop [0, 3, 4, 6] b35L1)))
      (.seq (.reg [⟨some 60, .mv (.t 4), none⟩,
          ⟨some 2, .mv (.t 60), none⟩] [2])
       (.ret))))))
def a35 : AFun := ⟨1, b35, [.t 2]⟩

def b36L1 : AC :=
  .seq (.seq (.reg [⟨some 17, .mv (.t 7), none⟩,
      ⟨some 18, .mv (.t 5), none⟩,
      ⟨some 19, .len false (.t 18), none⟩,
      ⟨some 20, .bin .lss (.t 17) (.t 19), none⟩] [0, 3, 4, 5, 6, 7, 20])
   (.cond (.t 20)
     (.skip)
     (.exit 2)))
  (.seq (.block 3 (.reg [⟨some 23, .mv (.t 6), none⟩,
       ⟨some 24, .mv (.t 23), none⟩,
       ⟨some 25, .mv (.t 4), (some (24, true))⟩,
       ⟨some 26, .mv (.t 5), (some (24, true))⟩,
       ⟨some 27, .mv (.t 7), (some (24, true))⟩,
       ⟨some 28, .idxA 1 (.t 26) (.t 27), (some (24, true))⟩,
       ⟨some 29, .ld 1 false (.t 28), (some (24, true))⟩,
       ⟨some 30, .bin .leq (.t 25) (.t 29), (some (24, true))⟩,
       ⟨some 31, .pick (.t 24) (.t 30) (.k (.sc (.bool false))), none⟩,
       ⟨some 6, .mv (.t 31), none⟩] [0, 3, 4, 5, 6, 7]))
   (.reg [⟨some 21, .mv (.t 7), none⟩,
      ⟨some 22, .bin .add (.t 21) (.k (.sc (.int .i64 1))), none⟩,
      ⟨some 7, .mv (.t 22), none⟩] [0, 3, 4, 5, 6, 7]))
def b36L0 : AC :=
  .seq (.seq (.reg [⟨some 8, .mv (.t 4), none⟩,
      ⟨some 9, .mv (.t 0), none⟩,
      ⟨some 10, .len false (.t 9), none⟩,
      ⟨some 11, .bin .lss (.t 8) (.t 10), none⟩] [0, 3, 4, 11])
   (.cond (.t 11)
     (.skip)
     (.exit 0)))
  (.seq (.block 1 (.seq (.reg [⟨some 14, .mv (.t 0), none⟩,
        ⟨some 15, .mv (.t 4), none⟩,
        ⟨some 16, .call 60 [(.t 14), (.t 15)], none⟩,
        ⟨some 5, .mv (.t 16), none⟩] [0, 3, 4, 5])
     (.seq (.reg [⟨some 6, .mv (.k (.sc (.bool true))), none⟩] [0, 3, 4, 5, 6])
      (.seq (.seq (.reg [⟨some 7, .mv (.k (.sc (.int .i64 0))), none⟩] [0, 3, 4, 5, 6, 7])
        (.block 2 (.loop [0, 3, 4, 5, 6, 7] b36L1)))
       (.seq (.reg [⟨some 32, .mv (.t 6), none⟩] [0, 3, 4, 5, 32])
        (.cond (.t 32)
          (.reg [⟨some 33, .mv (.t 3), none⟩,
             ⟨some 34, .mv (.t 5), none⟩,
             ⟨some 35, .bsl 1 [.nilS] 1 [(0, .t 34)], none⟩,
             ⟨some 36, .app 1 24 [.nilS] (.t 33) (.t 35), none⟩,
             ⟨some 3, .mv (.t 36), none⟩] [0, 3, 4])
          (.skip)))))))
   (.reg [⟨some 12, .mv (.t 4), none⟩,
      ⟨some 13, .bin .add (.t 12) (.k (.sc (.int .i64 1))), none⟩,
      ⟨some 4, .mv (.t 13), none⟩] [0, 3, 4]))
/-- unravel/unravelref01.Faces -/
def b36 : AC :=
  .seq (.reg [⟨some 2, .mv (.k (.sc .nilS)), none⟩] [0])
  (.seq (.reg [⟨some 3, .mv (.k (.sc .nilS)), none⟩] [0, 3])
   (.seq (.seq (.reg [⟨some 4, .mv (.k (.sc (.int .i64 0))), none⟩] [0, 3, 4])
     (.block 0 (.loop [0, 3, 4] b36L0)))
    (.seq (.reg [⟨some 37, .mv (.t 3), none⟩,
        ⟨some 2, .mv (.t 37), none⟩] [2])
     (.ret))))
def a36 : AFun := ⟨1, b36, [.t 2]⟩

/-- unravel/planar.outgoing -/
def b39 : AC :=
  .seq (.reg [⟨some 4, .mv (.k (.sc (.bool false))), none⟩] [0, 1])
  (.seq (.reg [⟨some 5, .mv (.t 1), none⟩,
      ⟨some 6, .bin .eql (.t 5) (.k (.sc (.int .i64 2))), none⟩,
      ⟨some 7, .mv (.t 6), none⟩,
      ⟨some 8, .mv (.t 1), (some (7, false))⟩,
      ⟨some 9, .bin .eql (.t 8) (.k (.sc (.int .i64 1))), (some (7, false))⟩,
      ⟨some 10, .mv (.t 9), (some (7, false))⟩,
      ⟨some 11, .mv (.t 0), (some (10, true))⟩,
      ⟨some 12, .bin .eql (.t 11) (.k (.sc (.int .i64 1))), (some (10, true))⟩,
      ⟨some 13, .pick (.t 10) (.t 12) (.k (.sc (.bool false))), (some (7, false))⟩,
      ⟨some 14, .pick (.t 7) (.k (.sc (.bool true))) (.t 13), none⟩,
      ⟨some 15, .mv (.t 14), none⟩,
      ⟨some 16, .mv (.t 1), (some (15, false))⟩,
      ⟨some 17, .bin .eql (.t 16) (.k (.sc (.int .i64 3))), (some (15, false))⟩,
      ⟨some 18, .mv (.t 17), (some (15, false))⟩,
      ⟨some 19, .mv (.t 0), (some (18, true))⟩,
      ⟨some 20, .bin .eql (.t 19) (.k (.sc (.int .i64 (-1)))), (some (18, true))⟩,
      ⟨some 21, .pick (.t 18) (.t 20) (.k (.sc (.bool false))), (some (15, false))⟩,
      ⟨some 22, .pick (.t 15) (.k (.sc (.bool true))) (.t 21), none⟩,
      ⟨some 4, .mv (.t 22), none⟩] [4])
   (.ret))
def a39 : AFun := ⟨2, b39, [.t 4]⟩

/-- unravel/unravelref03.genus -/
def b40 : AC :=
  .seq (.reg [⟨some 1, .box (.t 0), none⟩,
     ⟨some 2, .mv (.k (.sc (.bool false))), none⟩] [1])
  (.seq (.reg [⟨some 3, .ld 3 true (.t 1), none⟩,
      ⟨some 4, .call 13 [(.t 3)], none⟩,
      ⟨some 2, .mv (.t 4), none⟩] [2])
   (.ret))
def a40 : AFun := ⟨1, b40, [.t 2]⟩

def b41L0 : AC :=
  .seq (.seq (.reg [⟨some 11, .mv (.t 5), none⟩,
      ⟨some 12, .mv (.t 0), none⟩,
      ⟨some 13, .len false (.t 12), none⟩,
      ⟨some 14, .bin .lss (.t 11) (.t 13), none⟩] [0, 1, 5, 14])
   (.cond (.t 14)
     (.skip)
     (.exit 0)))
  (.seq (.block 1 (.seq (.regd [(⟨some 17, .mv (.t 0), none⟩, 0, false),
        (⟨some 18, .mv (.t 5), none⟩, 1, false),
        (⟨some 19, .idxA 1 (.t 17) (.t 18), none⟩, 2, false),
        (⟨some 20, .ld 1 false (.t 19), none⟩, 3, false),
        (⟨some 21, .mv (.t 1), none⟩, 4, false),
        (⟨some 22, .mv (.t 5), none⟩, 5, false),
        (⟨some 23, .idxA 1 (.t 21) (.t 22), none⟩, 6, false),
        (⟨some 24, .ld 1 false (.t 23), none⟩, 7, false),
        (⟨some 25, .bin .neq (.t 20) (.t 24), none⟩, 8, false)] [0, 1, 5, 25])
     (.cond (.t 25)
       (.seq (.reg [⟨some 4, .mv (.k (.sc (.bool false))), none⟩] [4])
        (.ret))
       (.skip))))
   (.reg [⟨some 15, .mv (.t 5), none⟩,
      ⟨some 16, .bin .add (.t 15) (.k (.sc (.int .i64 1))), none⟩,
      ⟨some 5, .mv (.t 16), none⟩] [0, 1, 5]))
/-- unravel/unravelref01.Ints -/
def b41 : AC :=
  .seq (.reg [⟨some 4, .mv (.k (.sc (.bool false))), none⟩] [0, 1])
  (.seq (.seq (.reg [⟨some 6, .mv (.t 0), none⟩,
       ⟨some 7, .len false (.t 6), none⟩,
       ⟨some 8, .mv (.t 1), none⟩,
       ⟨some 9, .len false (.t 8), none⟩,
       ⟨some 10, .bin .neq (.t 7) (.t 9), none⟩] [0, 1, 10])
    (.cond (.t 10)
      (.seq (.reg [⟨some 4, .mv (.k (.sc (.bool false))), none⟩] [4])
       (.ret))
      (.skip)))
   (.seq (.seq (.reg [⟨some 5, .mv (.k (.sc (.int .i64 0))), none⟩] [0, 1, 5])
     (.block 0 (.loop [0, 1, 5] b41L0)))
    (.seq (.reg [⟨some 4, .mv (.k (.sc (.bool true))), none⟩] [4])
     (.ret))))
def a41 : AFun := ⟨2, b41, [.t 4]⟩

/-- unravel/diagram.outgoing -/
def b42 : AC :=
  .seq (.reg [⟨some 2, .box (.t 0), none⟩,
     ⟨some 4, .mv (.k (.sc (.bool false))), none⟩] [1, 2])
  (.seq (.seq (.reg [⟨some 5, .mv (.t 1), none⟩,
       ⟨some 6, .bin .rem (.t 5) (.k (.sc (.int .i64 4))), none⟩] [1, 2, 6])
    (.block 0 (.seq (.reg [⟨some 8, .bin .eql (.t 6) (.k (.sc (.int .i64 1))), none⟩,
         ⟨some 7, .mv (.t 8), none⟩] [1, 2, 6, 7])
      (.cond (.t 7)
        (.seq (.reg [⟨some 9, .fldA 0 (.t 2), none⟩,
            ⟨some 10, .ld 1 false (.t 9), none⟩,
            ⟨some 11, .mv (.t 1), none⟩,
            ⟨some 12, .bin .quo (.t 11) (.k (.sc (.int .i64 4))), none⟩,
            ⟨some 13, .idxA 1 (.t 10) (.t 12), none⟩,
            ⟨some 14, .ld 1 false (.t 13), none⟩,
            ⟨some 15, .bin .eql (.t 14) (.k (.sc (.int .i64 1))), none⟩,
            ⟨some 4, .mv (.t 15), none⟩] [4])
         (.ret))
        (.seq (.reg [⟨some 17, .bin .eql (.t 6) (.k (.sc (.int .i64 2))), none⟩,
            ⟨some 16, .mv (.t 17), none⟩] [1, 2, 6, 16])
         (.cond (.t 16)
           (.seq (.reg [⟨some 4, .mv (.k (.sc (.bool true))), none⟩] [4])
            (.ret))
           (.seq (.reg [⟨some 19, .bin .eql (.t 6) (.k (.sc (.int .i64 3))), none⟩,
               ⟨some 18, .mv (.t 19), none⟩] [1, 2, 18])
            (.cond (.t 18)
              (.seq (.reg [⟨some 20, .fldA 0 (.t 2), none⟩,
                  ⟨some 21, .ld 1 false (.t 20), none⟩,
                  ⟨some 22, .mv (.t 1), none⟩,
                  ⟨some 23, .bin .quo (.t 22) (.k (.sc (.int .i64 4))), none⟩,
                  ⟨some 24, .idxA 1 (.t 21) (.t 23), none⟩,
                  ⟨some 25, .ld 1 false (.t 24), none⟩,
                  ⟨some 26, .bin .eql (.t 25) (.k (.sc (.int .i64 (-1)))), none⟩,
                  ⟨some 4, .mv (.t 26), none⟩] [4])
               (.ret))
              (.skip)))))))))
   (.seq (.reg [⟨some 4, .mv (.k (.sc (.bool false))), none⟩] [4])
    (.ret)))
def a42 : AFun := ⟨2, b42, [.t 4]⟩

def b43L0 : AC :=
  .seq (.reg [⟨some 23, .bin .lss (.t 22) (.t 21), none⟩] [1, 3, 5, 20, 21, 22, 23])
  (.seq (.cond (.t 23)
     (.skip)
     (.exit 0))
   (.seq (.block 1 (.seq (.reg [⟨some 24, .idxA 1 (.t 20) (.t 22), none⟩,
         ⟨some 25, .ld 1 false (.t 24), none⟩,
         ⟨some 7, .mv (.t 25), none⟩] [1, 3, 5, 7, 20, 21, 22])
      (.reg [⟨some 26, .mv (.t 5), none⟩,
         ⟨some 27, .mv (.t 7), none⟩,
         ⟨some 28, .idxA 1 (.t 26) (.t 27), none⟩,
         ⟨some 29, .ld 1 false (.t 28), none⟩,
         ⟨some 30, .bin .sub (.t 29) (.k (.sc (.int .i64 1))), none⟩,
         ⟨some 31, .idxA 1 (.t 26) (.t 27), none⟩,
         ⟨none, .st 1 (.t 31) (.t 30), none⟩] [1, 3, 5, 20, 21, 22])))
    (.reg [⟨some 32, .bin .add (.t 22) (.k (.sc (.int .i64 1))), none⟩,
       ⟨some 22, .mv (.t 32), none⟩] [1, 3, 5, 20, 21, 22])))
def b43L2 : AC :=
  .seq (.seq (.reg [⟨some 58, .mv (.t 8), none⟩,
      ⟨some 59, .mv (.t 10), none⟩,
      ⟨some 60, .idxA 1 (.t 58) (.t 59), none⟩,
      ⟨some 61, .ld 1 false (.t 60), none⟩,
      ⟨some 62, .un .not (.t 61), none⟩] [1, 3, 5, 8, 10, 39, 40, 62])
   (.cond (.t 62)
     (.skip)
     (.exit 4)))
  (.seq (.block 5 (.reg [⟨some 69, .mv (.t 8), none⟩,
       ⟨some 70, .mv (.t 10), none⟩,
       ⟨some 71, .idxA 1 (.t 69) (.t 70), none⟩,
       ⟨none, .st 1 (.t 71) (.k (.sc (.bool true))), none⟩] [1, 3, 5, 8, 10, 39, 40]))
   (.reg [⟨some 63, .fldA 1 (.t 1), none⟩,
      ⟨some 64, .ld 1 false (.t 63), none⟩,
      ⟨some 65, .mv (.t 10), none⟩,
      ⟨some 66, .idxA 1 (.t 64) (.t 65), none⟩,
      ⟨some 67, .ld 1 false (.t 66), none⟩,
      ⟨some 68, .call 63 [(.t 67), (.k (.sc (.int .i64 (-1))))], none⟩,
      ⟨some 10, .mv (.t 68), none⟩] [1, 3, 5, 8, 10, 39, 40]))
def b43L1 : AC :=
  .seq (.reg [⟨some 41, .bin .lss (.t 40) (.t 39), none⟩] [1, 3, 5, 8, 39, 40, 41])
  (.seq (.cond (.t 41)
     (.skip)
     (.exit 2))
   (.seq (.block 3 (.seq (.reg [⟨some 42, .mv (.t 40), none⟩,
         ⟨some 9, .mv (.t 42), none⟩] [1, 3, 5, 8, 9, 39, 40])
      (.seq (.seq (.reg [⟨some 43, .mv (.t 8), none⟩,
           ⟨some 44, .mv (.t 9), none⟩,
           ⟨some 45, .idxA 1 (.t 43) (.t 44), none⟩,
           ⟨some 46, .ld 1 false (.t 45), none⟩] [1, 3, 5, 8, 9, 39, 40, 46])
        (.cond (.t 46)
          (.exit 3)
          (.skip)))
       (.seq (.reg [⟨some 47, .mv (.t 5), none⟩,
           ⟨some 48, .mv (.t 3), none⟩,
           ⟨some 49, .mv (.t 9), none⟩,
           ⟨some 50, .bin .quo (.t 49) (.k (.sc (.int .i64 4))), none⟩,
           ⟨some 51, .idxA 1 (.t 48) (.t 50), none⟩,
           ⟨some 52, .ld 1 false (.t 51), none⟩,
           ⟨some 53, .idxA 1 (.t 47) (.t 52), none⟩,
           ⟨some 54, .ld 1 false (.t 53), none⟩,
           ⟨some 55, .bin .add (.t 54) (.k (.sc (.int .i64 1))), none⟩,
           ⟨some 56, .idxA 1 (.t 47) (.t 52), none⟩,
           ⟨none, .st 1 (.t 56) (.t 55), none⟩] [1, 3, 5, 8, 9, 39, 40])
        (.seq (.reg [⟨some 57, .mv (.t 9), none⟩,
            ⟨some 10, .mv (.t 57), none⟩] [1, 3, 5, 8, 10, 39, 40])
         (.block 4 (.loop [1, 3, 5, 8, 10, 39, 40] b43L2)))))))
    (.reg [⟨some 72, .bin .add (.t 40) (.k (.sc (.int .i64 1))), none⟩,
       ⟨some 40, .mv (.t 72), none⟩] [1, 3, 5, 8, 39, 40])))
def b43L3 : AC :=
  .seq (.reg [⟨some 76, .bin .lss (.t 75) (.t 74), none⟩] [73, 74, 75, 76])
  (.seq (.cond (.t 76)
     (.skip)
     (.exit 6))
   (.seq (.block 7 (.seq (.reg [⟨some 77, .idxA 1 (.t 73) (.t 75), none⟩,
         ⟨some 78, .ld 1 false (.t 77), none⟩,
         ⟨some 12, .mv (.t 78), none⟩] [12, 73, 74, 75])
      (.seq (.reg [⟨some 79, .mv (.t 12), none⟩,
          ⟨some 80, .bin .neq (.t 79) (.k (.sc (.int .i64 2))), none⟩] [73, 74, 75, 80])
       (.cond (.t 80)
         (.seq (.reg [⟨some 2, .mv (.k (.sc (.bool false))), none⟩] [2])
          (.ret))
         (.skip)))))
    (.reg [⟨some 81, .bin .add (.t 75) (.k (.sc (.int .i64 1))), none⟩,
       ⟨some 75, .mv (.t 81), none⟩] [73, 74, 75])))
/-- unravel/diagram.spherical -/
def b43 : AC :=
  .seq (.reg [⟨some 1, .box (.t 0), none⟩,
     ⟨some 2, .mv (.k (.sc (.bool false))), none⟩] [1])
  (.seq (.reg [⟨some 14, .ld 3 true (.t 1), none⟩,
      ⟨some 15, .call 62 [(.t 14)], none⟩,
      ⟨some 13, .mv (.t 15), none⟩,
      ⟨some 16, .ext (.t 13) 0, none⟩,
      ⟨some 17, .ext (.t 13) 1, none⟩,
      ⟨some 3, .mv (.t 16), none⟩,
      ⟨some 4, .mv (.t 17), none⟩] [1, 3, 4])
   (.seq (.reg [⟨some 18, .mv (.t 4), none⟩,
       ⟨some 19, .mk 1 8 [.int .i64 0] (.t 18) (.t 18), none⟩,
       ⟨some 5, .mv (.t 19), none⟩] [1, 3, 5])
    (.seq (.seq (.reg [⟨some 20, .mv (.t 3), none⟩,
         ⟨some 21, .len false (.t 20), none⟩,
         ⟨some 22, .mv (.k (.sc (.int .i64 0))), none⟩] [1, 3, 5, 20, 21, 22])
      (.block 0 (.loop [1, 3, 5, 20, 21, 22] b43L0)))
     (.seq (.reg [⟨some 33, .fldA 1 (.t 1), none⟩,
         ⟨some 34, .ld 1 false (.t 33), none⟩,
         ⟨some 35, .len false (.t 34), none⟩,
         ⟨some 36, .mk 1 1 [.bool false] (.t 35) (.t 35), none⟩,
         ⟨some 8, .mv (.t 36), none⟩] [1, 3, 5, 8])
      (.seq (.seq (.reg [⟨some 37, .fldA 1 (.t 1), none⟩,
           ⟨some 38, .ld 1 false (.t 37), none⟩,
           ⟨some 39, .len false (.t 38), none⟩,
           ⟨some 40, .mv (.k (.sc (.int .i64 0))), none⟩] [1, 3, 5, 8, 39, 40])
        (.block 2 (.loop [1, 3, 5, 8, 39, 40] b43L1)))
       (.seq (.seq (.reg [⟨some 73, .mv (.t 5), none⟩,
            ⟨some 74, .len false (.t 73), none⟩,
            ⟨some 75, .mv (.k (.sc (.int .i64 0))), none⟩] [73, 74, 75])
         (.block 6 (.loop [73, 74, 75] b43L3)))
        (.seq (.reg [⟨some 2, .mv (.k (.sc (.bool true))), none⟩] [2])
         (.ret))))))))
def a43 : AFun := ⟨1, b43, [.t 2]⟩

def b45L0 : AC :=
  .block 1 (.seq (.reg [⟨some 16, .mv (.t 0), none⟩,
      ⟨some 17, .call 64 [(.t 16), (.k (.sc (.str ⟨#[10]⟩)))], none⟩,
      ⟨some 15, .mv (.t 17), none⟩,
      ⟨some 18, .ext (.t 15) 0, none⟩,
      ⟨some 19, .ext (.t 15) 1, none⟩,
      ⟨some 20, .ext (.t 15) 2, none⟩,
      ⟨some 6, .mv (.t 18), none⟩,
      ⟨some 7, .mv (.t 19), none⟩,
      ⟨some 8, .mv (.t 20), none⟩] [5, 6, 7, 8])
   (.seq (.seq (.reg [⟨some 21, .mv (.t 8), none⟩,
        ⟨some 22, .un .not (.t 21), none⟩] [5, 6, 7, 22])
     (.cond (.t 22)
       (.seq (.reg [⟨some 2, .mv (.k (.sc .nilS)), none⟩,
           ⟨some 3, .mv (.k (.sc (.int .i64 0))), none⟩,
           ⟨some 4, .mv (.k (.sc (.bool false))), none⟩] [2, 3, 4])
        (.ret))
       (.skip)))
    (.seq (.seq (.reg [⟨some 24, .mv (.t 6), none⟩,
         ⟨some 25, .call 65 [(.t 24), (.k (.sc (.str ⟨#[108, 111, 111, 112, 115, 32]⟩)))], none⟩,
         ⟨some 23, .mv (.t 25), none⟩,
         ⟨some 26, .ext (.t 23) 0, none⟩,
         ⟨some 27, .ext (.t 23) 1, none⟩,
         ⟨some 9, .mv (.t 26), none⟩,
         ⟨some 10, .mv (.t 27), none⟩] [5, 6, 7, 9, 10])
      (.seq (.reg [⟨some 28, .mv (.t 10), none⟩] [5, 6, 7, 9, 28])
       (.cond (.t 28)
         (.seq (.reg [⟨some 30, .mv (.t 9), none⟩,
             ⟨some 31, .call 66 [(.t 30), (.k (.sc (.int .i64 0))), (.k (.sc (.int .i64 999)))], none⟩,
             ⟨some 29, .mv (.t 31), none⟩,
             ⟨some 32, .ext (.t 29) 0, none⟩,
             ⟨some 33, .ext (.t 29) 1, none⟩,
             ⟨some 11, .mv (.t 32), none⟩,
             ⟨some 12, .mv (.t 33), none⟩] [5, 7, 11, 12])
          (.seq (.reg [⟨some 34, .mv (.t 5), none⟩,
              ⟨some 35, .mv (.t 11), none⟩,
              ⟨some 36, .mv (.t 12), none⟩,
              ⟨some 37, .mv (.t 36), none⟩,
              ⟨some 38, .mv (.t 7), (some (37, true))⟩,
              ⟨some 39, .bin .eql (.t 38) (.k (.sc (.str ⟨#[]⟩))), (some (37, true))⟩,
              ⟨some 40, .pick (.t 37) (.t 39) (.k (.sc (.bool false))), none⟩,
              ⟨some 2, .mv (.t 34), none⟩,
              ⟨some 3, .mv (.t 35), none⟩,
              ⟨some 4, .mv (.t 40), none⟩] [2, 3, 4])
           (.ret)))
         (.skip))))
     (.seq (.reg [⟨some 42, .mv (.t 6), none⟩,
         ⟨some 43, .call 67 [(.t 42)], none⟩,
         ⟨some 41, .mv (.t 43), none⟩,
         ⟨some 44, .ext (.t 41) 0, none⟩,
         ⟨some 45, .ext (.t 41) 1, none⟩,
         ⟨some 13, .new [.int .i64 0, .int .i64 0, .int .i64 0, .int .i64 0, .int .i64 0], none⟩,
         ⟨none, .st 5 (.t 13) (.t 44), none⟩,
         ⟨some 14, .mv (.t 45), none⟩] [5, 7, 13, 14])
      (.seq (.seq (.reg [⟨some 46, .mv (.t 14), none⟩,
           ⟨some 47, .un .not (.t 46), none⟩] [5, 7, 13, 47])
        (.cond (.t 47)
          (.seq (.reg [⟨some 2, .mv (.k (.sc .nilS)), none⟩,
              ⟨some 3, .mv (.k (.sc (.int .i64 0))), none⟩,
              ⟨some 4, .mv (.k (.sc (.bool false))), none⟩] [2, 3, 4])
           (.ret))
          (.skip)))
       (.seq (.reg [⟨some 48, .mv (.t 5), none⟩,
           ⟨some 49, .ld 5 true (.t 13), none⟩,
           ⟨some 50, .bsl 5 [.int .i64 0, .int .i64 0, .int .i64 0, .int .i64 0, .int .i64 0] 1 [(0, .t 49)], none⟩,
           ⟨some 51, .app 5 40 [.int .i64 0, .int .i64 0, .int .i64 0, .int .i64 0, .int .i64 0] (.t 48) (.t 50), none⟩,
           ⟨some 5, .mv (.t 51), none⟩] [5, 7])
        (.reg [⟨some 52, .mv (.t 7), none⟩,
           ⟨some 0, .mv (.t 52), none⟩] [0, 5])))))))
/-- unravel/planar.lines -/
def b45 : AC :=
  .seq (.reg [⟨some 2, .mv (.k (.sc .nilS)), none⟩,
     ⟨some 3, .mv (.k (.sc (.int .i64 0))), none⟩,
     ⟨some 4, .mv (.k (.sc (.bool false))), none⟩] [0])
  (.seq (.reg [⟨some 5, .mv (.k (.sc .nilS)), none⟩] [0, 5])
   (.block 0 (.loop [0, 5] b45L0)))
def a45 : AFun := ⟨1, b45, [.t 2, .t 3, .t 4]⟩

def b46L0 : AC :=
  .seq (.seq (.reg [⟨some 8, .mv (.t 7), none⟩,
      ⟨some 9, .mv (.t 0), none⟩,
      ⟨some 10, .len true (.t 9), none⟩,
      ⟨some 11, .bin .lss (.t 8) (.t 10), none⟩] [0, 1, 5, 6, 7, 11])
   (.cond (.t 11)
     (.skip)
     (.exit 0)))
  (.seq (.block 1 (.seq (.reg [⟨some 14, .mv (.t 0), none⟩,
        ⟨some 15, .mv (.t 7), none⟩,
        ⟨some 16, .idxS (.t 14) (.t 15), none⟩,
        ⟨some 17, .mv (.t 1), none⟩,
        ⟨some 18, .bin .eql (.t 16) (.t 17), none⟩] [0, 1, 5, 6, 7, 18])
     (.cond (.t 18)
       (.seq (.reg [⟨some 19, .mv (.t 5), none⟩,
           ⟨some 20, .mv (.t 0), none⟩,
           ⟨some 21, .mv (.t 6), none⟩,
           ⟨some 22, .mv (.t 7), none⟩,
           ⟨some 23, .slS (.t 20) (some (.t 21)) (some (.t 22)), none⟩,
           ⟨some 24, .bsl 1 [.str ByteArray.empty] 1 [(0, .t 23)], none⟩,
           ⟨some 25, .app 1 16 [.str ByteArray.empty] (.t 19) (.t 24), none⟩,
           ⟨some 5, .mv (.t 25), none⟩] [0, 1, 5, 7])
        (.reg [⟨some 26, .mv (.t 7), none⟩,
           ⟨some 27, .bin .add (.t 26) (.k (.sc (.int .i64 1))), none⟩,
           ⟨some 6, .mv (.t 27), none⟩] [0, 1, 5, 6, 7]))
       (.skip))))
   (.reg [⟨some 12, .mv (.t 7), none⟩,
      ⟨some 13, .bin .add (.t 12) (.k (.sc (.int .i64 1))), none⟩,
      ⟨some 7, .mv (.t 13), none⟩] [0, 1, 5, 6, 7]))
/-- unravel/unravelref03.split -/
def b46 : AC :=
  .seq (.reg [⟨some 4, .mv (.k (.sc .nilS)), none⟩] [0, 1])
  (.seq (.reg [⟨some 5, .mv (.k (.sc .nilS)), none⟩] [0, 1, 5])
   (.seq (.reg [⟨some 6, .mv (.k (.sc (.int .i64 0))), none⟩] [0, 1, 5, 6])
    (.seq (.seq (.reg [⟨some 7, .mv (.k (.sc (.int .i64 0))), none⟩] [0, 1, 5, 6, 7])
      (.block 0 (.loop [0, 1, 5, 6, 7] b46L0)))
     (.seq (.reg [⟨some 28, .mv (.t 5), none⟩,
         ⟨some 29, .mv (.t 0), none⟩,
         ⟨some 30, .mv (.t 6), none⟩,
         ⟨some 31, .slS (.t 29) (some (.t 30)) none, none⟩,
         ⟨some 32, .bsl 1 [.str ByteArray.empty] 1 [(0, .t 31)], none⟩,
         ⟨some 33, .app 1 16 [.str ByteArray.empty] (.t 28) (.t 32), none⟩,
         ⟨some 4, .mv (.t 33), none⟩] [4])
      (.ret)))))
def a46 : AFun := ⟨2, b46, [.t 4]⟩

def b47L0 : AC :=
  .seq (.seq (.reg [⟨some 25, .mv (.t 6), none⟩,
      ⟨some 26, .mv (.t 0), none⟩,
      ⟨some 27, .len true (.t 26), none⟩,
      ⟨some 28, .bin .lss (.t 25) (.t 27), none⟩] [0, 5, 6, 28])
   (.cond (.t 28)
     (.skip)
     (.exit 0)))
  (.seq (.block 1 (.seq (.seq (.reg [⟨some 31, .mv (.t 0), none⟩,
         ⟨some 32, .mv (.t 6), none⟩,
         ⟨some 33, .idxS (.t 31) (.t 32), none⟩,
         ⟨some 34, .bin .lss (.t 33) (.k (.sc (.int .u8 48))), none⟩,
         ⟨some 35, .mv (.t 34), none⟩,
         ⟨some 36, .mv (.t 0), (some (35, false))⟩,
         ⟨some 37, .mv (.t 6), (some (35, false))⟩,
         ⟨some 38, .idxS (.t 36) (.t 37), (some (35, false))⟩,
         ⟨some 39, .bin .gtr (.t 38) (.k (.sc (.int .u8 57))), (some (35, false))⟩,
         ⟨some 40, .pick (.t 35) (.k (.sc (.bool true))) (.t 39), none⟩] [0, 5, 6, 40])
      (.cond (.t 40)
        (.seq (.reg [⟨some 4, .mv (.k (.sc (.int .i64 (-1)))), none⟩] [4])
         (.ret))
        (.skip)))
     (.reg [⟨some 41, .mv (.t 5), none⟩,
        ⟨some 42, .bin .mul (.k (.sc (.int .i64 10))) (.t 41), none⟩,
        ⟨some 43, .mv (.t 0), none⟩,
        ⟨some 44, .mv (.t 6), none⟩,
        ⟨some 45, .idxS (.t 43) (.t 44), none⟩,
        ⟨some 46, .conv .i64 (.t 45), none⟩,
        ⟨some 47, .bin .add (.t 42) (.t 46), none⟩,
        ⟨some 48, .bin .sub (.t 47) (.k (.sc (.int .i64 48))), none⟩,
        ⟨some 5, .mv (.t 48), none⟩] [0, 5, 6])))
   (.reg [⟨some 29, .mv (.t 6), none⟩,
      ⟨some 30, .bin .add (.t 29) (.k (.sc (.int .i64 1))), none⟩,
      ⟨some 6, .mv (.t 30), none⟩] [0, 5, 6]))
/-- unravel/unravelref03.number -/
def b47 : AC :=
  .seq (.reg [⟨some 4, .mv (.k (.sc (.int .i64 0))), none⟩] [0, 1])
  (.seq (.seq (.reg [⟨some 7, .mv (.t 0), none⟩,
       ⟨some 8, .bin .eql (.t 7) (.k (.sc (.str ⟨#[]⟩))), none⟩,
       ⟨some 9, .mv (.t 8), none⟩,
       ⟨some 10, .mv (.t 0), (some (9, false))⟩,
       ⟨some 11, .len true (.t 10), (some (9, false))⟩,
       ⟨some 12, .mv (.t 1), (some (9, false))⟩,
       ⟨some 13, .bin .gtr (.t 11) (.t 12), (some (9, false))⟩,
       ⟨some 14, .pick (.t 9) (.k (.sc (.bool true))) (.t 13), none⟩,
       ⟨some 15, .mv (.t 14), none⟩,
       ⟨some 16, .mv (.t 0), (some (15, false))⟩,
       ⟨some 17, .idxS (.t 16) (.k (.sc (.int .i64 0))), (some (15, false))⟩,
       ⟨some 18, .bin .eql (.t 17) (.k (.sc (.int .u8 48))), (some (15, false))⟩,
       ⟨some 19, .mv (.t 18), (some (15, false))⟩,
       ⟨some 20, .mv (.t 0), (some (19, true))⟩,
       ⟨some 21, .len true (.t 20), (some (19, true))⟩,
       ⟨some 22, .bin .gtr (.t 21) (.k (.sc (.int .i64 1))), (some (19, true))⟩,
       ⟨some 23, .pick (.t 19) (.t 22) (.k (.sc (.bool false))), (some (15, false))⟩,
       ⟨some 24, .pick (.t 15) (.k (.sc (.bool true))) (.t 23), none⟩] [0, 24])
    (.cond (.t 24)
      (.seq (.reg [⟨some 4, .mv (.k (.sc (.int .i64 (-1)))), none⟩] [4])
       (.ret))
      (.skip)))
   (.seq (.reg [⟨some 5, .mv (.k (.sc (.int .i64 0))), none⟩] [0, 5])
    (.seq (.seq (.reg [⟨some 6, .mv (.k (.sc (.int .i64 0))), none⟩] [0, 5, 6])
      (.block 0 (.loop [0, 5, 6] b47L0)))
     (.seq (.reg [⟨some 49, .mv (.t 5), none⟩,
         ⟨some 4, .mv (.t 49), none⟩] [4])
      (.ret)))))
def a47 : AFun := ⟨2, b47, [.t 4]⟩

def b48L0 : AC :=
  .seq (.seq (.reg [⟨some 26, .mv (.t 7), none⟩,
      ⟨some 27, .bin .lss (.t 26) (.k (.sc (.int .i64 5))), none⟩] [4, 5, 6, 7, 27])
   (.cond (.t 27)
     (.skip)
     (.exit 0)))
  (.seq (.block 1 (.seq (.reg [⟨some 30, .mv (.t 4), none⟩,
        ⟨some 31, .mv (.t 7), none⟩,
        ⟨some 32, .idxA 1 (.t 30) (.t 31), none⟩,
        ⟨some 33, .ld 1 false (.t 32), none⟩,
        ⟨some 34, .call 47 [(.t 33), (.k (.sc (.int .i64 4)))], none⟩,
        ⟨some 8, .mv (.t 34), none⟩] [4, 5, 6, 7, 8])
     (.seq (.seq (.reg [⟨some 35, .mv (.t 8), none⟩,
          ⟨some 36, .bin .lss (.t 35) (.k (.sc (.int .i64 1))), none⟩] [4, 5, 6, 7, 8, 36])
       (.cond (.t 36)
         (.seq (.reg [⟨some 2, .mv (.k (.sc (.int .i64 0))), none⟩,
             ⟨some 3, .mv (.k (.sc .nilS)), none⟩] [2, 3])
          (.ret))
         (.skip)))
      (.reg [⟨some 37, .mv (.t 6), none⟩,
         ⟨some 38, .mv (.t 8), none⟩,
         ⟨some 39, .bsl 1 [.int .i64 0] 1 [(0, .t 38)], none⟩,
         ⟨some 40, .app 1 8 [.int .i64 0] (.t 37) (.t 39), none⟩,
         ⟨some 6, .mv (.t 40), none⟩] [4, 5, 6, 7]))))
   (.reg [⟨some 28, .mv (.t 7), none⟩,
      ⟨some 29, .bin .add (.t 28) (.k (.sc (.int .i64 1))), none⟩,
      ⟨some 7, .mv (.t 29), none⟩] [4, 5, 6, 7]))
/-- unravel/unravelref03.crossing -/
def b48 : AC :=
  .seq (.reg [⟨some 2, .mv (.k (.sc (.int .i64 0))), none⟩,
     ⟨some 3, .mv (.k (.sc .nilS)), none⟩] [0])
  (.seq (.reg [⟨some 9, .mv (.t 0), none⟩,
      ⟨some 10, .call 46 [(.t 9), (.k (.sc (.int .u8 32)))], none⟩,
      ⟨some 4, .mv (.t 10), none⟩] [4])
   (.seq (.reg [⟨some 5, .mv (.k (.sc (.int .i64 0))), none⟩] [4, 5])
    (.seq (.seq (.reg [⟨some 11, .mv (.t 4), none⟩,
         ⟨some 12, .idxA 1 (.t 11) (.k (.sc (.int .i64 0))), none⟩,
         ⟨some 13, .ld 1 false (.t 12), none⟩,
         ⟨some 14, .bin .eql (.t 13) (.k (.sc (.str ⟨#[43]⟩))), none⟩] [4, 5, 14])
      (.cond (.t 14)
        (.reg [⟨some 5, .mv (.k (.sc (.int .i64 1))), none⟩] [4, 5])
        (.skip)))
     (.seq (.seq (.reg [⟨some 15, .mv (.t 4), none⟩,
          ⟨some 16, .idxA 1 (.t 15) (.k (.sc (.int .i64 0))), none⟩,
          ⟨some 17, .ld 1 false (.t 16), none⟩,
          ⟨some 18, .bin .eql (.t 17) (.k (.sc (.str ⟨#[45]⟩))), none⟩] [4, 5, 18])
       (.cond (.t 18)
         (.reg [⟨some 5, .mv (.k (.sc (.int .i64 (-1)))), none⟩] [4, 5])
         (.skip)))
      (.seq (.seq (.reg [⟨some 19, .mv (.t 4), none⟩,
           ⟨some 20, .len false (.t 19), none⟩,
           ⟨some 21, .bin .neq (.t 20) (.k (.sc (.int .i64 5))), none⟩,
           ⟨some 22, .mv (.t 21), none⟩,
           ⟨some 23, .mv (.t 5), (some (22, false))⟩,
           ⟨some 24, .bin .eql (.t 23) (.k (.sc (.int .i64 0))), (some (22, false))⟩,
           ⟨some 25, .pick (.t 22) (.k (.sc (.bool true))) (.t 24), none⟩] [4, 5, 25])
        (.cond (.t 25)
          (.seq (.reg [⟨some 2, .mv (.k (.sc (.int .i64 0))), none⟩,
              ⟨some 3, .mv (.k (.sc .nilS)), none⟩] [2, 3])
           (.ret))
          (.skip)))
       (.seq (.reg [⟨some 6, .mv (.k (.sc .nilS)), none⟩] [4, 5, 6])
        (.seq (.seq (.reg [⟨some 7, .mv (.k (.sc (.int .i64 1))), none⟩] [4, 5, 6, 7])
          (.block 0 (.loop [4, 5, 6, 7] b48L0)))
         (.seq (.reg [⟨some 41, .mv (.t 5), none⟩,
             ⟨some 42, .mv (.t 6), none⟩,
             ⟨some 2, .mv (.t 41), none⟩,
             ⟨some 3, .mv (.t 42), none⟩] [2, 3])
          (.ret)))))))))
def a48 : AFun := ⟨1, b48, [.t 2, .t 3]⟩

/-- unravel/diagram.Strands$1 -/
def b50 : AC :=
  .seq (.reg [⟨some 3, .mv (.k (.sc (.bool false))), none⟩] [0, 1])
  (.seq (.reg [⟨some 4, .ld 3 true (.t 1), none⟩,
      ⟨some 5, .mv (.t 0), none⟩,
      ⟨some 6, .call 42 [(.t 4), (.t 5)], none⟩,
      ⟨some 3, .mv (.t 6), none⟩] [3])
   (.ret))
def a50 : AFun := ⟨2, b50, [.t 3]⟩

def b51L1 : AC :=
  .seq (.reg [⟨some 35, .bin .lss (.t 34) (.t 33), none⟩] [1, 2, 7, 8, 10, 15, 16, 32, 33, 34, 35])
  (.seq (.cond (.t 35)
     (.skip)
     (.exit 2))
   (.seq (.block 3 (.seq (.reg [⟨some 36, .idxA 1 (.t 32) (.t 34), none⟩,
         ⟨some 37, .ld 1 false (.t 36), none⟩,
         ⟨some 12, .mv (.t 37), none⟩] [1, 2, 7, 8, 10, 12, 15, 16, 32, 33, 34])
      (.reg [⟨some 38, .mv (.t 8), none⟩,
         ⟨some 39, .mv (.t 12), none⟩,
         ⟨some 40, .idxA 1 (.t 38) (.t 39), none⟩,
         ⟨none, .st 1 (.t 40) (.k (.sc (.bool true))), none⟩] [1, 2, 7, 8, 10, 15, 16, 32, 33, 34])))
    (.reg [⟨some 41, .bin .add (.t 34) (.k (.sc (.int .i64 1))), none⟩,
       ⟨some 34, .mv (.t 41), none⟩] [1, 2, 7, 8, 10, 15, 16, 32, 33, 34])))
def b51L0 : AC :=
  .seq (.reg [⟨some 17, .bin .lss (.t 16) (.t 15), none⟩] [1, 2, 7, 8, 15, 16, 17])
  (.seq (.cond (.t 17)
     (.skip)
     (.exit 0))
   (.seq (.block 1 (.seq (.reg [⟨some 18, .mv (.t 16), none⟩,
         ⟨some 9, .mv (.t 18), none⟩] [1, 2, 7, 8, 9, 15, 16])
      (.seq (.seq (.reg [⟨some 19, .mv (.t 8), none⟩,
           ⟨some 20, .mv (.t 9), none⟩,
           ⟨some 21, .idxA 1 (.t 19) (.t 20), none⟩,
           ⟨some 22, .ld 1 false (.t 21), none⟩,
           ⟨some 23, .mv (.t 22), none⟩,
           ⟨some 24, .mv (.t 1), (some (23, false))⟩,
           ⟨some 25, .mv (.t 9), (some (23, false))⟩,
           ⟨some 26, .callv (.t 24) [(.t 25)], (some (23, false))⟩,
           ⟨some 27, .un .not (.t 26), (some (23, false))⟩,
           ⟨some 28, .pick (.t 23) (.k (.sc (.bool true))) (.t 27), none⟩] [1, 2, 7, 8, 9, 15, 16, 28])
        (.cond (.t 28)
          (.exit 1)
          (.skip)))
       (.seq (.reg [⟨some 29, .mv (.t 9), none⟩,
           ⟨some 30, .mv (.t 2), none⟩,
           ⟨some 31, .call 71 [(.t 29), (.t 30)], none⟩,
           ⟨some 10, .mv (.t 31), none⟩] [1, 2, 7, 8, 10, 15, 16])
        (.seq (.seq (.reg [⟨some 32, .mv (.t 10), none⟩,
             ⟨some 33, .len false (.t 32), none⟩,
             ⟨some 34, .mv (.k (.sc (.int .i64 0))), none⟩] [1, 2, 7, 8, 10, 15, 16, 32, 33, 34])
          (.block 2 (.loop [1, 2, 7, 8, 10, 15, 16, 32, 33, 34] b51L1)))
         (.reg [⟨some 42, .mv (.t 7), none⟩,
            ⟨some 43, .mv (.t 10), none⟩,
            ⟨some 44, .bsl 1 [.nilS] 1 [(0, .t 43)], none⟩,
            ⟨some 45, .app 1 24 [.nilS] (.t 42) (.t 44), none⟩,
            ⟨some 7, .mv (.t 45), none⟩] [1, 2, 7, 8, 15, 16]))))))
    (.reg [⟨some 46, .bin .add (.t 16) (.k (.sc (.int .i64 1))), none⟩,
       ⟨some 16, .mv (.t 46), none⟩] [1, 2, 7, 8, 15, 16])))
/-- unravel/diagram.cycles -/
def b51 : AC :=
  .seq (.reg [⟨some 6, .mv (.k (.sc .nilS)), none⟩] [0, 1, 2])
  (.seq (.reg [⟨some 7, .mv (.k (.sc .nilS)), none⟩] [0, 1, 2, 7])
   (.seq (.reg [⟨some 13, .mv (.t 0), none⟩,
       ⟨some 14, .mk 1 1 [.bool false] (.t 13) (.t 13), none⟩,
       ⟨some 8, .mv (.t 14), none⟩] [0, 1, 2, 7, 8])
    (.seq (.seq (.reg [⟨some 15, .mv (.t 0), none⟩,
         ⟨some 16, .mv (.k (.sc (.int .i64 0))), none⟩] [1, 2, 7, 8, 15, 16])
      (.block 0 (.loop [1, 2, 7, 8, 15, 16] b51L0)))
     (.seq (.reg [⟨some 47, .mv (.t 7), none⟩,
         ⟨some 6, .mv (.t 47), none⟩] [6])
      (.ret)))))
def a51 : AFun := ⟨3, b51, [.t 6]⟩

/-- unravel/diagram.Strands$2 -/
def b52 : AC :=
  .seq (.reg [⟨some 3, .mv (.k (.sc (.int .i64 0))), none⟩] [0, 1])
  (.seq (.reg [⟨some 4, .fldA 1 (.t 1), none⟩,
      ⟨some 5, .ld 1 false (.t 4), none⟩,
      ⟨some 6, .mv (.t 0), none⟩,
      ⟨some 7, .idxA 1 (.t 5) (.t 6), none⟩,
      ⟨some 8, .ld 1 false (.t 7), none⟩,
      ⟨some 9, .call 53 [(.t 8)], none⟩,
      ⟨some 3, .mv (.t 9), none⟩] [3])
   (.ret))
def a52 : AFun := ⟨2, b52, [.t 3]⟩

/-- unravel/diagram.Opposite -/
def b53 : AC :=
  .seq (.reg [⟨some 2, .mv (.k (.sc (.int .i64 0))), none⟩] [0])
  (.seq (.reg [⟨some 3, .mv (.t 0), none⟩,
      ⟨some 4, .call 63 [(.t 3), (.k (.sc (.int .i64 2)))], none⟩,
      ⟨some 2, .mv (.t 4), none⟩] [2])
   (.ret))
def a53 : AFun := ⟨1, b53, [.t 2]⟩

def b60L0 : AC :=
  .seq (.seq (.reg [⟨some 14, .mv (.t 6), none⟩,
      ⟨some 15, .mv (.t 1), none⟩,
      ⟨some 16, .bin .neq (.t 14) (.t 15), none⟩,
      ⟨some 17, .mv (.t 16), none⟩,
      ⟨some 18, .mv (.t 5), (some (17, true))⟩,
      ⟨some 19, .len false (.t 18), (some (17, true))⟩,
      ⟨some 20, .mv (.t 0), (some (17, true))⟩,
      ⟨some 21, .len false (.t 20), (some (17, true))⟩,
      ⟨some 22, .bin .leq (.t 19) (.t 21), (some (17, true))⟩,
      ⟨some 23, .pick (.t 17) (.t 22) (.k (.sc (.bool false))), none⟩] [0, 1, 5, 6, 23])
   (.cond (.t 23)
     (.skip)
     (.exit 0)))
  (.seq (.block 1 (.reg [⟨some 29, .mv (.t 5), none⟩,
       ⟨some 30, .mv (.t 6), none⟩,
       ⟨some 31, .bsl 1 [.int .i64 0] 1 [(0, .t 30)], none⟩,
       ⟨some 32, .app 1 8 [.int .i64 0] (.t 29) (.t 31), none⟩,
       ⟨some 5, .mv (.t 32), none⟩] [0, 1, 5, 6]))
   (.reg [⟨some 24, .mv (.t 0), none⟩,
      ⟨some 25, .mv (.t 6), none⟩,
      ⟨some 26, .idxA 1 (.t 24) (.t 25), none⟩,
      ⟨some 27, .ld 1 false (.t 26), none⟩,
      ⟨some 28, .call 81 [(.t 27), (.k (.sc (.int .i64 (-1))))], none⟩,
      ⟨some 6, .mv (.t 28), none⟩] [0, 1, 5, 6]))
/-- unravel/unravelref01.Face -/
def b60 : AC :=
  .seq (.reg [⟨some 4, .mv (.k (.sc .nilS)), none⟩] [0, 1])
  (.seq (.reg [⟨some 7, .mv (.t 1), none⟩,
      ⟨some 8, .bsl 1 [.int .i64 0] 1 [(0, .t 7)], none⟩,
      ⟨some 5, .mv (.t 8), none⟩] [0, 1, 5])
   (.seq (.seq (.reg [⟨some 9, .mv (.t 0), none⟩,
        ⟨some 10, .mv (.t 1), none⟩,
        ⟨some 11, .idxA 1 (.t 9) (.t 10), none⟩,
        ⟨some 12, .ld 1 false (.t 11), none⟩,
        ⟨some 13, .call 81 [(.t 12), (.k (.sc (.int .i64 (-1))))], none⟩,
        ⟨some 6, .mv (.t 13), none⟩] [0, 1, 5, 6])
     (.block 0 (.loop [0, 1, 5, 6] b60L0)))
    (.seq (.reg [⟨some 33, .mv (.t 5), none⟩,
        ⟨some 4, .mv (.t 33), none⟩] [4])
     (.ret))))
def a60 : AFun := ⟨2, b60, [.t 4]⟩

def b62L0 : AC :=
  .seq (.reg [⟨some 19, .bin .lss (.t 18) (.t 17), none⟩] [1, 4, 17, 18, 19])
  (.seq (.cond (.t 19)
     (.skip)
     (.exit 0))
   (.seq (.block 1 (.seq (.reg [⟨some 20, .mv (.t 18), none⟩,
         ⟨some 5, .mv (.t 20), none⟩] [1, 4, 5, 17, 18])
      (.reg [⟨some 21, .mv (.t 4), none⟩,
         ⟨some 22, .mv (.t 5), none⟩,
         ⟨some 23, .idxA 1 (.t 21) (.t 22), none⟩,
         ⟨none, .st 1 (.t 23) (.k (.sc (.int .i64 (-1)))), none⟩] [1, 4, 17, 18])))
    (.reg [⟨some 24, .bin .add (.t 18) (.k (.sc (.int .i64 1))), none⟩,
       ⟨some 18, .mv (.t 24), none⟩] [1, 4, 17, 18])))
def b62L3 : AC :=
  .seq (.reg [⟨some 50, .bin .lss (.t 49) (.k (.sc (.int .i64 4))), none⟩] [1, 4, 6, 8, 9, 26, 27, 49, 50])
  (.seq (.cond (.t 50)
     (.skip)
     (.exit 6))
   (.seq (.block 7 (.seq (.reg [⟨some 51, .mv (.t 49), none⟩,
         ⟨some 10, .mv (.t 51), none⟩] [1, 4, 6, 8, 9, 10, 26, 27, 49])
      (.seq (.reg [⟨some 52, .fldA 1 (.t 1), none⟩,
          ⟨some 53, .ld 1 false (.t 52), none⟩,
          ⟨some 54, .mv (.t 9), none⟩,
          ⟨some 55, .bin .mul (.k (.sc (.int .i64 4))) (.t 54), none⟩,
          ⟨some 56, .mv (.t 10), none⟩,
          ⟨some 57, .bin .add (.t 55) (.t 56), none⟩,
          ⟨some 58, .idxA 1 (.t 53) (.t 57), none⟩,
          ⟨some 59, .ld 1 false (.t 58), none⟩,
          ⟨some 60, .bin .quo (.t 59) (.k (.sc (.int .i64 4))), none⟩,
          ⟨some 11, .mv (.t 60), none⟩] [1, 4, 6, 8, 9, 11, 26, 27, 49])
       (.seq (.reg [⟨some 61, .mv (.t 4), none⟩,
           ⟨some 62, .mv (.t 11), none⟩,
           ⟨some 63, .idxA 1 (.t 61) (.t 62), none⟩,
           ⟨some 64, .ld 1 false (.t 63), none⟩,
           ⟨some 65, .bin .lss (.t 64) (.k (.sc (.int .i64 0))), none⟩] [1, 4, 6, 8, 9, 11, 26, 27, 49, 65])
        (.cond (.t 65)
          (.seq (.reg [⟨some 66, .mv (.t 4), none⟩,
              ⟨some 67, .mv (.t 11), none⟩,
              ⟨some 68, .mv (.t 6), none⟩,
              ⟨some 69, .idxA 1 (.t 66) (.t 67), none⟩,
              ⟨none, .st 1 (.t 69) (.t 68), none⟩] [1, 4, 6, 8, 9, 11, 26, 27, 49])
           (.reg [⟨some 70, .mv (.t 8), none⟩,
              ⟨some 71, .mv (.t 11), none⟩,
              ⟨some 72, .bsl 1 [.int .i64 0] 1 [(0, .t 71)], none⟩,
              ⟨some 73, .app 1 8 [.int .i64 0] (.t 70) (.t 72), none⟩,
              ⟨some 8, .mv (.t 73), none⟩] [1, 4, 6, 8, 9, 26, 27, 49]))
          (.skip))))))
    (.reg [⟨some 74, .bin .add (.t 49) (.k (.sc (.int .i64 1))), none⟩,
       ⟨some 49, .mv (.t 74), none⟩] [1, 4, 6, 8, 9, 26, 27, 49])))
def b62L2 : AC :=
  .seq (.seq (.reg [⟨some 41, .mv (.t 8), none⟩,
      ⟨some 42, .len false (.t 41), none⟩,
      ⟨some 43, .bin .gtr (.t 42) (.k (.sc (.int .i64 0))), none⟩] [1, 4, 6, 8, 26, 27, 43])
   (.cond (.t 43)
     (.skip)
     (.exit 4)))
  (.block 5 (.seq (.reg [⟨some 44, .mv (.t 8), none⟩,
       ⟨some 45, .idxA 1 (.t 44) (.k (.sc (.int .i64 0))), none⟩,
       ⟨some 46, .ld 1 false (.t 45), none⟩,
       ⟨some 9, .mv (.t 46), none⟩] [1, 4, 6, 8, 9, 26, 27])
    (.seq (.reg [⟨some 47, .mv (.t 8), none⟩,
        ⟨some 48, .sl1 (.t 47) (some (.k (.sc (.int .i64 1)))) none, none⟩,
        ⟨some 8, .mv (.t 48), none⟩] [1, 4, 6, 8, 9, 26, 27])
     (.seq (.reg [⟨some 49, .mv (.k (.sc (.int .i64 0))), none⟩] [1, 4, 6, 8, 9, 26, 27, 49])
      (.block 6 (.loop [1, 4, 6, 8, 9, 26, 27, 49] b62L3))))))
def b62L1 : AC :=
  .seq (.reg [⟨some 28, .bin .lss (.t 27) (.t 26), none⟩] [1, 4, 6, 26, 27, 28])
  (.seq (.cond (.t 28)
     (.skip)
     (.exit 2))
   (.seq (.block 3 (.seq (.reg [⟨some 29, .mv (.t 27), none⟩,
         ⟨some 7, .mv (.t 29), none⟩] [1, 4, 6, 7, 26, 27])
      (.seq (.seq (.reg [⟨some 30, .mv (.t 4), none⟩,
           ⟨some 31, .mv (.t 7), none⟩,
           ⟨some 32, .idxA 1 (.t 30) (.t 31), none⟩,
           ⟨some 33, .ld 1 false (.t 32), none⟩,
           ⟨some 34, .bin .geq (.t 33) (.k (.sc (.int .i64 0))), none⟩] [1, 4, 6, 7, 26, 27, 34])
        (.cond (.t 34)
          (.exit 3)
          (.skip)))
       (.seq (.reg [⟨some 35, .mv (.t 4), none⟩,
           ⟨some 36, .mv (.t 7), none⟩,
           ⟨some 37, .mv (.t 6), none⟩,
           ⟨some 38, .idxA 1 (.t 35) (.t 36), none⟩,
           ⟨none, .st 1 (.t 38) (.t 37), none⟩] [1, 4, 6, 7, 26, 27])
        (.seq (.reg [⟨some 39, .mv (.t 7), none⟩,
            ⟨some 40, .bsl 1 [.int .i64 0] 1 [(0, .t 39)], none⟩,
            ⟨some 8, .mv (.t 40), none⟩] [1, 4, 6, 8, 26, 27])
         (.seq (.block 4 (.loop [1, 4, 6, 8, 26, 27] b62L2))
          (.reg [⟨some 75, .mv (.t 6), none⟩,
             ⟨some 76, .bin .add (.t 75) (.k (.sc (.int .i64 1))), none⟩,
             ⟨some 6, .mv (.t 76), none⟩] [1, 4, 6, 26, 27])))))))
    (.reg [⟨some 77, .bin .add (.t 27) (.k (.sc (.int .i64 1))), none⟩,
       ⟨some 27, .mv (.t 77), none⟩] [1, 4, 6, 26, 27])))
/-- unravel/diagram.label -/
def b62 : AC :=
  .seq (.reg [⟨some 1, .box (.t 0), none⟩,
     ⟨some 2, .mv (.k (.sc .nilS)), none⟩,
     ⟨some 3, .mv (.k (.sc (.int .i64 0))), none⟩] [1])
  (.seq (.reg [⟨some 12, .fldA 0 (.t 1), none⟩,
      ⟨some 13, .ld 1 false (.t 12), none⟩,
      ⟨some 14, .len false (.t 13), none⟩,
      ⟨some 15, .mk 1 8 [.int .i64 0] (.t 14) (.t 14), none⟩,
      ⟨some 4, .mv (.t 15), none⟩] [1, 4])
   (.seq (.seq (.reg [⟨some 16, .mv (.t 4), none⟩,
        ⟨some 17, .len false (.t 16), none⟩,
        ⟨some 18, .mv (.k (.sc (.int .i64 0))), none⟩] [1, 4, 17, 18])
     (.block 0 (.loop [1, 4, 17, 18] b62L0)))
    (.seq (.reg [⟨some 6, .mv (.k (.sc (.int .i64 0))), none⟩] [1, 4, 6])
     (.seq (.seq (.reg [⟨some 25, .mv (.t 4), none⟩,
          ⟨some 26, .len false (.t 25), none⟩,
          ⟨some 27, .mv (.k (.sc (.int .i64 0))), none⟩] [1, 4, 6, 26, 27])
       (.block 2 (.loop [1, 4, 6, 26, 27] b62L1)))
      (.seq (.reg [⟨some 78, .mv (.t 4), none⟩,
          ⟨some 79, .mv (.t 6), none⟩,
          ⟨some 2, .mv (.t 78), none⟩,
          ⟨some 3, .mv (.t 79), none⟩] [2, 3])
       (.ret))))))
def a62 : AFun := ⟨1, b62, [.t 2, .t 3]⟩

/-- unravel/diagram.Turn -/
def b63 : AC :=
  .seq (.reg [⟨some 4, .mv (.k (.sc (.int .i64 0))), none⟩] [0, 1])
  (.seq (.seq (.reg [⟨some 5, .mv (.t 0), none⟩,
       ⟨some 6, .bin .lss (.t 5) (.k (.sc (.int .i64 0))), none⟩] [0, 1, 6])
    (.cond (.t 6)
      (.seq (.reg [⟨some 4, .mv (.k (.sc (.int .i64 (-1)))), none⟩] [4])
       (.ret))
      (.skip)))
   (.seq (.reg [⟨some 7, .mv (.t 0), none⟩,
       ⟨some 8, .mv (.t 0), none⟩,
       ⟨some 9, .bin .rem (.t 8) (.k (.sc (.int .i64 4))), none⟩,
       ⟨some 10, .bin .sub (.t 7) (.t 9), none⟩,
       ⟨some 11, .mv (.t 0), none⟩,
       ⟨some 12, .bin .rem (.t 11) (.k (.sc (.int .i64 4))), none⟩,
       ⟨some 13, .mv (.t 1), none⟩,
       ⟨some 14, .bin .rem (.t 13) (.k (.sc (.int .i64 4))), none⟩,
       ⟨some 15, .bin .add (.t 12) (.t 14), none⟩,
       ⟨some 16, .bin .add (.t 15) (.k (.sc (.int .i64 4))), none⟩,
       ⟨some 17, .bin .rem (.t 16) (.k (.sc (.int .i64 4))), none⟩,
       ⟨some 18, .bin .add (.t 10) (.t 17), none⟩,
       ⟨some 4, .mv (.t 18), none⟩] [4])
    (.ret)))
def a63 : AFun := ⟨2, b63, [.t 4]⟩

/-- strings.CutPrefix -/
def b65 : AC :=
  .seq (.reg [⟨some 4, .mv (.k (.sc (.str ⟨#[]⟩))), none⟩,
     ⟨some 5, .mv (.k (.sc (.bool false))), none⟩] [0, 1])
  (.seq (.reg [⟨some 6, .mv (.t 0), none⟩,
      ⟨some 7, .mv (.t 1), none⟩,
      ⟨some 8, .call 84 [(.t 6), (.t 7)], none⟩,
      ⟨some 9, .ext (.t 8) 0, none⟩,
      ⟨some 10, .ext (.t 8) 1, none⟩,
      ⟨some 4, .mv (.t 9), none⟩,
      ⟨some 5, .mv (.t 10), none⟩] [4, 5])
   (.ret))
def a65 : AFun := ⟨2, b65, [.t 4, .t 5]⟩

def b66L0 : AC :=
  .seq (.reg [⟨some 30, .bin .lss (.t 29) (.t 28), none⟩] [0, 1, 2, 8, 28, 29, 30])
  (.seq (.cond (.t 30)
     (.skip)
     (.exit 0))
   (.seq (.block 1 (.seq (.reg [⟨some 31, .mv (.t 29), none⟩,
         ⟨some 9, .mv (.t 31), none⟩] [0, 1, 2, 8, 9, 28, 29])
      (.seq (.seq (.reg [⟨some 32, .mv (.t 0), none⟩,
           ⟨some 33, .mv (.t 9), none⟩,
           ⟨some 34, .idxS (.t 32) (.t 33), none⟩,
           ⟨some 35, .bin .lss (.t 34) (.k (.sc (.int .u8 48))), none⟩,
           ⟨some 36, .mv (.t 35), none⟩,
           ⟨some 37, .mv (.t 0), (some (36, false))⟩,
           ⟨some 38, .mv (.t 9), (some (36, false))⟩,
           ⟨some 39, .idxS (.t 37) (.t 38), (some (36, false))⟩,
           ⟨some 40, .bin .gtr (.t 39) (.k (.sc (.int .u8 57))), (some (36, false))⟩,
           ⟨some 41, .pick (.t 36) (.k (.sc (.bool true))) (.t 40), none⟩] [0, 1, 2, 8, 9, 28, 29, 41])
        (.cond (.t 41)
          (.seq (.reg [⟨some 6, .mv (.k (.sc (.int .i64 0))), none⟩,
              ⟨some 7, .mv (.k (.sc (.bool false))), none⟩] [6, 7])
           (.ret))
          (.skip)))
       (.reg [⟨some 42, .mv (.t 8), none⟩,
          ⟨some 43, .bin .mul (.k (.sc (.int .i64 10))) (.t 42), none⟩,
          ⟨some 44, .mv (.t 0), none⟩,
          ⟨some 45, .mv (.t 9), none⟩,
          ⟨some 46, .idxS (.t 44) (.t 45), none⟩,
          ⟨some 47, .bin .sub (.t 46) (.k (.sc (.int .u8 48))), none⟩,
          ⟨some 48, .conv .i64 (.t 47), none⟩,
          ⟨some 49, .bin .add (.t 43) (.t 48), none⟩,
          ⟨some 8, .mv (.t 49), none⟩] [0, 1, 2, 8, 28, 29]))))
    (.reg [⟨some 50, .bin .add (.t 29) (.k (.sc (.int .i64 1))), none⟩,
       ⟨some 29, .mv (.t 50), none⟩] [0, 1, 2, 8, 28, 29])))
/-- unravel/planar.number -/
def b66 : AC :=
  .seq (.reg [⟨some 6, .mv (.k (.sc (.int .i64 0))), none⟩,
     ⟨some 7, .mv (.k (.sc (.bool false))), none⟩] [0, 1, 2])
  (.seq (.seq (.reg [⟨some 10, .mv (.t 0), none⟩,
       ⟨some 11, .bin .eql (.t 10) (.k (.sc (.str ⟨#[]⟩))), none⟩,
       ⟨some 12, .mv (.t 11), none⟩,
       ⟨some 13, .mv (.t 0), (some (12, false))⟩,
       ⟨some 14, .len true (.t 13), (some (12, false))⟩,
       ⟨some 15, .bin .gtr (.t 14) (.k (.sc (.int .i64 1))), (some (12, false))⟩,
       ⟨some 16, .mv (.t 15), (some (12, false))⟩,
       ⟨some 17, .mv (.t 0), (some (16, true))⟩,
       ⟨some 18, .idxS (.t 17) (.k (.sc (.int .i64 0))), (some (16, true))⟩,
       ⟨some 19, .bin .eql (.t 18) (.k (.sc (.int .u8 48))), (some (16, true))⟩,
       ⟨some 20, .pick (.t 16) (.t 19) (.k (.sc (.bool false))), (some (12, false))⟩,
       ⟨some 21, .pick (.t 12) (.k (.sc (.bool true))) (.t 20), none⟩,
       ⟨some 22, .mv (.t 21), none⟩,
       ⟨some 23, .mv (.t 0), (some (22, false))⟩,
       ⟨some 24, .len true (.t 23), (some (22, false))⟩,
       ⟨some 25, .bin .gtr (.t 24) (.k (.sc (.int .i64 9))), (some (22, false))⟩,
       ⟨some 26, .pick (.t 22) (.k (.sc (.bool true))) (.t 25), none⟩] [0, 1, 2, 26])
    (.cond (.t 26)
      (.seq (.reg [⟨some 6, .mv (.k (.sc (.int .i64 0))), none⟩,
          ⟨some 7, .mv (.k (.sc (.bool false))), none⟩] [6, 7])
       (.ret))
      (.skip)))
   (.seq (.reg [⟨some 8, .mv (.k (.sc (.int .i64 0))), none⟩] [0, 1, 2, 8])
    (.seq (.seq (.reg [⟨some 27, .mv (.t 0), none⟩,
         ⟨some 28, .len true (.t 27), none⟩,
         ⟨some 29, .mv (.k (.sc (.int .i64 0))), none⟩] [0, 1, 2, 8, 28, 29])
      (.block 0 (.loop [0, 1, 2, 8, 28, 29] b66L0)))
     (.seq (.seq (.reg [⟨some 51, .mv (.t 8), none⟩,
          ⟨some 52, .mv (.t 1), none⟩,
          ⟨some 53, .bin .lss (.t 51) (.t 52), none⟩,
          ⟨some 54, .mv (.t 53), none⟩,
          ⟨some 55, .mv (.t 8), (some (54, false))⟩,
          ⟨some 56, .mv (.t 2), (some (54, false))⟩,
          ⟨some 57, .bin .gtr (.t 55) (.t 56), (some (54, false))⟩,
          ⟨some 58, .pick (.t 54) (.k (.sc (.bool true))) (.t 57), none⟩] [8, 58])
       (.cond (.t 58)
         (.seq (.reg [⟨some 6, .mv (.k (.sc (.int .i64 0))), none⟩,
             ⟨some 7, .mv (.k (.sc (.bool false))), none⟩] [6, 7])
          (.ret))
         (.skip)))
      (.seq (.reg [⟨some 59, .mv (.t 8), none⟩,
          ⟨some 6, .mv (.t 59), none⟩,
          ⟨some 7, .mv (.k (.sc (.bool true))), none⟩] [6, 7])
       (.ret))))))
def a66 : AFun := ⟨3, b66, [.t 6, .t 7]⟩

def b67L0 : AC :=
  .seq (.reg [⟨some 27, .bin .lss (.t 26) (.k (.sc (.int .i64 4))), none⟩] [2, 4, 6, 26, 27])
  (.seq (.cond (.t 27)
     (.skip)
     (.exit 1))
   (.seq (.block 2 (.seq (.reg [⟨some 28, .mv (.t 26), none⟩,
         ⟨some 8, .mv (.t 28), none⟩] [2, 4, 6, 8, 26])
      (.seq (.reg [⟨some 9, .mv (.k (.sc (.bool false))), none⟩] [2, 4, 6, 8, 26])
       (.seq (.reg [⟨some 30, .mv (.t 6), none⟩,
           ⟨some 31, .call 64 [(.t 30), (.k (.sc (.str ⟨#[32]⟩)))], none⟩,
           ⟨some 29, .mv (.t 31), none⟩,
           ⟨some 32, .ext (.t 29) 0, none⟩,
           ⟨some 33, .ext (.t 29) 1, none⟩,
           ⟨some 34, .ext (.t 29) 2, none⟩,
           ⟨some 5, .mv (.t 32), none⟩,
           ⟨some 6, .mv (.t 33), none⟩,
           ⟨some 9, .mv (.t 34), none⟩] [2, 4, 5, 6, 8, 9, 26])
        (.seq (.reg [⟨some 36, .mv (.t 5), none⟩,
            ⟨some 37, .call 66 [(.t 36), (.k (.sc (.int .i64 1))), (.k (.sc (.int .i64 9999)))], none⟩,
            ⟨some 35, .mv (.t 37), none⟩,
            ⟨some 38, .ext (.t 35) 0, none⟩,
            ⟨some 39, .ext (.t 35) 1, none⟩,
            ⟨some 10, .mv (.t 38), none⟩,
            ⟨some 11, .mv (.t 39), none⟩] [2, 4, 6, 8, 9, 10, 11, 26])
         (.seq (.seq (.reg [⟨some 40, .mv (.t 11), none⟩,
              ⟨some 41, .un .not (.t 40), none⟩,
              ⟨some 42, .mv (.t 41), none⟩,
              ⟨some 43, .mv (.t 9), (some (42, false))⟩,
              ⟨some 44, .mv (.t 8), (some (42, false))⟩,
              ⟨some 45, .bin .lss (.t 44) (.k (.sc (.int .i64 3))), (some (42, false))⟩,
              ⟨some 46, .beq true (.t 43) (.t 45), (some (42, false))⟩,
              ⟨some 47, .pick (.t 42) (.k (.sc (.bool true))) (.t 46), none⟩] [2, 4, 6, 8, 10, 26, 47])
           (.cond (.t 47)
             (.seq (.reg [⟨some 48, .bld [.int .i64 0, .int .i64 0, .int .i64 0, .int .i64 0, .int .i64 0] [], none⟩,
                 ⟨none, .st 5 (.t 2) (.t 48), none⟩,
                 ⟨some 3, .mv (.k (.sc (.bool false))), none⟩] [2, 3])
              (.ret))
             (.skip)))
          (.reg [⟨some 49, .mv (.t 8), none⟩,
             ⟨some 50, .mv (.t 10), none⟩,
             ⟨some 51, .fldA 1 (.t 4), none⟩,
             ⟨some 52, .idxP 4 1 (.t 51) (.t 49), none⟩,
             ⟨none, .st 1 (.t 52) (.t 50), none⟩] [2, 4, 6, 26])))))))
    (.reg [⟨some 53, .bin .add (.t 26) (.k (.sc (.int .i64 1))), none⟩,
       ⟨some 26, .mv (.t 53), none⟩] [2, 4, 6, 26])))
/-- unravel/planar.crossing -/
def b67 : AC :=
  .seq (.reg [⟨some 2, .new [.int .i64 0, .int .i64 0, .int .i64 0, .int .i64 0, .int .i64 0], none⟩,
     ⟨some 3, .mv (.k (.sc (.bool false))), none⟩] [0, 2])
  (.seq (.reg [⟨some 4, .new [.int .i64 0, .int .i64 0, .int .i64 0, .int .i64 0, .int .i64 0], none⟩] [0, 2, 4])
   (.seq (.reg [⟨some 13, .mv (.t 0), none⟩,
       ⟨some 14, .call 64 [(.t 13), (.k (.sc (.str ⟨#[32]⟩)))], none⟩,
       ⟨some 12, .mv (.t 14), none⟩,
       ⟨some 15, .ext (.t 12) 0, none⟩,
       ⟨some 16, .ext (.t 12) 1, none⟩,
       ⟨some 17, .ext (.t 12) 2, none⟩,
       ⟨some 5, .mv (.t 15), none⟩,
       ⟨some 6, .mv (.t 16), none⟩,
       ⟨some 7, .mv (.t 17), none⟩] [2, 4, 5, 6])
    (.seq (.seq (.reg [⟨some 18, .mv (.t 5), none⟩] [2, 4, 6, 18])
      (.block 0 (.seq (.reg [⟨some 21, .bin .eql (.t 18) (.k (.sc (.str ⟨#[43]⟩))), none⟩,
           ⟨some 20, .mv (.t 21), none⟩] [2, 4, 6, 18, 20])
        (.cond (.t 20)
          (.reg [⟨some 22, .fldA 0 (.t 4), none⟩,
             ⟨none, .st 1 (.t 22) (.k (.sc (.int .i64 1))), none⟩] [2, 4, 6])
          (.seq (.reg [⟨some 24, .bin .eql (.t 18) (.k (.sc (.str ⟨#[45]⟩))), none⟩,
              ⟨some 23, .mv (.t 24), none⟩] [2, 4, 6, 23])
           (.cond (.t 23)
             (.reg [⟨some 25, .fldA 0 (.t 4), none⟩,
                ⟨none, .st 1 (.t 25) (.k (.sc (.int .i64 (-1)))), none⟩] [2, 4, 6])
             (.seq (.reg [⟨some 19, .bld [.int .i64 0, .int .i64 0, .int .i64 0, .int .i64 0, .int .i64 0] [], none⟩,
                 ⟨none, .st 5 (.t 2) (.t 19), none⟩,
                 ⟨some 3, .mv (.k (.sc (.bool false))), none⟩] [2, 3])
              (.ret))))))))
     (.seq (.seq (.reg [⟨some 26, .mv (.k (.sc (.int .i64 0))), none⟩] [2, 4, 6, 26])
       (.block 1 (.loop [2, 4, 6, 26] b67L0)))
      (.seq (.reg [⟨some 54, .ld 5 true (.t 4), none⟩,
          ⟨none, .st 5 (.t 2) (.t 54), none⟩,
          ⟨some 3, .mv (.k (.sc (.bool true))), none⟩] [2, 3])
       (.ret))))))
def a67 : AFun := ⟨1, b67, [.cell 2 5 true, .t 3]⟩

def b71L0 : AC :=
  .seq (.seq (.reg [⟨some 12, .mv (.t 6), none⟩,
      ⟨some 13, .mv (.t 0), none⟩,
      ⟨some 14, .bin .neq (.t 12) (.t 13), none⟩] [0, 1, 5, 6, 14])
   (.cond (.t 14)
     (.skip)
     (.exit 0)))
  (.seq (.block 1 (.reg [⟨some 18, .mv (.t 5), none⟩,
       ⟨some 19, .mv (.t 6), none⟩,
       ⟨some 20, .bsl 1 [.int .i64 0] 1 [(0, .t 19)], none⟩,
       ⟨some 21, .app 1 8 [.int .i64 0] (.t 18) (.t 20), none⟩,
       ⟨some 5, .mv (.t 21), none⟩] [0, 1, 5, 6]))
   (.reg [⟨some 15, .mv (.t 1), none⟩,
      ⟨some 16, .mv (.t 6), none⟩,
      ⟨some 17, .callv (.t 15) [(.t 16)], none⟩,
      ⟨some 6, .mv (.t 17), none⟩] [0, 1, 5, 6]))
/-- unravel/diagram.cycle -/
def b71 : AC :=
  .seq (.reg [⟨some 4, .mv (.k (.sc .nilS)), none⟩] [0, 1])
  (.seq (.reg [⟨some 7, .mv (.t 0), none⟩,
      ⟨some 8, .bsl 1 [.int .i64 0] 1 [(0, .t 7)], none⟩,
      ⟨some 5, .mv (.t 8), none⟩] [0, 1, 5])
   (.seq (.seq (.reg [⟨some 9, .mv (.t 1), none⟩,
        ⟨some 10, .mv (.t 0), none⟩,
        ⟨some 11, .callv (.t 9) [(.t 10)], none⟩,
        ⟨some 6, .mv (.t 11), none⟩] [0, 1, 5, 6])
     (.block 0 (.loop [0, 1, 5, 6] b71L0)))
    (.seq (.reg [⟨some 22, .mv (.t 5), none⟩,
        ⟨some 4, .mv (.t 22), none⟩] [4])
     (.ret))))
def a71 : AFun := ⟨2, b71, [.t 4]⟩

/-- unravel/unravelref01.Turn -/
def b81 : AC :=
  .seq (.reg [⟨some 4, .mv (.k (.sc (.int .i64 0))), none⟩] [0, 1])
  (.seq (.seq (.reg [⟨some 5, .mv (.t 0), none⟩,
       ⟨some 6, .bin .lss (.t 5) (.k (.sc (.int .i64 0))), none⟩] [0, 1, 6])
    (.cond (.t 6)
      (.seq (.reg [⟨some 4, .mv (.k (.sc (.int .i64 (-1)))), none⟩] [4])
       (.ret))
      (.skip)))
   (.seq (.reg [⟨some 7, .mv (.t 0), none⟩,
       ⟨some 8, .mv (.t 0), none⟩,
       ⟨some 9, .bin .rem (.t 8) (.k (.sc (.int .i64 4))), none⟩,
       ⟨some 10, .bin .sub (.t 7) (.t 9), none⟩,
       ⟨some 11, .mv (.t 0), none⟩,
       ⟨some 12, .bin .rem (.t 11) (.k (.sc (.int .i64 4))), none⟩,
       ⟨some 13, .mv (.t 1), none⟩,
       ⟨some 14, .bin .rem (.t 13) (.k (.sc (.int .i64 4))), none⟩,
       ⟨some 15, .bin .add (.t 12) (.t 14), none⟩,
       ⟨some 16, .bin .rem (.t 15) (.k (.sc (.int .i64 4))), none⟩,
       ⟨some 17, .bin .add (.t 16) (.k (.sc (.int .i64 4))), none⟩,
       ⟨some 18, .bin .rem (.t 17) (.k (.sc (.int .i64 4))), none⟩,
       ⟨some 19, .bin .add (.t 10) (.t 18), none⟩,
       ⟨some 4, .mv (.t 19), none⟩] [4])
    (.ret)))
def a81 : AFun := ⟨2, b81, [.t 4]⟩

/-- internal/stringslite.CutPrefix -/
def b84 : AC :=
  .seq (.reg [⟨some 4, .mv (.k (.sc (.str ⟨#[]⟩))), none⟩,
     ⟨some 5, .mv (.k (.sc (.bool false))), none⟩] [0, 1])
  (.seq (.seq (.reg [⟨some 6, .mv (.t 0), none⟩,
       ⟨some 7, .mv (.t 1), none⟩,
       ⟨some 8, .call 97 [(.t 6), (.t 7)], none⟩,
       ⟨some 9, .un .not (.t 8), none⟩] [0, 1, 9])
    (.cond (.t 9)
      (.seq (.reg [⟨some 10, .mv (.t 0), none⟩,
          ⟨some 4, .mv (.t 10), none⟩,
          ⟨some 5, .mv (.k (.sc (.bool false))), none⟩] [4, 5])
       (.ret))
      (.skip)))
   (.seq (.reg [⟨some 11, .mv (.t 0), none⟩,
       ⟨some 12, .mv (.t 1), none⟩,
       ⟨some 13, .len true (.t 12), none⟩,
       ⟨some 14, .slS (.t 11) (some (.t 13)) none, none⟩,
       ⟨some 4, .mv (.t 14), none⟩,
       ⟨some 5, .mv (.k (.sc (.bool true))), none⟩] [4, 5])
    (.ret)))
def a84 : AFun := ⟨2, b84, [.t 4, .t 5]⟩

/-- internal/stringslite.HasPrefix -/
def b97 : AC :=
  .seq (.reg [⟨some 4, .mv (.k (.sc (.bool false))), none⟩] [0, 1])
  (.seq (.reg [⟨some 5, .mv (.t 0), none⟩,
      ⟨some 6, .len true (.t 5), none⟩,
      ⟨some 7, .mv (.t 1), none⟩,
      ⟨some 8, .len true (.t 7), none⟩,
      ⟨some 9, .bin .geq (.t 6) (.t 8), none⟩,
      ⟨some 10, .mv (.t 9), none⟩,
      ⟨some 11, .mv (.t 0), (some (10, true))⟩,
      ⟨some 12, .mv (.t 1), (some (10, true))⟩,
      ⟨some 13, .len true (.t 12), (some (10, true))⟩,
      ⟨some 14, .slS (.t 11) none (some (.t 13)), (some (10, true))⟩,
      ⟨some 15, .mv (.t 1), (some (10, true))⟩,
      ⟨some 16, .bin .eql (.t 14) (.t 15), (some (10, true))⟩,
      ⟨some 17, .pick (.t 10) (.t 16) (.k (.sc (.bool false))), none⟩,
      ⟨some 4, .mv (.t 17), none⟩] [4])
   (.ret))
def a97 : AFun := ⟨2, b97, [.t 4]⟩

def FT : FuncId → Option AFun
  | 7 => some a7
  | 11 => some a11
  | 12 => some a12
  | 13 => some a13
  | 15 => some a15
  | 19 => some a19
  | 20 => some a20
  | 22 => some a22
  | 23 => some a23
  | 25 => some a25
  | 30 => some a30
  | 31 => some a31
  | 32 => some a32
  | 33 => some a33
  | 34 => some a34
  | 35 => some a35
  | 36 => some a36
  | 39 => some a39
  | 40 => some a40
  | 41 => some a41
  | 42 => some a42
  | 43 => some a43
  | 45 => some a45
  | 46 => some a46
  | 47 => some a47
  | 48 => some a48
  | 50 => some a50
  | 51 => some a51
  | 52 => some a52
  | 53 => some a53
  | 60 => some a60
  | 62 => some a62
  | 63 => some a63
  | 65 => some a65
  | 66 => some a66
  | 67 => some a67
  | 71 => some a71
  | 81 => some a81
  | 84 => some a84
  | 97 => some a97
  | _ => none

theorem ok7 : okFun Tryd.prog a7 Tryd.f7 = true := by kernel_rfl
theorem ok11 : okFun Tryd.prog a11 Tryd.f11 = true := by kernel_rfl
theorem ok12 : okFun Tryd.prog a12 Tryd.f12 = true := by kernel_rfl
theorem ok13 : okFun Tryd.prog a13 Tryd.f13 = true := by kernel_rfl
theorem ok15 : okFun Tryd.prog a15 Tryd.f15 = true := by kernel_rfl
theorem ok19 : okFun Tryd.prog a19 Tryd.f19 = true := by kernel_rfl
theorem ok20 : okFun Tryd.prog a20 Tryd.f20 = true := by kernel_rfl
theorem ok22 : okFun Tryd.prog a22 Tryd.f22 = true := by kernel_rfl
theorem ok23 : okFun Tryd.prog a23 Tryd.f23 = true := by kernel_rfl
theorem ok25 : okFun Tryd.prog a25 Tryd.f25 = true := by kernel_rfl
theorem ok30 : okFun Tryd.prog a30 Tryd.f30 = true := by kernel_rfl
theorem ok31 : okFun Tryd.prog a31 Tryd.f31 = true := by kernel_rfl
theorem ok32 : okFun Tryd.prog a32 Tryd.f32 = true := by kernel_rfl
theorem ok33 : okFun Tryd.prog a33 Tryd.f33 = true := by kernel_rfl
theorem ok34 : okFun Tryd.prog a34 Tryd.f34 = true := by kernel_rfl
theorem ok35 : okFun Tryd.prog a35 Tryd.f35 = true := by kernel_rfl
theorem ok36 : okFun Tryd.prog a36 Tryd.f36 = true := by kernel_rfl
theorem ok39 : okFun Tryd.prog a39 Tryd.f39 = true := by kernel_rfl
theorem ok40 : okFun Tryd.prog a40 Tryd.f40 = true := by kernel_rfl
theorem ok41 : okFun Tryd.prog a41 Tryd.f41 = true := by kernel_rfl
theorem ok42 : okFun Tryd.prog a42 Tryd.f42 = true := by kernel_rfl
theorem ok43 : okFun Tryd.prog a43 Tryd.f43 = true := by kernel_rfl
theorem ok45 : okFun Tryd.prog a45 Tryd.f45 = true := by kernel_rfl
theorem ok46 : okFun Tryd.prog a46 Tryd.f46 = true := by kernel_rfl
theorem ok47 : okFun Tryd.prog a47 Tryd.f47 = true := by kernel_rfl
theorem ok48 : okFun Tryd.prog a48 Tryd.f48 = true := by kernel_rfl
theorem ok50 : okFun Tryd.prog a50 Tryd.f50 = true := by kernel_rfl
theorem ok51 : okFun Tryd.prog a51 Tryd.f51 = true := by kernel_rfl
theorem ok52 : okFun Tryd.prog a52 Tryd.f52 = true := by kernel_rfl
theorem ok53 : okFun Tryd.prog a53 Tryd.f53 = true := by kernel_rfl
theorem ok60 : okFun Tryd.prog a60 Tryd.f60 = true := by kernel_rfl
theorem ok62 : okFun Tryd.prog a62 Tryd.f62 = true := by kernel_rfl
theorem ok63 : okFun Tryd.prog a63 Tryd.f63 = true := by kernel_rfl
theorem ok65 : okFun Tryd.prog a65 Tryd.f65 = true := by kernel_rfl
theorem ok66 : okFun Tryd.prog a66 Tryd.f66 = true := by kernel_rfl
theorem ok67 : okFun Tryd.prog a67 Tryd.f67 = true := by kernel_rfl
theorem ok71 : okFun Tryd.prog a71 Tryd.f71 = true := by kernel_rfl
theorem ok81 : okFun Tryd.prog a81 Tryd.f81 = true := by kernel_rfl
theorem ok84 : okFun Tryd.prog a84 Tryd.f84 = true := by kernel_rfl
theorem ok97 : okFun Tryd.prog a97 Tryd.f97 = true := by kernel_rfl
theorem mixed : Tryd.prog.follows .mixedOrders = true := by kernel_rfl
theorem ft_ok : FTok Tryd.prog FT := by
  refine ⟨mixed, fun f F h => ?_⟩
  unfold FT at h
  split at h
  · simp at h; subst h; exact ⟨_, Tryd.func7, ok7⟩
  · simp at h; subst h; exact ⟨_, Tryd.func11, ok11⟩
  · simp at h; subst h; exact ⟨_, Tryd.func12, ok12⟩
  · simp at h; subst h; exact ⟨_, Tryd.func13, ok13⟩
  · simp at h; subst h; exact ⟨_, Tryd.func15, ok15⟩
  · simp at h; subst h; exact ⟨_, Tryd.func19, ok19⟩
  · simp at h; subst h; exact ⟨_, Tryd.func20, ok20⟩
  · simp at h; subst h; exact ⟨_, Tryd.func22, ok22⟩
  · simp at h; subst h; exact ⟨_, Tryd.func23, ok23⟩
  · simp at h; subst h; exact ⟨_, Tryd.func25, ok25⟩
  · simp at h; subst h; exact ⟨_, Tryd.func30, ok30⟩
  · simp at h; subst h; exact ⟨_, Tryd.func31, ok31⟩
  · simp at h; subst h; exact ⟨_, Tryd.func32, ok32⟩
  · simp at h; subst h; exact ⟨_, Tryd.func33, ok33⟩
  · simp at h; subst h; exact ⟨_, Tryd.func34, ok34⟩
  · simp at h; subst h; exact ⟨_, Tryd.func35, ok35⟩
  · simp at h; subst h; exact ⟨_, Tryd.func36, ok36⟩
  · simp at h; subst h; exact ⟨_, Tryd.func39, ok39⟩
  · simp at h; subst h; exact ⟨_, Tryd.func40, ok40⟩
  · simp at h; subst h; exact ⟨_, Tryd.func41, ok41⟩
  · simp at h; subst h; exact ⟨_, Tryd.func42, ok42⟩
  · simp at h; subst h; exact ⟨_, Tryd.func43, ok43⟩
  · simp at h; subst h; exact ⟨_, Tryd.func45, ok45⟩
  · simp at h; subst h; exact ⟨_, Tryd.func46, ok46⟩
  · simp at h; subst h; exact ⟨_, Tryd.func47, ok47⟩
  · simp at h; subst h; exact ⟨_, Tryd.func48, ok48⟩
  · simp at h; subst h; exact ⟨_, Tryd.func50, ok50⟩
  · simp at h; subst h; exact ⟨_, Tryd.func51, ok51⟩
  · simp at h; subst h; exact ⟨_, Tryd.func52, ok52⟩
  · simp at h; subst h; exact ⟨_, Tryd.func53, ok53⟩
  · simp at h; subst h; exact ⟨_, Tryd.func60, ok60⟩
  · simp at h; subst h; exact ⟨_, Tryd.func62, ok62⟩
  · simp at h; subst h; exact ⟨_, Tryd.func63, ok63⟩
  · simp at h; subst h; exact ⟨_, Tryd.func65, ok65⟩
  · simp at h; subst h; exact ⟨_, Tryd.func66, ok66⟩
  · simp at h; subst h; exact ⟨_, Tryd.func67, ok67⟩
  · simp at h; subst h; exact ⟨_, Tryd.func71, ok71⟩
  · simp at h; subst h; exact ⟨_, Tryd.func81, ok81⟩
  · simp at h; subst h; exact ⟨_, Tryd.func84, ok84⟩
  · simp at h; subst h; exact ⟨_, Tryd.func97, ok97⟩
  · simp at h
end Go.Proofs.YtehnalbdfnmphaaDoor
