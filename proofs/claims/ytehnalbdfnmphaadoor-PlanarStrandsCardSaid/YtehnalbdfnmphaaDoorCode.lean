/- The annotated code of this seat, printed by program (mkseat.py). -/
import Derived.Test.YtehnalbdfnmphaaDoorProg
import Derived.KernelRfl
import Derived.Test.YtehnalbdfnmphaaDoorAb17
namespace Go.Proofs.YtehnalbdfnmphaaDoor
open Go.Ab

def b8L0 : AC :=
  .seq (.reg [⟨some 40, .bin .lss (.t 39) (.t 38), none⟩] [1, 5, 6, 38, 39, 40])
  (.seq (.cond (.t 40)
     (.skip)
     (.exit 0))
   (.seq (.block 1 (.seq (.reg [⟨some 41, .mv (.t 39), none⟩,
         ⟨some 7, .mv (.t 41), none⟩] [1, 5, 6, 7, 38, 39])
      (.seq (.reg [⟨some 42, .mv (.t 5), none⟩,
          ⟨some 43, .mv (.t 7), none⟩,
          ⟨some 44, .idxA 1 (.t 42) (.t 43), none⟩,
          ⟨some 45, .ld 1 false (.t 44), none⟩,
          ⟨some 46, .call 24 [(.t 45), (.k (.sc (.str ⟨#[32]⟩)))], none⟩,
          ⟨some 8, .mv (.t 46), none⟩] [1, 5, 6, 7, 8, 38, 39])
       (.seq (.seq (.regd [(⟨some 47, .mv (.t 8), none⟩, 0, false),
            (⟨some 48, .len false (.t 47), none⟩, 1, false),
            (⟨some 49, .bin .neq (.t 48) (.k (.sc (.int .i64 5))), none⟩, 2, false),
            (⟨some 50, .mv (.t 49), none⟩, 3, false),
            (⟨some 51, .mv (.t 8), (some (50, false))⟩, 4, false),
            (⟨some 52, .idxA 1 (.t 51) (.k (.sc (.int .i64 0))), (some (50, false))⟩, 5, false),
            (⟨some 53, .ld 1 false (.t 52), (some (50, false))⟩, 6, false),
            (⟨some 54, .bin .eql (.t 53) (.k (.sc (.str ⟨#[43]⟩))), (some (50, false))⟩, 7, false),
            (⟨some 55, .fldA 0 (.t 1), (some (50, false))⟩, 8, false),
            (⟨some 56, .ld 1 false (.t 55), (some (50, false))⟩, 9, false),
            (⟨some 57, .mv (.t 7), (some (50, false))⟩, 10, false),
            (⟨some 58, .idxA 1 (.t 56) (.t 57), (some (50, false))⟩, 11, false),
            (⟨some 59, .ld 1 false (.t 58), (some (50, false))⟩, 12, false),
            (⟨some 60, .bin .eql (.t 59) (.k (.sc (.int .i64 1))), (some (50, false))⟩, 13, false),
            (⟨some 61, .beq true (.t 54) (.t 60), (some (50, false))⟩, 14, false),
            (⟨some 62, .pick (.t 50) (.k (.sc (.bool true))) (.t 61), none⟩, 15, false)] [1, 5, 6, 7, 8, 38, 39, 62])
         (.cond (.t 62)
           (.seq (.reg [⟨some 2, .mv (.k (.sc (.bool false))), none⟩] [2])
            (.ret))
           (.skip)))
        (.regd [(⟨some 63, .mv (.t 6), none⟩, 0, false),
           (⟨some 64, .mv (.t 7), none⟩, 1, false),
           (⟨some 65, .bin .mul (.k (.sc (.int .i64 4))) (.t 64), none⟩, 2, false),
           (⟨some 66, .sl1 (.t 63) (some (.t 65)) none, none⟩, 3, false),
           (⟨some 67, .mv (.t 8), none⟩, 4, false),
           (⟨some 68, .sl1 (.t 67) (some (.k (.sc (.int .i64 1)))) none, none⟩, 5, false),
           (⟨some 69, .cpy 1 (.t 66) (.t 68), none⟩, 6, true)] [1, 5, 6, 38, 39])))))
    (.reg [⟨some 70, .bin .add (.t 39) (.k (.sc (.int .i64 1))), none⟩,
       ⟨some 39, .mv (.t 70), none⟩] [1, 5, 6, 38, 39])))
def b8L2 : AC :=
  .seq (.reg [⟨some 81, .bin .lss (.t 80) (.t 79), none⟩] [1, 5, 6, 9, 72, 73, 74, 78, 79, 80, 81])
  (.seq (.cond (.t 81)
     (.skip)
     (.exit 4))
   (.seq (.block 5 (.seq (.reg [⟨some 82, .idxA 1 (.t 78) (.t 80), none⟩,
         ⟨some 83, .ld 1 false (.t 82), none⟩,
         ⟨some 13, .mv (.t 83), none⟩] [1, 5, 6, 9, 13, 72, 73, 74, 78, 79, 80])
      (.seq (.reg [⟨some 84, .mv (.t 9), none⟩,
          ⟨some 85, .bin .add (.t 84) (.k (.sc (.int .i64 1))), none⟩,
          ⟨some 9, .mv (.t 85), none⟩] [1, 5, 6, 9, 13, 72, 73, 74, 78, 79, 80])
       (.seq (.regd [(⟨some 86, .mv (.t 13), none⟩, 0, false),
           (⟨some 87, .bin .lss (.t 86) (.k (.sc (.int .i64 0))), none⟩, 1, false),
           (⟨some 88, .mv (.t 87), none⟩, 2, false),
           (⟨some 89, .mv (.t 13), (some (88, false))⟩, 3, false),
           (⟨some 90, .mv (.t 6), (some (88, false))⟩, 4, false),
           (⟨some 91, .len false (.t 90), (some (88, false))⟩, 5, false),
           (⟨some 92, .bin .geq (.t 89) (.t 91), (some (88, false))⟩, 6, false),
           (⟨some 93, .pick (.t 88) (.k (.sc (.bool true))) (.t 92), none⟩, 7, false),
           (⟨some 94, .mv (.t 93), none⟩, 8, false),
           (⟨some 95, .mv (.t 6), (some (94, false))⟩, 9, false),
           (⟨some 96, .mv (.t 13), (some (94, false))⟩, 10, false),
           (⟨some 97, .idxA 1 (.t 95) (.t 96), (some (94, false))⟩, 11, false),
           (⟨some 98, .ld 1 false (.t 97), (some (94, false))⟩, 12, false),
           (⟨some 99, .mv (.t 9), (some (94, false))⟩, 13, false),
           (⟨some 100, .call 26 [(.t 99)], (some (94, false))⟩, 14, false),
           (⟨some 101, .bin .neq (.t 98) (.t 100), (some (94, false))⟩, 15, false),
           (⟨some 102, .pick (.t 94) (.k (.sc (.bool true))) (.t 101), none⟩, 16, false),
           (⟨some 103, .mv (.t 102), none⟩, 17, false),
           (⟨some 104, .mv (.t 6), (some (103, false))⟩, 18, false),
           (⟨some 105, .fldA 1 (.t 1), (some (103, false))⟩, 19, false),
           (⟨some 106, .ld 1 false (.t 105), (some (103, false))⟩, 20, false),
           (⟨some 107, .mv (.t 13), (some (103, false))⟩, 21, false),
           (⟨some 108, .idxA 1 (.t 106) (.t 107), (some (103, false))⟩, 22, false),
           (⟨some 109, .ld 1 false (.t 108), (some (103, false))⟩, 23, false),
           (⟨some 110, .idxA 1 (.t 104) (.t 109), (some (103, false))⟩, 24, false),
           (⟨some 111, .ld 1 false (.t 110), (some (103, false))⟩, 25, false),
           (⟨some 112, .mv (.t 6), (some (103, false))⟩, 26, false),
           (⟨some 113, .mv (.t 13), (some (103, false))⟩, 27, false),
           (⟨some 114, .idxA 1 (.t 112) (.t 113), (some (103, false))⟩, 28, false),
           (⟨some 115, .ld 1 false (.t 114), (some (103, false))⟩, 29, false),
           (⟨some 116, .bin .neq (.t 111) (.t 115), (some (103, false))⟩, 30, false),
           (⟨some 117, .pick (.t 103) (.k (.sc (.bool true))) (.t 116), none⟩, 31, false)] [1, 5, 6, 9, 72, 73, 74, 78, 79, 80, 117])
        (.cond (.t 117)
          (.seq (.reg [⟨some 2, .mv (.k (.sc (.bool false))), none⟩] [2])
           (.ret))
          (.skip))))))
    (.reg [⟨some 118, .bin .add (.t 80) (.k (.sc (.int .i64 1))), none⟩,
       ⟨some 80, .mv (.t 118), none⟩] [1, 5, 6, 9, 72, 73, 74, 78, 79, 80])))
def b8L1 : AC :=
  .seq (.reg [⟨some 75, .bin .lss (.t 74) (.t 73), none⟩] [1, 5, 6, 9, 72, 73, 74, 75])
  (.seq (.cond (.t 75)
     (.skip)
     (.exit 2))
   (.seq (.block 3 (.seq (.reg [⟨some 76, .idxA 1 (.t 72) (.t 74), none⟩,
         ⟨some 77, .ld 1 false (.t 76), none⟩,
         ⟨some 11, .mv (.t 77), none⟩] [1, 5, 6, 9, 11, 72, 73, 74])
      (.seq (.reg [⟨some 78, .mv (.t 11), none⟩,
          ⟨some 79, .len false (.t 78), none⟩,
          ⟨some 80, .mv (.k (.sc (.int .i64 0))), none⟩] [1, 5, 6, 9, 72, 73, 74, 78, 79, 80])
       (.block 4 (.loop [1, 5, 6, 9, 72, 73, 74, 78, 79, 80] b8L2)))))
    (.reg [⟨some 119, .bin .add (.t 74) (.k (.sc (.int .i64 1))), none⟩,
       ⟨some 74, .mv (.t 119), none⟩] [1, 5, 6, 9, 72, 73, 74])))
/-- unravel/unravellaw03.PlanarStrands -/
def b8 : AC :=
  .seq (.reg [⟨some 1, .box (.t 0), none⟩,
     ⟨some 2, .mv (.k (.sc (.bool false))), none⟩] [1])
  (.seq (.seq (.reg [⟨some 14, .call 11 [], none⟩,
       ⟨some 15, .un .not (.t 14), none⟩] [1, 15])
    (.cond (.t 15)
      (.seq (.reg [⟨some 2, .mv (.k (.sc (.bool false))), none⟩] [2])
       (.ret))
      (.skip)))
   (.seq (.reg [⟨some 17, .ld 3 true (.t 1), none⟩,
       ⟨some 18, .call 12 [(.t 17)], none⟩,
       ⟨some 16, .mv (.t 18), none⟩,
       ⟨some 19, .ext (.t 16) 0, none⟩,
       ⟨some 20, .ext (.t 16) 1, none⟩,
       ⟨some 3, .mv (.t 19), none⟩,
       ⟨some 4, .mv (.t 20), none⟩] [1, 3, 4])
    (.seq (.seq (.reg [⟨some 21, .mv (.t 4), none⟩,
         ⟨some 22, .bin .neq (.t 21) (.k (.sc (.int .i64 0))), none⟩] [1, 3, 22])
      (.cond (.t 22)
        (.seq (.reg [⟨some 2, .mv (.k (.sc (.bool true))), none⟩] [2])
         (.ret))
        (.skip)))
     (.seq (.reg [⟨some 23, .mv (.t 3), none⟩,
         ⟨some 24, .call 24 [(.t 23), (.k (.sc (.str ⟨#[10]⟩)))], none⟩,
         ⟨some 5, .mv (.t 24), none⟩] [1, 5])
      (.seq (.seq (.reg [⟨some 25, .mv (.t 5), none⟩,
           ⟨some 26, .len false (.t 25), none⟩,
           ⟨some 27, .fldA 0 (.t 1), none⟩,
           ⟨some 28, .ld 1 false (.t 27), none⟩,
           ⟨some 29, .len false (.t 28), none⟩,
           ⟨some 30, .bin .add (.t 29) (.k (.sc (.int .i64 2))), none⟩,
           ⟨some 31, .bin .neq (.t 26) (.t 30), none⟩] [1, 5, 31])
        (.cond (.t 31)
          (.seq (.reg [⟨some 2, .mv (.k (.sc (.bool false))), none⟩] [2])
           (.ret))
          (.skip)))
       (.seq (.reg [⟨some 32, .fldA 1 (.t 1), none⟩,
           ⟨some 33, .ld 1 false (.t 32), none⟩,
           ⟨some 34, .len false (.t 33), none⟩,
           ⟨some 35, .mk 1 16 [.str ByteArray.empty] (.t 34) (.t 34), none⟩,
           ⟨some 6, .mv (.t 35), none⟩] [1, 5, 6])
        (.seq (.seq (.reg [⟨some 36, .fldA 0 (.t 1), none⟩,
             ⟨some 37, .ld 1 false (.t 36), none⟩,
             ⟨some 38, .len false (.t 37), none⟩,
             ⟨some 39, .mv (.k (.sc (.int .i64 0))), none⟩] [1, 5, 6, 38, 39])
          (.block 0 (.loop [1, 5, 6, 38, 39] b8L0)))
         (.seq (.reg [⟨some 9, .mv (.k (.sc (.int .i64 0))), none⟩] [1, 5, 6, 9])
          (.seq (.seq (.reg [⟨some 71, .ld 3 true (.t 1), none⟩,
               ⟨some 72, .call 25 [(.t 71)], none⟩,
               ⟨some 73, .len false (.t 72), none⟩,
               ⟨some 74, .mv (.k (.sc (.int .i64 0))), none⟩] [1, 5, 6, 9, 72, 73, 74])
            (.block 2 (.loop [1, 5, 6, 9, 72, 73, 74] b8L1)))
           (.seq (.regd [(⟨some 120, .mv (.t 9), none⟩, 0, false),
               (⟨some 121, .bin .mul (.k (.sc (.int .i64 2))) (.t 120), none⟩, 1, false),
               (⟨some 122, .fldA 1 (.t 1), none⟩, 2, false),
               (⟨some 123, .ld 1 false (.t 122), none⟩, 3, true),
               (⟨some 124, .len false (.t 123), none⟩, 4, false),
               (⟨some 125, .bin .eql (.t 121) (.t 124), none⟩, 5, false),
               (⟨some 126, .mv (.t 125), none⟩, 6, false),
               (⟨some 127, .mv (.t 5), (some (126, true))⟩, 7, false),
               (⟨some 128, .fldA 0 (.t 1), (some (126, true))⟩, 8, false),
               (⟨some 129, .ld 1 false (.t 128), (some (126, true))⟩, 9, false),
               (⟨some 130, .len false (.t 129), (some (126, true))⟩, 10, false),
               (⟨some 131, .idxA 1 (.t 127) (.t 130), (some (126, true))⟩, 11, false),
               (⟨some 132, .ld 1 false (.t 131), (some (126, true))⟩, 12, false),
               (⟨some 133, .fldA 2 (.t 1), (some (126, true))⟩, 13, false),
               (⟨some 134, .ld 1 false (.t 133), (some (126, true))⟩, 14, false),
               (⟨some 135, .call 26 [(.t 134)], (some (126, true))⟩, 15, false),
               (⟨some 136, .bin .add (.k (.sc (.str ⟨#[108, 111, 111, 112, 115, 32]⟩))) (.t 135), (some (126, true))⟩, 16, false),
               (⟨some 137, .bin .eql (.t 132) (.t 136), (some (126, true))⟩, 17, false),
               (⟨some 138, .pick (.t 126) (.t 137) (.k (.sc (.bool false))), none⟩, 18, false),
               (⟨some 2, .mv (.t 138), none⟩, 19, false)] [2])
            (.ret)))))))))))
def a8 : AFun := ⟨1, b8, [.t 2]⟩

/-- unravel/unravellaw03.awake -/
def b11 : AC :=
  .seq (.reg [⟨some 0, .mv (.k (.sc (.bool false))), none⟩] [])
  (.seq (.reg [⟨some 6, .call 30 [], none⟩,
      ⟨some 7, .call 12 [(.t 6)], none⟩,
      ⟨some 5, .mv (.t 7), none⟩,
      ⟨some 8, .ext (.t 5) 0, none⟩,
      ⟨some 9, .ext (.t 5) 1, none⟩,
      ⟨some 1, .mv (.t 8), none⟩,
      ⟨some 2, .mv (.t 9), none⟩] [1, 2])
   (.seq (.reg [⟨some 11, .call 30 [], none⟩,
       ⟨some 12, .call 15 [(.t 11)], none⟩,
       ⟨some 10, .mv (.t 12), none⟩,
       ⟨some 13, .ext (.t 10) 0, none⟩,
       ⟨some 14, .ext (.t 10) 1, none⟩,
       ⟨some 3, .mv (.t 13), none⟩,
       ⟨some 4, .mv (.t 14), none⟩] [1, 2, 3, 4])
    (.seq (.reg [⟨some 15, .mv (.t 2), none⟩,
        ⟨some 16, .bin .eql (.t 15) (.k (.sc (.int .i64 0))), none⟩,
        ⟨some 17, .mv (.t 16), none⟩,
        ⟨some 18, .mv (.t 4), (some (17, true))⟩,
        ⟨some 19, .bin .eql (.t 18) (.k (.sc (.int .i64 0))), (some (17, true))⟩,
        ⟨some 20, .pick (.t 17) (.t 19) (.k (.sc (.bool false))), none⟩,
        ⟨some 21, .mv (.t 20), none⟩,
        ⟨some 22, .mv (.t 1), (some (21, true))⟩,
        ⟨some 23, .bin .eql (.t 22) (.k (.sc (.str ⟨#[43, 32, 49, 32, 49, 32, 50, 32, 50, 10, 108, 111, 111, 112, 115, 32, 48, 10]⟩))), (some (21, true))⟩,
        ⟨some 24, .pick (.t 21) (.t 23) (.k (.sc (.bool false))), none⟩,
        ⟨some 25, .mv (.t 24), none⟩,
        ⟨some 26, .mv (.t 3), (some (25, true))⟩,
        ⟨some 27, .cbs (.t 26), (some (25, true))⟩,
        ⟨some 28, .bin .eql (.t 27) (.k (.sc (.str ⟨#[1, 0, 1, 0, 3]⟩))), (some (25, true))⟩,
        ⟨some 29, .pick (.t 25) (.t 28) (.k (.sc (.bool false))), none⟩,
        ⟨some 0, .mv (.t 29), none⟩] [0])
     (.ret))))
def a11 : AFun := ⟨0, b11, [.t 0]⟩

def b12L1 : AC :=
  .seq (.reg [⟨some 31, .bin .lss (.t 30) (.t 29), none⟩] [1, 4, 5, 22, 23, 24, 28, 29, 30, 31])
  (.seq (.cond (.t 31)
     (.skip)
     (.exit 2))
   (.seq (.block 3 (.seq (.reg [⟨some 32, .idxA 1 (.t 28) (.t 30), none⟩,
         ⟨some 33, .ld 1 false (.t 32), none⟩,
         ⟨some 9, .mv (.t 33), none⟩] [1, 4, 5, 9, 22, 23, 24, 28, 29, 30])
      (.seq (.reg [⟨some 34, .mv (.t 4), none⟩,
          ⟨some 35, .mv (.t 9), none⟩,
          ⟨some 36, .mv (.t 5), none⟩,
          ⟨some 37, .idxA 1 (.t 34) (.t 35), none⟩,
          ⟨none, .st 1 (.t 37) (.t 36), none⟩] [1, 4, 5, 9, 22, 23, 24, 28, 29, 30])
       (.seq (.reg [⟨some 38, .mv (.t 4), none⟩,
           ⟨some 39, .fldA 1 (.t 1), none⟩,
           ⟨some 40, .ld 1 false (.t 39), none⟩,
           ⟨some 41, .mv (.t 9), none⟩,
           ⟨some 42, .idxA 1 (.t 40) (.t 41), none⟩,
           ⟨some 43, .ld 1 false (.t 42), none⟩,
           ⟨some 44, .mv (.t 5), none⟩,
           ⟨some 45, .idxA 1 (.t 38) (.t 43), none⟩,
           ⟨none, .st 1 (.t 45) (.t 44), none⟩] [1, 4, 5, 22, 23, 24, 28, 29, 30])
        (.reg [⟨some 46, .mv (.t 5), none⟩,
           ⟨some 47, .bin .add (.t 46) (.k (.sc (.int .i64 1))), none⟩,
           ⟨some 5, .mv (.t 47), none⟩] [1, 4, 5, 22, 23, 24, 28, 29, 30])))))
    (.reg [⟨some 48, .bin .add (.t 30) (.k (.sc (.int .i64 1))), none⟩,
       ⟨some 30, .mv (.t 48), none⟩] [1, 4, 5, 22, 23, 24, 28, 29, 30])))
def b12L0 : AC :=
  .seq (.reg [⟨some 25, .bin .lss (.t 24) (.t 23), none⟩] [1, 4, 5, 22, 23, 24, 25])
  (.seq (.cond (.t 25)
     (.skip)
     (.exit 0))
   (.seq (.block 1 (.seq (.reg [⟨some 26, .idxA 1 (.t 22) (.t 24), none⟩,
         ⟨some 27, .ld 1 false (.t 26), none⟩,
         ⟨some 7, .mv (.t 27), none⟩] [1, 4, 5, 7, 22, 23, 24])
      (.seq (.reg [⟨some 28, .mv (.t 7), none⟩,
          ⟨some 29, .len false (.t 28), none⟩,
          ⟨some 30, .mv (.k (.sc (.int .i64 0))), none⟩] [1, 4, 5, 22, 23, 24, 28, 29, 30])
       (.block 2 (.loop [1, 4, 5, 22, 23, 24, 28, 29, 30] b12L1)))))
    (.reg [⟨some 49, .bin .add (.t 24) (.k (.sc (.int .i64 1))), none⟩,
       ⟨some 24, .mv (.t 49), none⟩] [1, 4, 5, 22, 23, 24])))
def b12L3 : AC :=
  .seq (.reg [⟨some 63, .bin .lss (.t 62) (.k (.sc (.int .i64 4))), none⟩] [1, 4, 10, 11, 51, 52, 53, 62, 63])
  (.seq (.cond (.t 63)
     (.skip)
     (.exit 6))
   (.seq (.block 7 (.seq (.reg [⟨some 64, .mv (.t 62), none⟩,
         ⟨some 13, .mv (.t 64), none⟩] [1, 4, 10, 11, 13, 51, 52, 53, 62])
      (.seq (.reg [⟨some 65, .call 31 [(.t 10), (.k (.sc (.int .u8 32)))], none⟩] [1, 4, 10, 11, 13, 51, 52, 53, 62])
       (.reg [⟨some 66, .mv (.t 4), none⟩,
          ⟨some 67, .mv (.t 11), none⟩,
          ⟨some 68, .bin .mul (.k (.sc (.int .i64 4))) (.t 67), none⟩,
          ⟨some 69, .mv (.t 13), none⟩,
          ⟨some 70, .bin .add (.t 68) (.t 69), none⟩,
          ⟨some 71, .idxA 1 (.t 66) (.t 70), none⟩,
          ⟨some 72, .ld 1 false (.t 71), none⟩,
          ⟨some 73, .call 26 [(.t 72)], none⟩,
          ⟨some 74, .call 32 [(.t 10), (.t 73)], none⟩] [1, 4, 10, 11, 51, 52, 53, 62]))))
    (.reg [⟨some 75, .bin .add (.t 62) (.k (.sc (.int .i64 1))), none⟩,
       ⟨some 62, .mv (.t 75), none⟩] [1, 4, 10, 11, 51, 52, 53, 62])))
def b12L2 : AC :=
  .seq (.reg [⟨some 54, .bin .lss (.t 53) (.t 52), none⟩] [1, 4, 10, 51, 52, 53, 54])
  (.seq (.cond (.t 54)
     (.skip)
     (.exit 4))
   (.seq (.block 5 (.seq (.reg [⟨some 55, .mv (.t 53), none⟩,
         ⟨some 56, .idxA 1 (.t 51) (.t 53), none⟩,
         ⟨some 57, .ld 1 false (.t 56), none⟩,
         ⟨some 11, .mv (.t 55), none⟩,
         ⟨some 12, .mv (.t 57), none⟩] [1, 4, 10, 11, 12, 51, 52, 53])
      (.seq (.seq (.reg [⟨some 58, .mv (.t 12), none⟩,
           ⟨some 59, .bin .eql (.t 58) (.k (.sc (.int .i64 1))), none⟩] [1, 4, 10, 11, 51, 52, 53, 59])
        (.cond (.t 59)
          (.reg [⟨some 60, .call 31 [(.t 10), (.k (.sc (.int .u8 43)))], none⟩] [1, 4, 10, 11, 51, 52, 53])
          (.reg [⟨some 61, .call 31 [(.t 10), (.k (.sc (.int .u8 45)))], none⟩] [1, 4, 10, 11, 51, 52, 53])))
       (.seq (.seq (.reg [⟨some 62, .mv (.k (.sc (.int .i64 0))), none⟩] [1, 4, 10, 11, 51, 52, 53, 62])
         (.block 6 (.loop [1, 4, 10, 11, 51, 52, 53, 62] b12L3)))
        (.reg [⟨some 76, .call 31 [(.t 10), (.k (.sc (.int .u8 10)))], none⟩] [1, 4, 10, 51, 52, 53])))))
    (.reg [⟨some 77, .bin .add (.t 53) (.k (.sc (.int .i64 1))), none⟩,
       ⟨some 53, .mv (.t 77), none⟩] [1, 4, 10, 51, 52, 53])))
/-- unravel/planar.Format -/
def b12 : AC :=
  .seq (.reg [⟨some 1, .box (.t 0), none⟩,
     ⟨some 2, .mv (.k (.sc (.str ⟨#[]⟩))), none⟩,
     ⟨some 3, .mv (.k (.sc (.int .i64 0))), none⟩] [1])
  (.seq (.seq (.reg [⟨some 14, .ld 3 true (.t 1), none⟩,
       ⟨some 15, .call 20 [(.t 14)], none⟩,
       ⟨some 16, .un .not (.t 15), none⟩] [1, 16])
    (.cond (.t 16)
      (.seq (.reg [⟨some 2, .mv (.k (.sc (.str ⟨#[]⟩))), none⟩,
          ⟨some 3, .mv (.k (.sc (.int .i64 1))), none⟩] [2, 3])
       (.ret))
      (.skip)))
   (.seq (.reg [⟨some 17, .fldA 1 (.t 1), none⟩,
       ⟨some 18, .ld 1 false (.t 17), none⟩,
       ⟨some 19, .len false (.t 18), none⟩,
       ⟨some 20, .mk 1 8 [.int .i64 0] (.t 19) (.t 19), none⟩,
       ⟨some 4, .mv (.t 20), none⟩] [1, 4])
    (.seq (.reg [⟨some 5, .mv (.k (.sc (.int .i64 1))), none⟩] [1, 4, 5])
     (.seq (.seq (.reg [⟨some 21, .ld 3 true (.t 1), none⟩,
          ⟨some 22, .call 25 [(.t 21)], none⟩,
          ⟨some 23, .len false (.t 22), none⟩,
          ⟨some 24, .mv (.k (.sc (.int .i64 0))), none⟩] [1, 4, 5, 22, 23, 24])
       (.block 0 (.loop [1, 4, 5, 22, 23, 24] b12L0)))
      (.seq (.reg [⟨some 10, .newT 60 [.nilP, .nilS], none⟩] [1, 4, 10])
       (.seq (.seq (.reg [⟨some 50, .fldA 0 (.t 1), none⟩,
            ⟨some 51, .ld 1 false (.t 50), none⟩,
            ⟨some 52, .len false (.t 51), none⟩,
            ⟨some 53, .mv (.k (.sc (.int .i64 0))), none⟩] [1, 4, 10, 51, 52, 53])
         (.block 4 (.loop [1, 4, 10, 51, 52, 53] b12L2)))
        (.seq (.reg [⟨some 78, .call 32 [(.t 10), (.k (.sc (.str ⟨#[108, 111, 111, 112, 115, 32]⟩)))], none⟩] [1, 10])
         (.seq (.reg [⟨some 79, .fldA 2 (.t 1), none⟩,
             ⟨some 80, .ld 1 false (.t 79), none⟩,
             ⟨some 81, .call 26 [(.t 80)], none⟩,
             ⟨some 82, .call 32 [(.t 10), (.t 81)], none⟩] [10])
          (.seq (.reg [⟨some 83, .call 31 [(.t 10), (.k (.sc (.int .u8 10)))], none⟩] [10])
           (.seq (.reg [⟨some 84, .call 33 [(.t 10)], none⟩,
               ⟨some 2, .mv (.t 84), none⟩,
               ⟨some 3, .mv (.k (.sc (.int .i64 0))), none⟩] [2, 3])
            (.ret)))))))))))
def a12 : AFun := ⟨1, b12, [.t 2, .t 3]⟩

def b15L0 : AC :=
  .seq (.reg [⟨some 40, .bin .lss (.t 39) (.t 38), none⟩] [1, 6, 37, 38, 39, 40])
  (.seq (.cond (.t 40)
     (.skip)
     (.exit 0))
   (.seq (.block 1 (.seq (.reg [⟨some 41, .mv (.t 39), none⟩,
         ⟨some 42, .idxA 1 (.t 37) (.t 39), none⟩,
         ⟨some 43, .ld 1 false (.t 42), none⟩,
         ⟨some 7, .mv (.t 41), none⟩,
         ⟨some 8, .mv (.t 43), none⟩] [1, 6, 7, 8, 37, 38, 39])
      (.seq (.reg [⟨some 44, .mv (.t 8), none⟩,
          ⟨some 45, .bin .eql (.t 44) (.k (.sc (.int .i64 1))), none⟩] [1, 6, 7, 37, 38, 39, 45])
       (.cond (.t 45)
         (.regd [(⟨some 46, .mv (.t 6), none⟩, 0, false),
            (⟨some 47, .mv (.t 7), none⟩, 1, false),
            (⟨some 48, .bin .quo (.t 47) (.k (.sc (.int .i64 8))), none⟩, 2, false),
            (⟨some 49, .bin .add (.k (.sc (.int .i64 2))) (.t 48), none⟩, 3, false),
            (⟨some 50, .idxA 1 (.t 46) (.t 49), none⟩, 4, false),
            (⟨some 51, .ld 1 false (.t 50), none⟩, 5, true),
            (⟨some 52, .mv (.t 7), none⟩, 6, false),
            (⟨some 53, .bin .rem (.t 52) (.k (.sc (.int .i64 8))), none⟩, 7, false),
            (⟨some 54, .bin .shl (.k (.sc (.int .u8 1))) (.t 53), none⟩, 8, false),
            (⟨some 55, .bin .or (.t 51) (.t 54), none⟩, 9, false),
            (⟨some 56, .idxA 1 (.t 46) (.t 49), none⟩, 10, false),
            (⟨none, .st 1 (.t 56) (.t 55), none⟩, 11, true)] [1, 6, 37, 38, 39])
         (.skip)))))
    (.reg [⟨some 57, .bin .add (.t 39) (.k (.sc (.int .i64 1))), none⟩,
       ⟨some 39, .mv (.t 57), none⟩] [1, 6, 37, 38, 39])))
def b15L1 : AC :=
  .seq (.reg [⟨some 62, .bin .lss (.t 61) (.t 60), none⟩] [1, 6, 59, 60, 61, 62])
  (.seq (.cond (.t 62)
     (.skip)
     (.exit 2))
   (.seq (.block 3 (.seq (.reg [⟨some 63, .mv (.t 61), none⟩,
         ⟨some 64, .idxA 1 (.t 59) (.t 61), none⟩,
         ⟨some 65, .ld 1 false (.t 64), none⟩,
         ⟨some 9, .mv (.t 63), none⟩,
         ⟨some 10, .mv (.t 65), none⟩] [1, 6, 9, 10, 59, 60, 61])
      (.seq (.reg [⟨some 66, .fldA 0 (.t 1), none⟩,
          ⟨some 67, .ld 1 false (.t 66), none⟩,
          ⟨some 68, .mv (.t 9), none⟩,
          ⟨some 69, .bin .quo (.t 68) (.k (.sc (.int .i64 4))), none⟩,
          ⟨some 70, .idxA 1 (.t 67) (.t 69), none⟩,
          ⟨some 71, .ld 1 false (.t 70), none⟩,
          ⟨some 72, .mv (.t 9), none⟩,
          ⟨some 73, .bin .rem (.t 72) (.k (.sc (.int .i64 4))), none⟩,
          ⟨some 74, .call 39 [(.t 71), (.t 73)], none⟩] [1, 6, 10, 59, 60, 61, 74])
       (.cond (.t 74)
         (.reg [⟨some 75, .mv (.t 6), none⟩,
            ⟨some 76, .mv (.t 10), none⟩,
            ⟨some 77, .conv .u8 (.t 76), none⟩,
            ⟨some 78, .bsl ⟨1, some 5⟩ [.int .u8 0] 1 [(0, .t 77)], none⟩,
            ⟨some 79, .app ⟨1, some 5⟩ 1 [.int .u8 0] (.t 75) (.t 78), none⟩,
            ⟨some 6, .mv (.t 79), none⟩] [1, 6, 59, 60, 61])
         (.skip)))))
    (.reg [⟨some 80, .bin .add (.t 61) (.k (.sc (.int .i64 1))), none⟩,
       ⟨some 61, .mv (.t 80), none⟩] [1, 6, 59, 60, 61])))
/-- unravel/planar.Encode -/
def b15 : AC :=
  .seq (.reg [⟨some 1, .box (.t 0), none⟩,
     ⟨some 2, .mv (.k (.sc .nilS)), none⟩,
     ⟨some 3, .mv (.k (.sc (.int .i64 0))), none⟩] [1])
  (.seq (.seq (.reg [⟨some 11, .ld 3 true (.t 1), none⟩,
       ⟨some 12, .call 20 [(.t 11)], none⟩,
       ⟨some 13, .un .not (.t 12), none⟩] [1, 13])
    (.cond (.t 13)
      (.seq (.reg [⟨some 2, .mv (.k (.sc .nilS)), none⟩,
          ⟨some 3, .mv (.k (.sc (.int .i64 1))), none⟩] [2, 3])
       (.ret))
      (.skip)))
   (.seq (.reg [⟨some 14, .fldA 0 (.t 1), none⟩,
       ⟨some 15, .ld 1 false (.t 14), none⟩,
       ⟨some 16, .len false (.t 15), none⟩,
       ⟨some 4, .mv (.t 16), none⟩] [1, 4])
    (.seq (.reg [⟨some 17, .mv (.t 4), none⟩,
        ⟨some 18, .bin .add (.t 17) (.k (.sc (.int .i64 7))), none⟩,
        ⟨some 19, .bin .quo (.t 18) (.k (.sc (.int .i64 8))), none⟩,
        ⟨some 20, .bin .add (.k (.sc (.int .i64 2))) (.t 19), none⟩,
        ⟨some 5, .mv (.t 20), none⟩] [1, 4, 5])
     (.seq (.reg [⟨some 21, .mv (.t 5), none⟩,
         ⟨some 22, .mv (.t 5), none⟩,
         ⟨some 23, .mv (.t 4), none⟩,
         ⟨some 24, .bin .mul (.k (.sc (.int .i64 2))) (.t 23), none⟩,
         ⟨some 25, .bin .add (.t 22) (.t 24), none⟩,
         ⟨some 26, .mk ⟨1, some 5⟩ 1 [.int .u8 0] (.t 21) (.t 25), none⟩,
         ⟨some 6, .mv (.t 26), none⟩] [1, 4, 6])
      (.seq (.reg [⟨some 27, .mv (.t 6), none⟩,
          ⟨some 28, .mv (.t 4), none⟩,
          ⟨some 29, .conv .u8 (.t 28), none⟩,
          ⟨some 30, .idxA 1 (.t 27) (.k (.sc (.int .i64 0))), none⟩,
          ⟨none, .st 1 (.t 30) (.t 29), none⟩] [1, 6])
       (.seq (.reg [⟨some 31, .mv (.t 6), none⟩,
           ⟨some 32, .fldA 2 (.t 1), none⟩,
           ⟨some 33, .ld 1 false (.t 32), none⟩,
           ⟨some 34, .conv .u8 (.t 33), none⟩,
           ⟨some 35, .idxA 1 (.t 31) (.k (.sc (.int .i64 1))), none⟩,
           ⟨none, .st 1 (.t 35) (.t 34), none⟩] [1, 6])
        (.seq (.seq (.reg [⟨some 36, .fldA 0 (.t 1), none⟩,
             ⟨some 37, .ld 1 false (.t 36), none⟩,
             ⟨some 38, .len false (.t 37), none⟩,
             ⟨some 39, .mv (.k (.sc (.int .i64 0))), none⟩] [1, 6, 37, 38, 39])
          (.block 0 (.loop [1, 6, 37, 38, 39] b15L0)))
         (.seq (.seq (.reg [⟨some 58, .fldA 1 (.t 1), none⟩,
              ⟨some 59, .ld 1 false (.t 58), none⟩,
              ⟨some 60, .len false (.t 59), none⟩,
              ⟨some 61, .mv (.k (.sc (.int .i64 0))), none⟩] [1, 6, 59, 60, 61])
           (.block 2 (.loop [1, 6, 59, 60, 61] b15L1)))
          (.seq (.reg [⟨some 81, .mv (.t 6), none⟩,
              ⟨some 2, .mv (.t 81), none⟩,
              ⟨some 3, .mv (.k (.sc (.int .i64 0))), none⟩] [2, 3])
           (.ret))))))))))
def a15 : AFun := ⟨1, b15, [.t 2, .t 3]⟩

def b20L0 : AC :=
  .seq (.reg [⟨some 35, .bin .lss (.t 34) (.t 33), none⟩] [1, 3, 32, 33, 34, 35])
  (.seq (.cond (.t 35)
     (.skip)
     (.exit 0))
   (.seq (.block 1 (.seq (.reg [⟨some 36, .idxA 1 (.t 32) (.t 34), none⟩,
         ⟨some 37, .ld 1 false (.t 36), none⟩,
         ⟨some 5, .mv (.t 37), none⟩] [1, 3, 5, 32, 33, 34])
      (.seq (.reg [⟨some 38, .mv (.t 5), none⟩,
          ⟨some 39, .bin .neq (.t 38) (.k (.sc (.int .i64 1))), none⟩,
          ⟨some 40, .mv (.t 39), none⟩,
          ⟨some 41, .mv (.t 5), (some (40, true))⟩,
          ⟨some 42, .bin .neq (.t 41) (.k (.sc (.int .i64 (-1)))), (some (40, true))⟩,
          ⟨some 43, .pick (.t 40) (.t 42) (.k (.sc (.bool false))), none⟩] [1, 3, 32, 33, 34, 43])
       (.cond (.t 43)
         (.seq (.reg [⟨some 2, .mv (.k (.sc (.bool false))), none⟩] [2])
          (.ret))
         (.skip)))))
    (.reg [⟨some 44, .bin .add (.t 34) (.k (.sc (.int .i64 1))), none⟩,
       ⟨some 34, .mv (.t 44), none⟩] [1, 3, 32, 33, 34])))
def b20L1 : AC :=
  .seq (.reg [⟨some 49, .bin .lss (.t 48) (.t 47), none⟩] [1, 3, 46, 47, 48, 49])
  (.seq (.cond (.t 49)
     (.skip)
     (.exit 2))
   (.seq (.block 3 (.seq (.reg [⟨some 50, .mv (.t 48), none⟩,
         ⟨some 51, .idxA 1 (.t 46) (.t 48), none⟩,
         ⟨some 52, .ld 1 false (.t 51), none⟩,
         ⟨some 6, .mv (.t 50), none⟩,
         ⟨some 7, .mv (.t 52), none⟩] [1, 3, 6, 7, 46, 47, 48])
      (.seq (.seq (.reg [⟨some 53, .mv (.t 7), none⟩,
           ⟨some 54, .bin .lss (.t 53) (.k (.sc (.int .i64 0))), none⟩,
           ⟨some 55, .mv (.t 54), none⟩,
           ⟨some 56, .mv (.t 7), (some (55, false))⟩,
           ⟨some 57, .mv (.t 3), (some (55, false))⟩,
           ⟨some 58, .bin .mul (.k (.sc (.int .i64 4))) (.t 57), (some (55, false))⟩,
           ⟨some 59, .bin .geq (.t 56) (.t 58), (some (55, false))⟩,
           ⟨some 60, .pick (.t 55) (.k (.sc (.bool true))) (.t 59), none⟩,
           ⟨some 61, .mv (.t 60), none⟩,
           ⟨some 62, .mv (.t 7), (some (61, false))⟩,
           ⟨some 63, .mv (.t 6), (some (61, false))⟩,
           ⟨some 64, .bin .eql (.t 62) (.t 63), (some (61, false))⟩,
           ⟨some 65, .pick (.t 61) (.k (.sc (.bool true))) (.t 64), none⟩,
           ⟨some 66, .mv (.t 65), none⟩,
           ⟨some 67, .fldA 1 (.t 1), (some (66, false))⟩,
           ⟨some 68, .ld 1 false (.t 67), (some (66, false))⟩,
           ⟨some 69, .mv (.t 7), (some (66, false))⟩,
           ⟨some 70, .idxA 1 (.t 68) (.t 69), (some (66, false))⟩,
           ⟨some 71, .ld 1 false (.t 70), (some (66, false))⟩,
           ⟨some 72, .mv (.t 6), (some (66, false))⟩,
           ⟨some 73, .bin .neq (.t 71) (.t 72), (some (66, false))⟩,
           ⟨some 74, .pick (.t 66) (.k (.sc (.bool true))) (.t 73), none⟩] [1, 3, 6, 7, 46, 47, 48, 74])
        (.cond (.t 74)
          (.seq (.reg [⟨some 2, .mv (.k (.sc (.bool false))), none⟩] [2])
           (.ret))
          (.skip)))
       (.seq (.regd [(⟨some 75, .ld 3 true (.t 1), none⟩, 0, false),
           (⟨some 76, .mv (.t 6), none⟩, 1, false),
           (⟨some 77, .call 42 [(.t 75), (.t 76)], none⟩, 2, false),
           (⟨some 78, .ld 3 true (.t 1), none⟩, 3, false),
           (⟨some 79, .mv (.t 7), none⟩, 4, false),
           (⟨some 80, .call 42 [(.t 78), (.t 79)], none⟩, 5, true),
           (⟨some 81, .beq false (.t 77) (.t 80), none⟩, 6, false)] [1, 3, 46, 47, 48, 81])
        (.cond (.t 81)
          (.seq (.reg [⟨some 2, .mv (.k (.sc (.bool false))), none⟩] [2])
           (.ret))
          (.skip))))))
    (.reg [⟨some 82, .bin .add (.t 48) (.k (.sc (.int .i64 1))), none⟩,
       ⟨some 48, .mv (.t 82), none⟩] [1, 3, 46, 47, 48])))
/-- unravel/diagram.Valid -/
def b20 : AC :=
  .seq (.reg [⟨some 1, .box (.t 0), none⟩,
     ⟨some 2, .mv (.k (.sc (.bool false))), none⟩] [1])
  (.seq (.reg [⟨some 8, .fldA 0 (.t 1), none⟩,
      ⟨some 9, .ld 1 false (.t 8), none⟩,
      ⟨some 10, .len false (.t 9), none⟩,
      ⟨some 3, .mv (.t 10), none⟩] [1, 3])
   (.seq (.seq (.reg [⟨some 11, .mv (.t 3), none⟩,
        ⟨some 12, .bin .gtr (.t 11) (.k (.sc (.int .i64 64))), none⟩,
        ⟨some 13, .mv (.t 12), none⟩,
        ⟨some 14, .fldA 1 (.t 1), (some (13, false))⟩,
        ⟨some 15, .ld 1 false (.t 14), (some (13, false))⟩,
        ⟨some 16, .len false (.t 15), (some (13, false))⟩,
        ⟨some 17, .mv (.t 3), (some (13, false))⟩,
        ⟨some 18, .bin .mul (.k (.sc (.int .i64 4))) (.t 17), (some (13, false))⟩,
        ⟨some 19, .bin .neq (.t 16) (.t 18), (some (13, false))⟩,
        ⟨some 20, .pick (.t 13) (.k (.sc (.bool true))) (.t 19), none⟩,
        ⟨some 21, .mv (.t 20), none⟩,
        ⟨some 22, .fldA 2 (.t 1), (some (21, false))⟩,
        ⟨some 23, .ld 1 false (.t 22), (some (21, false))⟩,
        ⟨some 24, .bin .lss (.t 23) (.k (.sc (.int .i64 0))), (some (21, false))⟩,
        ⟨some 25, .pick (.t 21) (.k (.sc (.bool true))) (.t 24), none⟩,
        ⟨some 26, .mv (.t 25), none⟩,
        ⟨some 27, .fldA 2 (.t 1), (some (26, false))⟩,
        ⟨some 28, .ld 1 false (.t 27), (some (26, false))⟩,
        ⟨some 29, .bin .gtr (.t 28) (.k (.sc (.int .i64 64))), (some (26, false))⟩,
        ⟨some 30, .pick (.t 26) (.k (.sc (.bool true))) (.t 29), none⟩] [1, 3, 30])
     (.cond (.t 30)
       (.seq (.reg [⟨some 2, .mv (.k (.sc (.bool false))), none⟩] [2])
        (.ret))
       (.skip)))
    (.seq (.seq (.reg [⟨some 31, .fldA 0 (.t 1), none⟩,
         ⟨some 32, .ld 1 false (.t 31), none⟩,
         ⟨some 33, .len false (.t 32), none⟩,
         ⟨some 34, .mv (.k (.sc (.int .i64 0))), none⟩] [1, 3, 32, 33, 34])
      (.block 0 (.loop [1, 3, 32, 33, 34] b20L0)))
     (.seq (.seq (.reg [⟨some 45, .fldA 1 (.t 1), none⟩,
          ⟨some 46, .ld 1 false (.t 45), none⟩,
          ⟨some 47, .len false (.t 46), none⟩,
          ⟨some 48, .mv (.k (.sc (.int .i64 0))), none⟩] [1, 3, 46, 47, 48])
       (.block 2 (.loop [1, 3, 46, 47, 48] b20L1)))
      (.seq (.reg [⟨some 83, .ld 3 true (.t 1), none⟩,
          ⟨some 84, .call 43 [(.t 83)], none⟩,
          ⟨some 2, .mv (.t 84), none⟩] [2])
       (.ret))))))
def a20 : AFun := ⟨1, b20, [.t 2]⟩

/-- unravel/diagram.Strands -/
def b25 : AC :=
  .seq (.reg [⟨some 1, .box (.t 0), none⟩,
     ⟨some 2, .mv (.k (.sc .nilS)), none⟩] [1])
  (.seq (.seq (.reg [⟨some 4, .ld 3 true (.t 1), none⟩,
       ⟨some 5, .call 20 [(.t 4)], none⟩,
       ⟨some 6, .un .not (.t 5), none⟩] [1, 6])
    (.cond (.t 6)
      (.seq (.reg [⟨some 2, .mv (.k (.sc .nilS)), none⟩] [2])
       (.ret))
      (.skip)))
   (.seq (.reg [⟨some 7, .mkf 50 [(.t 1)], none⟩,
       ⟨some 3, .mv (.t 7), none⟩] [1, 3])
    (.seq (.reg [⟨some 8, .fldA 1 (.t 1), none⟩,
        ⟨some 9, .ld 1 false (.t 8), none⟩,
        ⟨some 10, .len false (.t 9), none⟩,
        ⟨some 11, .mv (.t 3), none⟩,
        ⟨some 12, .mkf 52 [(.t 1)], none⟩,
        ⟨some 13, .call 51 [(.t 10), (.t 11), (.t 12)], none⟩,
        ⟨some 2, .mv (.t 13), none⟩] [2])
     (.ret))))
def a25 : AFun := ⟨1, b25, [.t 2]⟩

/-- unravel/unravellaw03.kink -/
def b30 : AC :=
  .seq (.reg [⟨some 0, .new [.nilS, .nilS, .int .i64 0], none⟩] [0])
  (.seq (.reg [⟨some 1, .bsl 1 [.int .i64 0] 1 [(0, .k (.sc (.int .i64 1)))], none⟩,
      ⟨some 2, .bsl 1 [.int .i64 0] 4 [(0, .k (.sc (.int .i64 1))), (1, .k (.sc (.int .i64 0))), (2, .k (.sc (.int .i64 3))), (3, .k (.sc (.int .i64 2)))], none⟩,
      ⟨some 3, .bld [.nilS, .nilS, .int .i64 0] [(0, 1, .t 1), (1, 1, .t 2)], none⟩,
      ⟨none, .st 3 (.t 0) (.t 3), none⟩] [0])
   (.ret))
def a30 : AFun := ⟨0, b30, [.cell 0 3 true]⟩

/-- (*strings.Builder).WriteByte -/
def b31 : AC :=
  .seq (.reg [⟨some 4, .mv (.k (.sc .nilI)), none⟩] [0, 1])
  (.seq (.reg [⟨some 5, .mv (.t 0), none⟩,
      ⟨some 6, .call 59 [(.t 5)], none⟩] [0, 1])
   (.seq (.reg [⟨some 7, .mv (.t 0), none⟩,
       ⟨some 8, .mv (.t 0), none⟩,
       ⟨some 9, .nilc (.t 8), none⟩,
       ⟨some 10, .fldA 1 (.t 9), none⟩,
       ⟨some 11, .ld 1 false (.t 10), none⟩,
       ⟨some 12, .mv (.t 1), none⟩,
       ⟨some 13, .bsl ⟨1, some 5⟩ [.int .u8 0] 1 [(0, .t 12)], none⟩,
       ⟨some 14, .app ⟨1, some 5⟩ 1 [.int .u8 0] (.t 11) (.t 13), none⟩,
       ⟨some 15, .nilc (.t 7), none⟩,
       ⟨some 16, .fldA 1 (.t 15), none⟩,
       ⟨none, .st 1 (.t 16) (.t 14), none⟩] [])
    (.seq (.reg [⟨some 4, .mv (.k (.sc .nilI)), none⟩] [4])
     (.ret))))
def a31 : AFun := ⟨2, b31, [.t 4]⟩

/-- (*strings.Builder).WriteString -/
def b32 : AC :=
  .seq (.reg [⟨some 4, .mv (.k (.sc (.int .i64 0))), none⟩,
     ⟨some 5, .mv (.k (.sc .nilI)), none⟩] [0, 1])
  (.seq (.reg [⟨some 6, .mv (.t 0), none⟩,
      ⟨some 7, .call 59 [(.t 6)], none⟩] [0, 1])
   (.seq (.reg [⟨some 8, .mv (.t 0), none⟩,
       ⟨some 9, .mv (.t 0), none⟩,
       ⟨some 10, .nilc (.t 9), none⟩,
       ⟨some 11, .fldA 1 (.t 10), none⟩,
       ⟨some 12, .ld 1 false (.t 11), none⟩,
       ⟨some 13, .mv (.t 1), none⟩,
       ⟨some 14, .app ⟨1, some 5⟩ 1 [.int .u8 0] (.t 12) (.t 13), none⟩,
       ⟨some 15, .nilc (.t 8), none⟩,
       ⟨some 16, .fldA 1 (.t 15), none⟩,
       ⟨none, .st 1 (.t 16) (.t 14), none⟩] [1])
    (.seq (.reg [⟨some 17, .mv (.t 1), none⟩,
        ⟨some 18, .len true (.t 17), none⟩,
        ⟨some 4, .mv (.t 18), none⟩,
        ⟨some 5, .mv (.k (.sc .nilI)), none⟩] [4, 5])
     (.ret))))
def a32 : AFun := ⟨2, b32, [.t 4, .t 5]⟩

/-- (*strings.Builder).String -/
def b33 : AC :=
  .seq (.reg [⟨some 2, .mv (.k (.sc (.str ⟨#[]⟩))), none⟩] [0])
  (.seq (.regd [(⟨some 3, .mv (.t 0), none⟩, 0, false),
      (⟨some 4, .nilc (.t 3), none⟩, 1, false),
      (⟨some 5, .fldA 1 (.t 4), none⟩, 2, false),
      (⟨some 6, .ld 1 false (.t 5), none⟩, 3, false),
      (⟨some 7, .usd (.t 6), none⟩, 4, false),
      (⟨some 8, .mv (.t 0), none⟩, 5, false),
      (⟨some 9, .nilc (.t 8), none⟩, 6, false),
      (⟨some 10, .fldA 1 (.t 9), none⟩, 7, false),
      (⟨some 11, .ld 1 false (.t 10), none⟩, 8, false),
      (⟨some 12, .len false (.t 11), none⟩, 9, false),
      (⟨some 13, .ustr 5 (.t 7) (.t 12), none⟩, 10, true),
      (⟨some 2, .mv (.t 13), none⟩, 11, false)] [2])
   (.ret))
def a33 : AFun := ⟨1, b33, [.t 2]⟩

/-- unravel/planar.outgoing -/
def b39 : AC :=
  .seq (.reg [⟨some 4, .mv (.k (.sc (.bool false))), none⟩] [0, 1])
  (.seq (.reg [⟨some 5, .mv (.t 1), none⟩,
      ⟨some 6, .bin .eql (.t 5) (.k (.sc (.int .i64 2))), none⟩,
      ⟨some 7, .mv (.t 6), none⟩,
      ⟨some 8, .mv (.t 1), (some (7, false))⟩,
      ⟨some 9, .bin .eql (.t 8) (.k (.sc (.int .i64 1))), (some (7, false))⟩,
      ⟨some 10, .mv (.t 9), (some (7, false))⟩,
      ⟨some 11, .mv (.t 0), (some (10, true))⟩,
      ⟨some 12, .bin .eql (.t 11) (.k (.sc (.int .i64 1))), (some (10, true))⟩,
      ⟨some 13, .pick (.t 10) (.t 12) (.k (.sc (.bool false))), (some (7, false))⟩,
      ⟨some 14, .pick (.t 7) (.k (.sc (.bool true))) (.t 13), none⟩,
      ⟨some 15, .mv (.t 14), none⟩,
      ⟨some 16, .mv (.t 1), (some (15, false))⟩,
      ⟨some 17, .bin .eql (.t 16) (.k (.sc (.int .i64 3))), (some (15, false))⟩,
      ⟨some 18, .mv (.t 17), (some (15, false))⟩,
      ⟨some 19, .mv (.t 0), (some (18, true))⟩,
      ⟨some 20, .bin .eql (.t 19) (.k (.sc (.int .i64 (-1)))), (some (18, true))⟩,
      ⟨some 21, .pick (.t 18) (.t 20) (.k (.sc (.bool false))), (some (15, false))⟩,
      ⟨some 22, .pick (.t 15) (.k (.sc (.bool true))) (.t 21), none⟩,
      ⟨some 4, .mv (.t 22), none⟩] [4])
   (.ret))
def a39 : AFun := ⟨2, b39, [.t 4]⟩

/-- unravel/diagram.outgoing -/
def b42 : AC :=
  .seq (.reg [⟨some 2, .box (.t 0), none⟩,
     ⟨some 4, .mv (.k (.sc (.bool false))), none⟩] [1, 2])
  (.seq (.seq (.reg [⟨some 5, .mv (.t 1), none⟩,
       ⟨some 6, .bin .rem (.t 5) (.k (.sc (.int .i64 4))), none⟩] [1, 2, 6])
    (.block 0 (.seq (.reg [⟨some 8, .bin .eql (.t 6) (.k (.sc (.int .i64 1))), none⟩,
         ⟨some 7, .mv (.t 8), none⟩] [1, 2, 6, 7])
      (.cond (.t 7)
        (.seq (.reg [⟨some 9, .fldA 0 (.t 2), none⟩,
            ⟨some 10, .ld 1 false (.t 9), none⟩,
            ⟨some 11, .mv (.t 1), none⟩,
            ⟨some 12, .bin .quo (.t 11) (.k (.sc (.int .i64 4))), none⟩,
            ⟨some 13, .idxA 1 (.t 10) (.t 12), none⟩,
            ⟨some 14, .ld 1 false (.t 13), none⟩,
            ⟨some 15, .bin .eql (.t 14) (.k (.sc (.int .i64 1))), none⟩,
            ⟨some 4, .mv (.t 15), none⟩] [4])
         (.ret))
        (.seq (.reg [⟨some 17, .bin .eql (.t 6) (.k (.sc (.int .i64 2))), none⟩,
            ⟨some 16, .mv (.t 17), none⟩] [1, 2, 6, 16])
         (.cond (.t 16)
           (.seq (.reg [⟨some 4, .mv (.k (.sc (.bool true))), none⟩] [4])
            (.ret))
           (.seq (.reg [⟨some 19, .bin .eql (.t 6) (.k (.sc (.int .i64 3))), none⟩,
               ⟨some 18, .mv (.t 19), none⟩] [1, 2, 18])
            (.cond (.t 18)
              (.seq (.reg [⟨some 20, .fldA 0 (.t 2), none⟩,
                  ⟨some 21, .ld 1 false (.t 20), none⟩,
                  ⟨some 22, .mv (.t 1), none⟩,
                  ⟨some 23, .bin .quo (.t 22) (.k (.sc (.int .i64 4))), none⟩,
                  ⟨some 24, .idxA 1 (.t 21) (.t 23), none⟩,
                  ⟨some 25, .ld 1 false (.t 24), none⟩,
                  ⟨some 26, .bin .eql (.t 25) (.k (.sc (.int .i64 (-1)))), none⟩,
                  ⟨some 4, .mv (.t 26), none⟩] [4])
               (.ret))
              (.skip)))))))))
   (.seq (.reg [⟨some 4, .mv (.k (.sc (.bool false))), none⟩] [4])
    (.ret)))
def a42 : AFun := ⟨2, b42, [.t 4]⟩

def b43L0 : AC :=
  .seq (.reg [⟨some 23, .bin .lss (.t 22) (.t 21), none⟩] [1, 3, 5, 20, 21, 22, 23])
  (.seq (.cond (.t 23)
     (.skip)
     (.exit 0))
   (.seq (.block 1 (.seq (.reg [⟨some 24, .idxA 1 (.t 20) (.t 22), none⟩,
         ⟨some 25, .ld 1 false (.t 24), none⟩,
         ⟨some 7, .mv (.t 25), none⟩] [1, 3, 5, 7, 20, 21, 22])
      (.reg [⟨some 26, .mv (.t 5), none⟩,
         ⟨some 27, .mv (.t 7), none⟩,
         ⟨some 28, .idxA 1 (.t 26) (.t 27), none⟩,
         ⟨some 29, .ld 1 false (.t 28), none⟩,
         ⟨some 30, .bin .sub (.t 29) (.k (.sc (.int .i64 1))), none⟩,
         ⟨some 31, .idxA 1 (.t 26) (.t 27), none⟩,
         ⟨none, .st 1 (.t 31) (.t 30), none⟩] [1, 3, 5, 20, 21, 22])))
    (.reg [⟨some 32, .bin .add (.t 22) (.k (.sc (.int .i64 1))), none⟩,
       ⟨some 22, .mv (.t 32), none⟩] [1, 3, 5, 20, 21, 22])))
def b43L2 : AC :=
  .seq (.seq (.reg [⟨some 58, .mv (.t 8), none⟩,
      ⟨some 59, .mv (.t 10), none⟩,
      ⟨some 60, .idxA 1 (.t 58) (.t 59), none⟩,
      ⟨some 61, .ld 1 false (.t 60), none⟩,
      ⟨some 62, .un .not (.t 61), none⟩] [1, 3, 5, 8, 10, 39, 40, 62])
   (.cond (.t 62)
     (.skip)
     (.exit 4)))
  (.seq (.block 5 (.reg [⟨some 69, .mv (.t 8), none⟩,
       ⟨some 70, .mv (.t 10), none⟩,
       ⟨some 71, .idxA 1 (.t 69) (.t 70), none⟩,
       ⟨none, .st 1 (.t 71) (.k (.sc (.bool true))), none⟩] [1, 3, 5, 8, 10, 39, 40]))
   (.reg [⟨some 63, .fldA 1 (.t 1), none⟩,
      ⟨some 64, .ld 1 false (.t 63), none⟩,
      ⟨some 65, .mv (.t 10), none⟩,
      ⟨some 66, .idxA 1 (.t 64) (.t 65), none⟩,
      ⟨some 67, .ld 1 false (.t 66), none⟩,
      ⟨some 68, .call 63 [(.t 67), (.k (.sc (.int .i64 (-1))))], none⟩,
      ⟨some 10, .mv (.t 68), none⟩] [1, 3, 5, 8, 10, 39, 40]))
def b43L1 : AC :=
  .seq (.reg [⟨some 41, .bin .lss (.t 40) (.t 39), none⟩] [1, 3, 5, 8, 39, 40, 41])
  (.seq (.cond (.t 41)
     (.skip)
     (.exit 2))
   (.seq (.block 3 (.seq (.reg [⟨some 42, .mv (.t 40), none⟩,
         ⟨some 9, .mv (.t 42), none⟩] [1, 3, 5, 8, 9, 39, 40])
      (.seq (.seq (.reg [⟨some 43, .mv (.t 8), none⟩,
           ⟨some 44, .mv (.t 9), none⟩,
           ⟨some 45, .idxA 1 (.t 43) (.t 44), none⟩,
           ⟨some 46, .ld 1 false (.t 45), none⟩] [1, 3, 5, 8, 9, 39, 40, 46])
        (.cond (.t 46)
          (.exit 3)
          (.skip)))
       (.seq (.reg [⟨some 47, .mv (.t 5), none⟩,
           ⟨some 48, .mv (.t 3), none⟩,
           ⟨some 49, .mv (.t 9), none⟩,
           ⟨some 50, .bin .quo (.t 49) (.k (.sc (.int .i64 4))), none⟩,
           ⟨some 51, .idxA 1 (.t 48) (.t 50), none⟩,
           ⟨some 52, .ld 1 false (.t 51), none⟩,
           ⟨some 53, .idxA 1 (.t 47) (.t 52), none⟩,
           ⟨some 54, .ld 1 false (.t 53), none⟩,
           ⟨some 55, .bin .add (.t 54) (.k (.sc (.int .i64 1))), none⟩,
           ⟨some 56, .idxA 1 (.t 47) (.t 52), none⟩,
           ⟨none, .st 1 (.t 56) (.t 55), none⟩] [1, 3, 5, 8, 9, 39, 40])
        (.seq (.reg [⟨some 57, .mv (.t 9), none⟩,
            ⟨some 10, .mv (.t 57), none⟩] [1, 3, 5, 8, 10, 39, 40])
         (.block 4 (.loop [1, 3, 5, 8, 10, 39, 40] b43L2)))))))
    (.reg [⟨some 72, .bin .add (.t 40) (.k (.sc (.int .i64 1))), none⟩,
       ⟨some 40, .mv (.t 72), none⟩] [1, 3, 5, 8, 39, 40])))
def b43L3 : AC :=
  .seq (.reg [⟨some 76, .bin .lss (.t 75) (.t 74), none⟩] [73, 74, 75, 76])
  (.seq (.cond (.t 76)
     (.skip)
     (.exit 6))
   (.seq (.block 7 (.seq (.reg [⟨some 77, .idxA 1 (.t 73) (.t 75), none⟩,
         ⟨some 78, .ld 1 false (.t 77), none⟩,
         ⟨some 12, .mv (.t 78), none⟩] [12, 73, 74, 75])
      (.seq (.reg [⟨some 79, .mv (.t 12), none⟩,
          ⟨some 80, .bin .neq (.t 79) (.k (.sc (.int .i64 2))), none⟩] [73, 74, 75, 80])
       (.cond (.t 80)
         (.seq (.reg [⟨some 2, .mv (.k (.sc (.bool false))), none⟩] [2])
          (.ret))
         (.skip)))))
    (.reg [⟨some 81, .bin .add (.t 75) (.k (.sc (.int .i64 1))), none⟩,
       ⟨some 75, .mv (.t 81), none⟩] [73, 74, 75])))
/-- unravel/diagram.spherical -/
def b43 : AC :=
  .seq (.reg [⟨some 1, .box (.t 0), none⟩,
     ⟨some 2, .mv (.k (.sc (.bool false))), none⟩] [1])
  (.seq (.reg [⟨some 14, .ld 3 true (.t 1), none⟩,
      ⟨some 15, .call 62 [(.t 14)], none⟩,
      ⟨some 13, .mv (.t 15), none⟩,
      ⟨some 16, .ext (.t 13) 0, none⟩,
      ⟨some 17, .ext (.t 13) 1, none⟩,
      ⟨some 3, .mv (.t 16), none⟩,
      ⟨some 4, .mv (.t 17), none⟩] [1, 3, 4])
   (.seq (.reg [⟨some 18, .mv (.t 4), none⟩,
       ⟨some 19, .mk 1 8 [.int .i64 0] (.t 18) (.t 18), none⟩,
       ⟨some 5, .mv (.t 19), none⟩] [1, 3, 5])
    (.seq (.seq (.reg [⟨some 20, .mv (.t 3), none⟩,
         ⟨some 21, .len false (.t 20), none⟩,
         ⟨some 22, .mv (.k (.sc (.int .i64 0))), none⟩] [1, 3, 5, 20, 21, 22])
      (.block 0 (.loop [1, 3, 5, 20, 21, 22] b43L0)))
     (.seq (.reg [⟨some 33, .fldA 1 (.t 1), none⟩,
         ⟨some 34, .ld 1 false (.t 33), none⟩,
         ⟨some 35, .len false (.t 34), none⟩,
         ⟨some 36, .mk 1 1 [.bool false] (.t 35) (.t 35), none⟩,
         ⟨some 8, .mv (.t 36), none⟩] [1, 3, 5, 8])
      (.seq (.seq (.reg [⟨some 37, .fldA 1 (.t 1), none⟩,
           ⟨some 38, .ld 1 false (.t 37), none⟩,
           ⟨some 39, .len false (.t 38), none⟩,
           ⟨some 40, .mv (.k (.sc (.int .i64 0))), none⟩] [1, 3, 5, 8, 39, 40])
        (.block 2 (.loop [1, 3, 5, 8, 39, 40] b43L1)))
       (.seq (.seq (.reg [⟨some 73, .mv (.t 5), none⟩,
            ⟨some 74, .len false (.t 73), none⟩,
            ⟨some 75, .mv (.k (.sc (.int .i64 0))), none⟩] [73, 74, 75])
         (.block 6 (.loop [73, 74, 75] b43L3)))
        (.seq (.reg [⟨some 2, .mv (.k (.sc (.bool true))), none⟩] [2])
         (.ret))))))))
def a43 : AFun := ⟨1, b43, [.t 2]⟩

/-- unravel/diagram.Strands$1 -/
def b50 : AC :=
  .seq (.reg [⟨some 3, .mv (.k (.sc (.bool false))), none⟩] [0, 1])
  (.seq (.reg [⟨some 4, .ld 3 true (.t 1), none⟩,
      ⟨some 5, .mv (.t 0), none⟩,
      ⟨some 6, .call 42 [(.t 4), (.t 5)], none⟩,
      ⟨some 3, .mv (.t 6), none⟩] [3])
   (.ret))
def a50 : AFun := ⟨2, b50, [.t 3]⟩

def b51L1 : AC :=
  .seq (.reg [⟨some 35, .bin .lss (.t 34) (.t 33), none⟩] [1, 2, 7, 8, 10, 15, 16, 32, 33, 34, 35])
  (.seq (.cond (.t 35)
     (.skip)
     (.exit 2))
   (.seq (.block 3 (.seq (.reg [⟨some 36, .idxA 1 (.t 32) (.t 34), none⟩,
         ⟨some 37, .ld 1 false (.t 36), none⟩,
         ⟨some 12, .mv (.t 37), none⟩] [1, 2, 7, 8, 10, 12, 15, 16, 32, 33, 34])
      (.reg [⟨some 38, .mv (.t 8), none⟩,
         ⟨some 39, .mv (.t 12), none⟩,
         ⟨some 40, .idxA 1 (.t 38) (.t 39), none⟩,
         ⟨none, .st 1 (.t 40) (.k (.sc (.bool true))), none⟩] [1, 2, 7, 8, 10, 15, 16, 32, 33, 34])))
    (.reg [⟨some 41, .bin .add (.t 34) (.k (.sc (.int .i64 1))), none⟩,
       ⟨some 34, .mv (.t 41), none⟩] [1, 2, 7, 8, 10, 15, 16, 32, 33, 34])))
def b51L0 : AC :=
  .seq (.reg [⟨some 17, .bin .lss (.t 16) (.t 15), none⟩] [1, 2, 7, 8, 15, 16, 17])
  (.seq (.cond (.t 17)
     (.skip)
     (.exit 0))
   (.seq (.block 1 (.seq (.reg [⟨some 18, .mv (.t 16), none⟩,
         ⟨some 9, .mv (.t 18), none⟩] [1, 2, 7, 8, 9, 15, 16])
      (.seq (.seq (.reg [⟨some 19, .mv (.t 8), none⟩,
           ⟨some 20, .mv (.t 9), none⟩,
           ⟨some 21, .idxA 1 (.t 19) (.t 20), none⟩,
           ⟨some 22, .ld 1 false (.t 21), none⟩,
           ⟨some 23, .mv (.t 22), none⟩,
           ⟨some 24, .mv (.t 1), (some (23, false))⟩,
           ⟨some 25, .mv (.t 9), (some (23, false))⟩,
           ⟨some 26, .callv (.t 24) [(.t 25)], (some (23, false))⟩,
           ⟨some 27, .un .not (.t 26), (some (23, false))⟩,
           ⟨some 28, .pick (.t 23) (.k (.sc (.bool true))) (.t 27), none⟩] [1, 2, 7, 8, 9, 15, 16, 28])
        (.cond (.t 28)
          (.exit 1)
          (.skip)))
       (.seq (.reg [⟨some 29, .mv (.t 9), none⟩,
           ⟨some 30, .mv (.t 2), none⟩,
           ⟨some 31, .call 71 [(.t 29), (.t 30)], none⟩,
           ⟨some 10, .mv (.t 31), none⟩] [1, 2, 7, 8, 10, 15, 16])
        (.seq (.seq (.reg [⟨some 32, .mv (.t 10), none⟩,
             ⟨some 33, .len false (.t 32), none⟩,
             ⟨some 34, .mv (.k (.sc (.int .i64 0))), none⟩] [1, 2, 7, 8, 10, 15, 16, 32, 33, 34])
          (.block 2 (.loop [1, 2, 7, 8, 10, 15, 16, 32, 33, 34] b51L1)))
         (.reg [⟨some 42, .mv (.t 7), none⟩,
            ⟨some 43, .mv (.t 10), none⟩,
            ⟨some 44, .bsl 1 [.nilS] 1 [(0, .t 43)], none⟩,
            ⟨some 45, .app 1 24 [.nilS] (.t 42) (.t 44), none⟩,
            ⟨some 7, .mv (.t 45), none⟩] [1, 2, 7, 8, 15, 16]))))))
    (.reg [⟨some 46, .bin .add (.t 16) (.k (.sc (.int .i64 1))), none⟩,
       ⟨some 16, .mv (.t 46), none⟩] [1, 2, 7, 8, 15, 16])))
/-- unravel/diagram.cycles -/
def b51 : AC :=
  .seq (.reg [⟨some 6, .mv (.k (.sc .nilS)), none⟩] [0, 1, 2])
  (.seq (.reg [⟨some 7, .mv (.k (.sc .nilS)), none⟩] [0, 1, 2, 7])
   (.seq (.reg [⟨some 13, .mv (.t 0), none⟩,
       ⟨some 14, .mk 1 1 [.bool false] (.t 13) (.t 13), none⟩,
       ⟨some 8, .mv (.t 14), none⟩] [0, 1, 2, 7, 8])
    (.seq (.seq (.reg [⟨some 15, .mv (.t 0), none⟩,
         ⟨some 16, .mv (.k (.sc (.int .i64 0))), none⟩] [1, 2, 7, 8, 15, 16])
      (.block 0 (.loop [1, 2, 7, 8, 15, 16] b51L0)))
     (.seq (.reg [⟨some 47, .mv (.t 7), none⟩,
         ⟨some 6, .mv (.t 47), none⟩] [6])
      (.ret)))))
def a51 : AFun := ⟨3, b51, [.t 6]⟩

/-- unravel/diagram.Strands$2 -/
def b52 : AC :=
  .seq (.reg [⟨some 3, .mv (.k (.sc (.int .i64 0))), none⟩] [0, 1])
  (.seq (.reg [⟨some 4, .fldA 1 (.t 1), none⟩,
      ⟨some 5, .ld 1 false (.t 4), none⟩,
      ⟨some 6, .mv (.t 0), none⟩,
      ⟨some 7, .idxA 1 (.t 5) (.t 6), none⟩,
      ⟨some 8, .ld 1 false (.t 7), none⟩,
      ⟨some 9, .call 53 [(.t 8)], none⟩,
      ⟨some 3, .mv (.t 9), none⟩] [3])
   (.ret))
def a52 : AFun := ⟨2, b52, [.t 3]⟩

/-- unravel/diagram.Opposite -/
def b53 : AC :=
  .seq (.reg [⟨some 2, .mv (.k (.sc (.int .i64 0))), none⟩] [0])
  (.seq (.reg [⟨some 3, .mv (.t 0), none⟩,
      ⟨some 4, .call 63 [(.t 3), (.k (.sc (.int .i64 2)))], none⟩,
      ⟨some 2, .mv (.t 4), none⟩] [2])
   (.ret))
def a53 : AFun := ⟨1, b53, [.t 2]⟩

def b62L0 : AC :=
  .seq (.reg [⟨some 19, .bin .lss (.t 18) (.t 17), none⟩] [1, 4, 17, 18, 19])
  (.seq (.cond (.t 19)
     (.skip)
     (.exit 0))
   (.seq (.block 1 (.seq (.reg [⟨some 20, .mv (.t 18), none⟩,
         ⟨some 5, .mv (.t 20), none⟩] [1, 4, 5, 17, 18])
      (.reg [⟨some 21, .mv (.t 4), none⟩,
         ⟨some 22, .mv (.t 5), none⟩,
         ⟨some 23, .idxA 1 (.t 21) (.t 22), none⟩,
         ⟨none, .st 1 (.t 23) (.k (.sc (.int .i64 (-1)))), none⟩] [1, 4, 17, 18])))
    (.reg [⟨some 24, .bin .add (.t 18) (.k (.sc (.int .i64 1))), none⟩,
       ⟨some 18, .mv (.t 24), none⟩] [1, 4, 17, 18])))
def b62L3 : AC :=
  .seq (.reg [⟨some 50, .bin .lss (.t 49) (.k (.sc (.int .i64 4))), none⟩] [1, 4, 6, 8, 9, 26, 27, 49, 50])
  (.seq (.cond (.t 50)
     (.skip)
     (.exit 6))
   (.seq (.block 7 (.seq (.reg [⟨some 51, .mv (.t 49), none⟩,
         ⟨some 10, .mv (.t 51), none⟩] [1, 4, 6, 8, 9, 10, 26, 27, 49])
      (.seq (.reg [⟨some 52, .fldA 1 (.t 1), none⟩,
          ⟨some 53, .ld 1 false (.t 52), none⟩,
          ⟨some 54, .mv (.t 9), none⟩,
          ⟨some 55, .bin .mul (.k (.sc (.int .i64 4))) (.t 54), none⟩,
          ⟨some 56, .mv (.t 10), none⟩,
          ⟨some 57, .bin .add (.t 55) (.t 56), none⟩,
          ⟨some 58, .idxA 1 (.t 53) (.t 57), none⟩,
          ⟨some 59, .ld 1 false (.t 58), none⟩,
          ⟨some 60, .bin .quo (.t 59) (.k (.sc (.int .i64 4))), none⟩,
          ⟨some 11, .mv (.t 60), none⟩] [1, 4, 6, 8, 9, 11, 26, 27, 49])
       (.seq (.reg [⟨some 61, .mv (.t 4), none⟩,
           ⟨some 62, .mv (.t 11), none⟩,
           ⟨some 63, .idxA 1 (.t 61) (.t 62), none⟩,
           ⟨some 64, .ld 1 false (.t 63), none⟩,
           ⟨some 65, .bin .lss (.t 64) (.k (.sc (.int .i64 0))), none⟩] [1, 4, 6, 8, 9, 11, 26, 27, 49, 65])
        (.cond (.t 65)
          (.seq (.reg [⟨some 66, .mv (.t 4), none⟩,
              ⟨some 67, .mv (.t 11), none⟩,
              ⟨some 68, .mv (.t 6), none⟩,
              ⟨some 69, .idxA 1 (.t 66) (.t 67), none⟩,
              ⟨none, .st 1 (.t 69) (.t 68), none⟩] [1, 4, 6, 8, 9, 11, 26, 27, 49])
           (.reg [⟨some 70, .mv (.t 8), none⟩,
              ⟨some 71, .mv (.t 11), none⟩,
              ⟨some 72, .bsl 1 [.int .i64 0] 1 [(0, .t 71)], none⟩,
              ⟨some 73, .app 1 8 [.int .i64 0] (.t 70) (.t 72), none⟩,
              ⟨some 8, .mv (.t 73), none⟩] [1, 4, 6, 8, 9, 26, 27, 49]))
          (.skip))))))
    (.reg [⟨some 74, .bin .add (.t 49) (.k (.sc (.int .i64 1))), none⟩,
       ⟨some 49, .mv (.t 74), none⟩] [1, 4, 6, 8, 9, 26, 27, 49])))
def b62L2 : AC :=
  .seq (.seq (.reg [⟨some 41, .mv (.t 8), none⟩,
      ⟨some 42, .len false (.t 41), none⟩,
      ⟨some 43, .bin .gtr (.t 42) (.k (.sc (.int .i64 0))), none⟩] [1, 4, 6, 8, 26, 27, 43])
   (.cond (.t 43)
     (.skip)
     (.exit 4)))
  (.block 5 (.seq (.reg [⟨some 44, .mv (.t 8), none⟩,
       ⟨some 45, .idxA 1 (.t 44) (.k (.sc (.int .i64 0))), none⟩,
       ⟨some 46, .ld 1 false (.t 45), none⟩,
       ⟨some 9, .mv (.t 46), none⟩] [1, 4, 6, 8, 9, 26, 27])
    (.seq (.reg [⟨some 47, .mv (.t 8), none⟩,
        ⟨some 48, .sl1 (.t 47) (some (.k (.sc (.int .i64 1)))) none, none⟩,
        ⟨some 8, .mv (.t 48), none⟩] [1, 4, 6, 8, 9, 26, 27])
     (.seq (.reg [⟨some 49, .mv (.k (.sc (.int .i64 0))), none⟩] [1, 4, 6, 8, 9, 26, 27, 49])
      (.block 6 (.loop [1, 4, 6, 8, 9, 26, 27, 49] b62L3))))))
def b62L1 : AC :=
  .seq (.reg [⟨some 28, .bin .lss (.t 27) (.t 26), none⟩] [1, 4, 6, 26, 27, 28])
  (.seq (.cond (.t 28)
     (.skip)
     (.exit 2))
   (.seq (.block 3 (.seq (.reg [⟨some 29, .mv (.t 27), none⟩,
         ⟨some 7, .mv (.t 29), none⟩] [1, 4, 6, 7, 26, 27])
      (.seq (.seq (.reg [⟨some 30, .mv (.t 4), none⟩,
           ⟨some 31, .mv (.t 7), none⟩,
           ⟨some 32, .idxA 1 (.t 30) (.t 31), none⟩,
           ⟨some 33, .ld 1 false (.t 32), none⟩,
           ⟨some 34, .bin .geq (.t 33) (.k (.sc (.int .i64 0))), none⟩] [1, 4, 6, 7, 26, 27, 34])
        (.cond (.t 34)
          (.exit 3)
          (.skip)))
       (.seq (.reg [⟨some 35, .mv (.t 4), none⟩,
           ⟨some 36, .mv (.t 7), none⟩,
           ⟨some 37, .mv (.t 6), none⟩,
           ⟨some 38, .idxA 1 (.t 35) (.t 36), none⟩,
           ⟨none, .st 1 (.t 38) (.t 37), none⟩] [1, 4, 6, 7, 26, 27])
        (.seq (.reg [⟨some 39, .mv (.t 7), none⟩,
            ⟨some 40, .bsl 1 [.int .i64 0] 1 [(0, .t 39)], none⟩,
            ⟨some 8, .mv (.t 40), none⟩] [1, 4, 6, 8, 26, 27])
         (.seq (.block 4 (.loop [1, 4, 6, 8, 26, 27] b62L2))
          (.reg [⟨some 75, .mv (.t 6), none⟩,
             ⟨some 76, .bin .add (.t 75) (.k (.sc (.int .i64 1))), none⟩,
             ⟨some 6, .mv (.t 76), none⟩] [1, 4, 6, 26, 27])))))))
    (.reg [⟨some 77, .bin .add (.t 27) (.k (.sc (.int .i64 1))), none⟩,
       ⟨some 27, .mv (.t 77), none⟩] [1, 4, 6, 26, 27])))
/-- unravel/diagram.label -/
def b62 : AC :=
  .seq (.reg [⟨some 1, .box (.t 0), none⟩,
     ⟨some 2, .mv (.k (.sc .nilS)), none⟩,
     ⟨some 3, .mv (.k (.sc (.int .i64 0))), none⟩] [1])
  (.seq (.reg [⟨some 12, .fldA 0 (.t 1), none⟩,
      ⟨some 13, .ld 1 false (.t 12), none⟩,
      ⟨some 14, .len false (.t 13), none⟩,
      ⟨some 15, .mk 1 8 [.int .i64 0] (.t 14) (.t 14), none⟩,
      ⟨some 4, .mv (.t 15), none⟩] [1, 4])
   (.seq (.seq (.reg [⟨some 16, .mv (.t 4), none⟩,
        ⟨some 17, .len false (.t 16), none⟩,
        ⟨some 18, .mv (.k (.sc (.int .i64 0))), none⟩] [1, 4, 17, 18])
     (.block 0 (.loop [1, 4, 17, 18] b62L0)))
    (.seq (.reg [⟨some 6, .mv (.k (.sc (.int .i64 0))), none⟩] [1, 4, 6])
     (.seq (.seq (.reg [⟨some 25, .mv (.t 4), none⟩,
          ⟨some 26, .len false (.t 25), none⟩,
          ⟨some 27, .mv (.k (.sc (.int .i64 0))), none⟩] [1, 4, 6, 26, 27])
       (.block 2 (.loop [1, 4, 6, 26, 27] b62L1)))
      (.seq (.reg [⟨some 78, .mv (.t 4), none⟩,
          ⟨some 79, .mv (.t 6), none⟩,
          ⟨some 2, .mv (.t 78), none⟩,
          ⟨some 3, .mv (.t 79), none⟩] [2, 3])
       (.ret))))))
def a62 : AFun := ⟨1, b62, [.t 2, .t 3]⟩

/-- unravel/diagram.Turn -/
def b63 : AC :=
  .seq (.reg [⟨some 4, .mv (.k (.sc (.int .i64 0))), none⟩] [0, 1])
  (.seq (.seq (.reg [⟨some 5, .mv (.t 0), none⟩,
       ⟨some 6, .bin .lss (.t 5) (.k (.sc (.int .i64 0))), none⟩] [0, 1, 6])
    (.cond (.t 6)
      (.seq (.reg [⟨some 4, .mv (.k (.sc (.int .i64 (-1)))), none⟩] [4])
       (.ret))
      (.skip)))
   (.seq (.reg [⟨some 7, .mv (.t 0), none⟩,
       ⟨some 8, .mv (.t 0), none⟩,
       ⟨some 9, .bin .rem (.t 8) (.k (.sc (.int .i64 4))), none⟩,
       ⟨some 10, .bin .sub (.t 7) (.t 9), none⟩,
       ⟨some 11, .mv (.t 0), none⟩,
       ⟨some 12, .bin .rem (.t 11) (.k (.sc (.int .i64 4))), none⟩,
       ⟨some 13, .mv (.t 1), none⟩,
       ⟨some 14, .bin .rem (.t 13) (.k (.sc (.int .i64 4))), none⟩,
       ⟨some 15, .bin .add (.t 12) (.t 14), none⟩,
       ⟨some 16, .bin .add (.t 15) (.k (.sc (.int .i64 4))), none⟩,
       ⟨some 17, .bin .rem (.t 16) (.k (.sc (.int .i64 4))), none⟩,
       ⟨some 18, .bin .add (.t 10) (.t 17), none⟩,
       ⟨some 4, .mv (.t 18), none⟩] [4])
    (.ret)))
def a63 : AFun := ⟨2, b63, [.t 4]⟩

def b71L0 : AC :=
  .seq (.seq (.reg [⟨some 12, .mv (.t 6), none⟩,
      ⟨some 13, .mv (.t 0), none⟩,
      ⟨some 14, .bin .neq (.t 12) (.t 13), none⟩] [0, 1, 5, 6, 14])
   (.cond (.t 14)
     (.skip)
     (.exit 0)))
  (.seq (.block 1 (.reg [⟨some 18, .mv (.t 5), none⟩,
       ⟨some 19, .mv (.t 6), none⟩,
       ⟨some 20, .bsl 1 [.int .i64 0] 1 [(0, .t 19)], none⟩,
       ⟨some 21, .app 1 8 [.int .i64 0] (.t 18) (.t 20), none⟩,
       ⟨some 5, .mv (.t 21), none⟩] [0, 1, 5, 6]))
   (.reg [⟨some 15, .mv (.t 1), none⟩,
      ⟨some 16, .mv (.t 6), none⟩,
      ⟨some 17, .callv (.t 15) [(.t 16)], none⟩,
      ⟨some 6, .mv (.t 17), none⟩] [0, 1, 5, 6]))
/-- unravel/diagram.cycle -/
def b71 : AC :=
  .seq (.reg [⟨some 4, .mv (.k (.sc .nilS)), none⟩] [0, 1])
  (.seq (.reg [⟨some 7, .mv (.t 0), none⟩,
      ⟨some 8, .bsl 1 [.int .i64 0] 1 [(0, .t 7)], none⟩,
      ⟨some 5, .mv (.t 8), none⟩] [0, 1, 5])
   (.seq (.seq (.reg [⟨some 9, .mv (.t 1), none⟩,
        ⟨some 10, .mv (.t 0), none⟩,
        ⟨some 11, .callv (.t 9) [(.t 10)], none⟩,
        ⟨some 6, .mv (.t 11), none⟩] [0, 1, 5, 6])
     (.block 0 (.loop [0, 1, 5, 6] b71L0)))
    (.seq (.reg [⟨some 22, .mv (.t 5), none⟩,
        ⟨some 4, .mv (.t 22), none⟩] [4])
     (.ret))))
def a71 : AFun := ⟨2, b71, [.t 4]⟩

def FT : FuncId → Option AFun
  | 8 => some a8
  | 11 => some a11
  | 12 => some a12
  | 15 => some a15
  | 20 => some a20
  | 25 => some a25
  | 30 => some a30
  | 31 => some a31
  | 32 => some a32
  | 33 => some a33
  | 39 => some a39
  | 42 => some a42
  | 43 => some a43
  | 50 => some a50
  | 51 => some a51
  | 52 => some a52
  | 53 => some a53
  | 62 => some a62
  | 63 => some a63
  | 71 => some a71
  | _ => none

theorem ok8 : okFun Tryd.prog a8 Tryd.f8 = true := by kernel_rfl
theorem ok11 : okFun Tryd.prog a11 Tryd.f11 = true := by kernel_rfl
theorem ok12 : okFun Tryd.prog a12 Tryd.f12 = true := by kernel_rfl
theorem ok15 : okFun Tryd.prog a15 Tryd.f15 = true := by kernel_rfl
theorem ok20 : okFun Tryd.prog a20 Tryd.f20 = true := by kernel_rfl
theorem ok25 : okFun Tryd.prog a25 Tryd.f25 = true := by kernel_rfl
theorem ok30 : okFun Tryd.prog a30 Tryd.f30 = true := by kernel_rfl
theorem ok31 : okFun Tryd.prog a31 Tryd.f31 = true := by kernel_rfl
theorem ok32 : okFun Tryd.prog a32 Tryd.f32 = true := by kernel_rfl
theorem ok33 : okFun Tryd.prog a33 Tryd.f33 = true := by kernel_rfl
theorem ok39 : okFun Tryd.prog a39 Tryd.f39 = true := by kernel_rfl
theorem ok42 : okFun Tryd.prog a42 Tryd.f42 = true := by kernel_rfl
theorem ok43 : okFun Tryd.prog a43 Tryd.f43 = true := by kernel_rfl
theorem ok50 : okFun Tryd.prog a50 Tryd.f50 = true := by kernel_rfl
theorem ok51 : okFun Tryd.prog a51 Tryd.f51 = true := by kernel_rfl
theorem ok52 : okFun Tryd.prog a52 Tryd.f52 = true := by kernel_rfl
theorem ok53 : okFun Tryd.prog a53 Tryd.f53 = true := by kernel_rfl
theorem ok62 : okFun Tryd.prog a62 Tryd.f62 = true := by kernel_rfl
theorem ok63 : okFun Tryd.prog a63 Tryd.f63 = true := by kernel_rfl
theorem ok71 : okFun Tryd.prog a71 Tryd.f71 = true := by kernel_rfl
theorem mixed : Tryd.prog.follows .mixedOrders = true := by kernel_rfl
theorem ft_ok : FTok Tryd.prog FT := by
  refine ⟨mixed, fun f F h => ?_⟩
  unfold FT at h
  split at h
  · simp at h; subst h; exact ⟨_, Tryd.func8, ok8⟩
  · simp at h; subst h; exact ⟨_, Tryd.func11, ok11⟩
  · simp at h; subst h; exact ⟨_, Tryd.func12, ok12⟩
  · simp at h; subst h; exact ⟨_, Tryd.func15, ok15⟩
  · simp at h; subst h; exact ⟨_, Tryd.func20, ok20⟩
  · simp at h; subst h; exact ⟨_, Tryd.func25, ok25⟩
  · simp at h; subst h; exact ⟨_, Tryd.func30, ok30⟩
  · simp at h; subst h; exact ⟨_, Tryd.func31, ok31⟩
  · simp at h; subst h; exact ⟨_, Tryd.func32, ok32⟩
  · simp at h; subst h; exact ⟨_, Tryd.func33, ok33⟩
  · simp at h; subst h; exact ⟨_, Tryd.func39, ok39⟩
  · simp at h; subst h; exact ⟨_, Tryd.func42, ok42⟩
  · simp at h; subst h; exact ⟨_, Tryd.func43, ok43⟩
  · simp at h; subst h; exact ⟨_, Tryd.func50, ok50⟩
  · simp at h; subst h; exact ⟨_, Tryd.func51, ok51⟩
  · simp at h; subst h; exact ⟨_, Tryd.func52, ok52⟩
  · simp at h; subst h; exact ⟨_, Tryd.func53, ok53⟩
  · simp at h; subst h; exact ⟨_, Tryd.func62, ok62⟩
  · simp at h; subst h; exact ⟨_, Tryd.func63, ok63⟩
  · simp at h; subst h; exact ⟨_, Tryd.func71, ok71⟩
  · simp at h
end Go.Proofs.YtehnalbdfnmphaaDoor
