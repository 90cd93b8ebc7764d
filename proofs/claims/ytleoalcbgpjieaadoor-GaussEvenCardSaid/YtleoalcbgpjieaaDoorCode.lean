/- The annotated code of this seat, printed by program (mkseat.py). -/
import Derived.Test.YtleoalcbgpjieaaDoorProg
import Derived.KernelRfl
import Derived.Test.YtleoalcbgpjieaaDoorAb17
namespace Go.Proofs.YtleoalcbgpjieaaDoor
open Go.Ab

def b5L1 : AC :=
  .seq (.reg [⟨some 48, .bin .lss (.t 47) (.t 46), none⟩] [1, 3, 5, 6, 38, 39, 40, 45, 46, 47, 48])
  (.seq (.cond (.t 48)
     (.skip)
     (.exit 2))
   (.seq (.block 3 (.seq (.reg [⟨some 49, .mv (.t 47), none⟩,
         ⟨some 50, .idxA 2 (.t 45) (.t 47), none⟩,
         ⟨some 51, .ld 2 true (.t 50), none⟩,
         ⟨some 9, .new [.int .i64 0, .bool false], none⟩,
         ⟨some 8, .mv (.t 49), none⟩,
         ⟨none, .st 2 (.t 9) (.t 51), none⟩] [1, 3, 5, 6, 8, 9, 38, 39, 40, 45, 46, 47])
      (.regs [(⟨some 52, .mv (.t 5), none⟩, 0, false),
         (⟨some 53, .fldA 0 (.t 9), none⟩, 1, false),
         (⟨some 54, .ld 1 false (.t 53), none⟩, 2, false),
         (⟨some 55, .mv (.t 5), none⟩, 3, false),
         (⟨some 56, .fldA 0 (.t 9), none⟩, 4, false),
         (⟨some 57, .ld 1 false (.t 56), none⟩, 5, false),
         (⟨some 58, .mpL ⟨1001001, none⟩ [.nilS] false (.t 55) (.t 57), none⟩, 6, false),
         (⟨some 59, .mv (.t 6), none⟩, 7, false),
         (⟨some 60, .mv (.t 8), none⟩, 8, false),
         (⟨some 61, .bsl 1 [.int .i64 0] 2 [(0, .t 59), (1, .t 60)], none⟩, 9, false),
         (⟨some 62, .app 1 8 [.int .i64 0] (.t 58) (.t 61), none⟩, 10, true),
         (⟨none, .mpU ⟨1001001, none⟩ (.t 52) (.t 54) (.t 62), none⟩, 11, true)] [] [1, 3, 5, 6, 38, 39, 40, 45, 46, 47])))
    (.reg [⟨some 63, .bin .add (.t 47) (.k (.sc (.int .i64 1))), none⟩,
       ⟨some 47, .mv (.t 63), none⟩] [1, 3, 5, 6, 38, 39, 40, 45, 46, 47])))
def b5L0 : AC :=
  .seq (.reg [⟨some 41, .bin .lss (.t 40) (.t 39), none⟩] [1, 3, 5, 38, 39, 40, 41])
  (.seq (.cond (.t 41)
     (.skip)
     (.exit 0))
   (.seq (.block 1 (.seq (.reg [⟨some 42, .mv (.t 40), none⟩,
         ⟨some 43, .idxA 1 (.t 38) (.t 40), none⟩,
         ⟨some 44, .ld 1 false (.t 43), none⟩,
         ⟨some 6, .mv (.t 42), none⟩,
         ⟨some 7, .mv (.t 44), none⟩] [1, 3, 5, 6, 7, 38, 39, 40])
      (.seq (.reg [⟨some 45, .mv (.t 7), none⟩,
          ⟨some 46, .len false (.t 45), none⟩,
          ⟨some 47, .mv (.k (.sc (.int .i64 0))), none⟩] [1, 3, 5, 6, 38, 39, 40, 45, 46, 47])
       (.block 2 (.loop [1, 3, 5, 6, 38, 39, 40, 45, 46, 47] b5L1)))))
    (.reg [⟨some 64, .bin .add (.t 40) (.k (.sc (.int .i64 1))), none⟩,
       ⟨some 40, .mv (.t 64), none⟩] [1, 3, 5, 38, 39, 40])))
def b5L2 : AC :=
  .seq (.reg [⟨some 68, .mpX (.t 67), none⟩,
     ⟨some 69, .ext (.t 68) 0, none⟩] [1, 3, 5, 10, 67, 69])
  (.seq (.cond (.t 69)
     (.skip)
     (.exit 4))
   (.block 5 (.seq (.reg [⟨some 70, .mpT (.t 67), none⟩,
        ⟨some 71, .ext (.t 70) 1, none⟩,
        ⟨some 12, .mv (.t 71), none⟩] [1, 3, 5, 10, 12, 67])
     (.seq (.seq (.reg [⟨some 72, .mv (.t 12), none⟩,
          ⟨some 73, .len false (.t 72), none⟩,
          ⟨some 74, .bin .neq (.t 73) (.k (.sc (.int .i64 4))), none⟩] [1, 3, 5, 10, 12, 67, 74])
       (.cond (.t 74)
         (.seq (.reg [⟨some 2, .mv (.k (.sc (.bool false))), none⟩] [2])
          (.ret))
         (.skip)))
      (.seq (.regd [(⟨some 75, .mv (.t 12), none⟩, 0, false),
          (⟨some 76, .idxA 1 (.t 75) (.k (.sc (.int .i64 0))), none⟩, 1, false),
          (⟨some 77, .ld 1 false (.t 76), none⟩, 2, false),
          (⟨some 78, .mv (.t 12), none⟩, 3, false),
          (⟨some 79, .idxA 1 (.t 78) (.k (.sc (.int .i64 2))), none⟩, 4, false),
          (⟨some 80, .ld 1 false (.t 79), none⟩, 5, false),
          (⟨some 81, .bin .neq (.t 77) (.t 80), none⟩, 6, false)] [1, 3, 5, 10, 12, 67, 81])
       (.cond (.t 81)
         (.regd [(⟨some 82, .mv (.t 10), none⟩, 0, false),
            (⟨some 83, .mv (.t 12), none⟩, 1, false),
            (⟨some 84, .idxA 1 (.t 83) (.k (.sc (.int .i64 0))), none⟩, 2, false),
            (⟨some 85, .ld 1 false (.t 84), none⟩, 3, false),
            (⟨some 86, .mv (.t 12), none⟩, 4, false),
            (⟨some 87, .idxA 1 (.t 86) (.k (.sc (.int .i64 2))), none⟩, 5, false),
            (⟨some 88, .ld 1 false (.t 87), none⟩, 6, false),
            (⟨some 89, .bld [.int .i64 0, .int .i64 0] [(0, 1, .t 85), (1, 1, .t 88)], none⟩, 7, false),
            (⟨some 90, .mpL ⟨1002001, none⟩ [.int .i64 0] false (.t 82) (.t 89), none⟩, 8, false),
            (⟨some 91, .bin .add (.t 90) (.k (.sc (.int .i64 1))), none⟩, 9, false),
            (⟨some 92, .mpE ⟨1002001, none⟩ [.int .i64 0] (.t 82) (.t 89), none⟩, 10, true),
            (⟨some 93, .ext (.t 92) 1, none⟩, 11, false),
            (⟨none, .mpS ⟨1002001, none⟩ (.t 82) (.t 93) (.t 91), none⟩, 12, true)] [1, 3, 5, 10, 67])
         (.seq (.regd [(⟨some 94, .fldA 0 (.t 3), none⟩, 0, false),
             (⟨some 95, .ld 1 false (.t 94), none⟩, 1, true),
             (⟨some 96, .len false (.t 95), none⟩, 2, false),
             (⟨some 97, .bin .eql (.t 96) (.k (.sc (.int .i64 1))), none⟩, 3, false),
             (⟨some 98, .mv (.t 97), none⟩, 4, false),
             (⟨some 99, .mv (.t 12), (some (98, true))⟩, 5, false),
             (⟨some 100, .idxA 1 (.t 99) (.k (.sc (.int .i64 3))), (some (98, true))⟩, 6, false),
             (⟨some 101, .ld 1 false (.t 100), (some (98, true))⟩, 7, false),
             (⟨some 102, .mv (.t 12), (some (98, true))⟩, 8, false),
             (⟨some 103, .idxA 1 (.t 102) (.k (.sc (.int .i64 1))), (some (98, true))⟩, 9, false),
             (⟨some 104, .ld 1 false (.t 103), (some (98, true))⟩, 10, false),
             (⟨some 105, .bin .sub (.t 101) (.t 104), (some (98, true))⟩, 11, false),
             (⟨some 106, .bin .rem (.t 105) (.k (.sc (.int .i64 2))), (some (98, true))⟩, 12, false),
             (⟨some 107, .bin .eql (.t 106) (.k (.sc (.int .i64 0))), (some (98, true))⟩, 13, false),
             (⟨some 108, .pick (.t 98) (.t 107) (.k (.sc (.bool false))), none⟩, 14, false)] [1, 3, 5, 10, 67, 108])
          (.cond (.t 108)
            (.seq (.reg [⟨some 2, .mv (.k (.sc (.bool false))), none⟩] [2])
             (.ret))
            (.skip)))))))))
def b5L3 : AC :=
  .seq (.reg [⟨some 111, .mpX (.t 110), none⟩,
     ⟨some 112, .ext (.t 111) 0, none⟩] [1, 5, 110, 112])
  (.seq (.cond (.t 112)
     (.skip)
     (.exit 6))
   (.block 7 (.seq (.reg [⟨some 113, .mpT (.t 110), none⟩,
        ⟨some 114, .ext (.t 113) 1, none⟩,
        ⟨some 14, .mv (.t 114), none⟩] [1, 5, 14, 110])
     (.seq (.reg [⟨some 115, .mv (.t 14), none⟩,
         ⟨some 116, .bin .rem (.t 115) (.k (.sc (.int .i64 2))), none⟩,
         ⟨some 117, .bin .neq (.t 116) (.k (.sc (.int .i64 0))), none⟩] [1, 5, 110, 117])
      (.cond (.t 117)
        (.seq (.reg [⟨some 2, .mv (.k (.sc (.bool false))), none⟩] [2])
         (.ret))
        (.skip))))))
/-- unravel/unravellaw02.GaussEven -/
def b5 : AC :=
  .seq (.reg [⟨some 1, .box (.t 0), none⟩,
     ⟨some 2, .mv (.k (.sc (.bool false))), none⟩] [1])
  (.seq (.seq (.reg [⟨some 15, .call 9 [], none⟩,
       ⟨some 16, .un .not (.t 15), none⟩,
       ⟨some 17, .mv (.t 16), none⟩,
       ⟨some 18, .fldA 0 (.t 1), (some (17, false))⟩,
       ⟨some 19, .ld 1 false (.t 18), (some (17, false))⟩,
       ⟨some 20, .len false (.t 19), (some (17, false))⟩,
       ⟨some 21, .bin .gtr (.t 20) (.k (.sc (.int .i64 14))), (some (17, false))⟩,
       ⟨some 22, .pick (.t 17) (.k (.sc (.bool true))) (.t 21), none⟩,
       ⟨some 23, .mv (.t 22), none⟩,
       ⟨some 24, .ld 3 true (.t 1), (some (23, false))⟩,
       ⟨some 25, .call 18 [(.t 24)], (some (23, false))⟩,
       ⟨some 26, .un .not (.t 25), (some (23, false))⟩,
       ⟨some 27, .pick (.t 23) (.k (.sc (.bool true))) (.t 26), none⟩] [1, 27])
    (.cond (.t 27)
      (.seq (.reg [⟨some 28, .call 9 [], none⟩,
          ⟨some 2, .mv (.t 28), none⟩] [2])
       (.ret))
      (.skip)))
   (.seq (.reg [⟨some 30, .ld 3 true (.t 1), none⟩,
       ⟨some 31, .call 10 [(.t 30)], none⟩,
       ⟨some 29, .mv (.t 31), none⟩,
       ⟨some 32, .ext (.t 29) 0, none⟩,
       ⟨some 33, .ext (.t 29) 1, none⟩,
       ⟨some 3, .new [.nilS, .nilS, .int .i64 0], none⟩,
       ⟨none, .st 3 (.t 3) (.t 32), none⟩,
       ⟨some 4, .mv (.t 33), none⟩] [1, 3, 4])
    (.seq (.seq (.reg [⟨some 34, .mv (.t 4), none⟩,
         ⟨some 35, .bin .neq (.t 34) (.k (.sc (.int .i64 0))), none⟩] [1, 3, 35])
      (.cond (.t 35)
        (.seq (.reg [⟨some 2, .mv (.k (.sc (.bool false))), none⟩] [2])
         (.ret))
        (.skip)))
     (.seq (.reg [⟨some 36, .mpM ⟨1001001, none⟩, none⟩,
         ⟨some 5, .mv (.t 36), none⟩] [1, 3, 5])
      (.seq (.seq (.reg [⟨some 37, .fldA 0 (.t 3), none⟩,
           ⟨some 38, .ld 1 false (.t 37), none⟩,
           ⟨some 39, .len false (.t 38), none⟩,
           ⟨some 40, .mv (.k (.sc (.int .i64 0))), none⟩] [1, 3, 5, 38, 39, 40])
        (.block 0 (.loop [1, 3, 5, 38, 39, 40] b5L0)))
       (.seq (.reg [⟨some 65, .mpM ⟨1002001, none⟩, none⟩,
           ⟨some 10, .mv (.t 65), none⟩] [1, 3, 5, 10])
        (.seq (.seq (.reg [⟨some 66, .mv (.t 5), none⟩,
             ⟨some 67, .mpR (.t 66), none⟩] [1, 3, 5, 10, 67])
          (.block 4 (.loop [1, 3, 5, 10, 67] b5L2)))
         (.seq (.seq (.reg [⟨some 109, .mv (.t 10), none⟩,
              ⟨some 110, .mpR (.t 109), none⟩] [1, 5, 110])
           (.block 6 (.loop [1, 5, 110] b5L3)))
          (.seq (.reg [⟨some 118, .mv (.t 5), none⟩,
              ⟨some 119, .mpN (.t 118), none⟩,
              ⟨some 120, .fldA 0 (.t 1), none⟩,
              ⟨some 121, .ld 1 false (.t 120), none⟩,
              ⟨some 122, .len false (.t 121), none⟩,
              ⟨some 123, .bin .eql (.t 119) (.t 122), none⟩,
              ⟨some 2, .mv (.t 123), none⟩] [2])
           (.ret))))))))))
def a5 : AFun := ⟨1, b5, [.t 2]⟩

/-- unravel/unravellaw02.awake -/
def b9 : AC :=
  .seq (.reg [⟨some 0, .mv (.k (.sc (.bool false))), none⟩] [])
  (.seq (.reg [⟨some 10, .bsl 1 [.int .i64 0] 3 [(0, .k (.sc (.int .i64 1))), (1, .k (.sc (.int .i64 1))), (2, .k (.sc (.int .i64 1)))], none⟩,
      ⟨some 11, .bsl 1 [.int .i64 0] 12 [(0, .k (.sc (.int .i64 9))), (1, .k (.sc (.int .i64 4))), (2, .k (.sc (.int .i64 7))), (3, .k (.sc (.int .i64 10))), (4, .k (.sc (.int .i64 1))), (5, .k (.sc (.int .i64 8))), (6, .k (.sc (.int .i64 11))), (7, .k (.sc (.int .i64 2))), (8, .k (.sc (.int .i64 5))), (9, .k (.sc (.int .i64 0))), (10, .k (.sc (.int .i64 3))), (11, .k (.sc (.int .i64 6)))], none⟩,
      ⟨some 12, .bld [.nilS, .nilS, .int .i64 0] [(0, 1, .t 10), (1, 1, .t 11)], none⟩,
      ⟨some 1, .new [.nilS, .nilS, .int .i64 0], none⟩,
      ⟨none, .st 3 (.t 1) (.t 12), none⟩] [1])
   (.seq (.reg [⟨some 14, .ld 3 true (.t 1), none⟩,
       ⟨some 15, .call 10 [(.t 14)], none⟩,
       ⟨some 13, .mv (.t 15), none⟩,
       ⟨some 16, .ext (.t 13) 0, none⟩,
       ⟨some 17, .ext (.t 13) 1, none⟩,
       ⟨some 2, .new [.nilS, .nilS, .int .i64 0], none⟩,
       ⟨none, .st 3 (.t 2) (.t 16), none⟩,
       ⟨some 3, .mv (.t 17), none⟩] [2, 3])
    (.seq (.reg [⟨some 19, .ld 3 true (.t 2), none⟩,
        ⟨some 20, .call 27 [(.t 19)], none⟩,
        ⟨some 18, .mv (.t 20), none⟩,
        ⟨some 21, .ext (.t 18) 0, none⟩,
        ⟨some 22, .ext (.t 18) 1, none⟩,
        ⟨some 4, .mv (.t 21), none⟩,
        ⟨some 5, .mv (.t 22), none⟩] [3, 4, 5])
     (.seq (.reg [⟨some 24, .call 28 [(.k (.sc (.str ⟨#[79, 49, 43, 79, 50, 43, 85, 49, 43, 85, 50, 43]⟩)))], none⟩,
         ⟨some 23, .mv (.t 24), none⟩,
         ⟨some 25, .ext (.t 23) 0, none⟩,
         ⟨some 26, .ext (.t 23) 1, none⟩,
         ⟨some 6, .new [.nilS, .nilS, .int .i64 0], none⟩,
         ⟨none, .st 3 (.t 6) (.t 25), none⟩,
         ⟨some 7, .mv (.t 26), none⟩] [3, 4, 5, 6, 7])
      (.seq (.reg [⟨some 28, .ld 3 true (.t 6), none⟩,
          ⟨some 29, .call 17 [(.t 28)], none⟩,
          ⟨some 27, .mv (.t 29), none⟩,
          ⟨some 30, .ext (.t 27) 0, none⟩,
          ⟨some 31, .ext (.t 27) 1, none⟩,
          ⟨some 8, .mv (.t 30), none⟩,
          ⟨some 9, .mv (.t 31), none⟩] [3, 4, 5, 7, 8, 9])
       (.seq (.reg [⟨some 32, .mv (.t 3), none⟩,
           ⟨some 33, .bin .eql (.t 32) (.k (.sc (.int .i64 0))), none⟩,
           ⟨some 34, .mv (.t 33), none⟩,
           ⟨some 35, .mv (.t 5), (some (34, true))⟩,
           ⟨some 36, .bin .eql (.t 35) (.k (.sc (.int .i64 0))), (some (34, true))⟩,
           ⟨some 37, .pick (.t 34) (.t 36) (.k (.sc (.bool false))), none⟩,
           ⟨some 38, .mv (.t 37), none⟩,
           ⟨some 39, .mv (.t 4), (some (38, true))⟩,
           ⟨some 40, .bin .eql (.t 39) (.k (.sc (.str ⟨#[79, 49, 43, 85, 50, 43, 79, 51, 43, 85, 49, 43, 79, 50, 43, 85, 51, 43]⟩))), (some (38, true))⟩,
           ⟨some 41, .pick (.t 38) (.t 40) (.k (.sc (.bool false))), none⟩,
           ⟨some 42, .mv (.t 41), none⟩,
           ⟨some 43, .mv (.t 7), (some (42, true))⟩,
           ⟨some 44, .bin .eql (.t 43) (.k (.sc (.int .i64 0))), (some (42, true))⟩,
           ⟨some 45, .pick (.t 42) (.t 44) (.k (.sc (.bool false))), none⟩,
           ⟨some 46, .mv (.t 45), none⟩,
           ⟨some 47, .mv (.t 8), (some (46, true))⟩,
           ⟨some 48, .bin .eql (.t 47) (.k (.sc (.int .i64 1))), (some (46, true))⟩,
           ⟨some 49, .pick (.t 46) (.t 48) (.k (.sc (.bool false))), none⟩,
           ⟨some 50, .mv (.t 49), none⟩,
           ⟨some 51, .mv (.t 9), (some (50, true))⟩,
           ⟨some 52, .bin .eql (.t 51) (.k (.sc (.int .i64 0))), (some (50, true))⟩,
           ⟨some 53, .pick (.t 50) (.t 52) (.k (.sc (.bool false))), none⟩,
           ⟨some 0, .mv (.t 53), none⟩] [0])
        (.ret)))))))
def a9 : AFun := ⟨0, b9, [.t 0]⟩

def b10L1 : AC :=
  .seq (.reg [⟨some 33, .bin .lss (.t 32) (.t 31), none⟩] [2, 4, 7, 21, 22, 23, 30, 31, 32, 33])
  (.seq (.cond (.t 33)
     (.skip)
     (.exit 2))
   (.seq (.block 3 (.seq (.reg [⟨some 34, .idxA 1 (.t 30) (.t 32), none⟩,
         ⟨some 35, .ld 1 false (.t 34), none⟩,
         ⟨some 9, .mv (.t 35), none⟩] [2, 4, 7, 9, 21, 22, 23, 30, 31, 32])
      (.reg [⟨some 36, .mv (.t 7), none⟩,
         ⟨some 37, .mv (.t 9), none⟩,
         ⟨some 38, .bin .quo (.t 37) (.k (.sc (.int .i64 4))), none⟩,
         ⟨some 39, .mv (.t 9), none⟩,
         ⟨some 40, .bin .rem (.t 39) (.k (.sc (.int .i64 2))), none⟩,
         ⟨some 41, .bin .eql (.t 40) (.k (.sc (.int .i64 1))), none⟩,
         ⟨some 42, .bld [.int .i64 0, .bool false] [(0, 1, .t 38), (1, 1, .t 41)], none⟩,
         ⟨some 43, .bsl 2 [.int .i64 0, .bool false] 1 [(0, .t 42)], none⟩,
         ⟨some 44, .app 2 16 [.int .i64 0, .bool false] (.t 36) (.t 43), none⟩,
         ⟨some 7, .mv (.t 44), none⟩] [2, 4, 7, 21, 22, 23, 30, 31, 32])))
    (.reg [⟨some 45, .bin .add (.t 32) (.k (.sc (.int .i64 1))), none⟩,
       ⟨some 32, .mv (.t 45), none⟩] [2, 4, 7, 21, 22, 23, 30, 31, 32])))
def b10L0 : AC :=
  .seq (.reg [⟨some 24, .bin .lss (.t 23) (.t 22), none⟩] [2, 4, 21, 22, 23, 24])
  (.seq (.cond (.t 24)
     (.skip)
     (.exit 0))
   (.seq (.block 1 (.seq (.reg [⟨some 25, .idxA 1 (.t 21) (.t 23), none⟩,
         ⟨some 26, .ld 1 false (.t 25), none⟩,
         ⟨some 6, .mv (.t 26), none⟩] [2, 4, 6, 21, 22, 23])
      (.seq (.reg [⟨some 27, .mv (.t 6), none⟩,
          ⟨some 28, .len false (.t 27), none⟩,
          ⟨some 29, .mk 2 16 [.int .i64 0, .bool false] (.k (.sc (.int .i64 0))) (.t 28), none⟩,
          ⟨some 7, .mv (.t 29), none⟩] [2, 4, 6, 7, 21, 22, 23])
       (.seq (.seq (.reg [⟨some 30, .mv (.t 6), none⟩,
            ⟨some 31, .len false (.t 30), none⟩,
            ⟨some 32, .mv (.k (.sc (.int .i64 0))), none⟩] [2, 4, 7, 21, 22, 23, 30, 31, 32])
         (.block 2 (.loop [2, 4, 7, 21, 22, 23, 30, 31, 32] b10L1)))
        (.reg [⟨some 46, .fldA 0 (.t 4), none⟩,
           ⟨some 47, .ld 1 false (.t 46), none⟩,
           ⟨some 48, .mv (.t 7), none⟩,
           ⟨some 49, .bsl 1 [.nilS] 1 [(0, .t 48)], none⟩,
           ⟨some 50, .app 1 24 [.nilS] (.t 47) (.t 49), none⟩,
           ⟨some 51, .fldA 0 (.t 4), none⟩,
           ⟨none, .st 1 (.t 51) (.t 50), none⟩] [2, 4, 21, 22, 23])))))
    (.reg [⟨some 52, .bin .add (.t 23) (.k (.sc (.int .i64 1))), none⟩,
       ⟨some 23, .mv (.t 52), none⟩] [2, 4, 21, 22, 23])))
/-- unravel/gauss.Of -/
def b10 : AC :=
  .seq (.reg [⟨some 1, .box (.t 0), none⟩,
     ⟨some 2, .new [.nilS, .nilS, .int .i64 0], none⟩,
     ⟨some 3, .mv (.k (.sc (.int .i64 0))), none⟩] [1, 2])
  (.seq (.seq (.reg [⟨some 10, .ld 3 true (.t 1), none⟩,
       ⟨some 11, .call 18 [(.t 10)], none⟩,
       ⟨some 12, .un .not (.t 11), none⟩] [1, 2, 12])
    (.cond (.t 12)
      (.seq (.reg [⟨some 13, .bld [.nilS, .nilS, .int .i64 0] [], none⟩,
          ⟨none, .st 3 (.t 2) (.t 13), none⟩,
          ⟨some 3, .mv (.k (.sc (.int .i64 1))), none⟩] [2, 3])
       (.ret))
      (.skip)))
   (.seq (.regd [(⟨some 14, .fldA 0 (.t 1), none⟩, 0, false),
       (⟨some 15, .ld 1 false (.t 14), none⟩, 1, false),
       (⟨some 16, .call 29 [(.t 15)], none⟩, 2, false),
       (⟨some 17, .fldA 2 (.t 1), none⟩, 3, false),
       (⟨some 18, .ld 1 false (.t 17), none⟩, 4, false),
       (⟨some 19, .bld [.nilS, .nilS, .int .i64 0] [(1, 1, .t 16), (2, 1, .t 18)], none⟩, 5, false),
       (⟨some 4, .new [.nilS, .nilS, .int .i64 0], none⟩, 6, false),
       (⟨none, .st 3 (.t 4) (.t 19), none⟩, 7, true)] [1, 2, 4])
    (.seq (.seq (.reg [⟨some 20, .ld 3 true (.t 1), none⟩,
         ⟨some 21, .call 30 [(.t 20)], none⟩,
         ⟨some 22, .len false (.t 21), none⟩,
         ⟨some 23, .mv (.k (.sc (.int .i64 0))), none⟩] [2, 4, 21, 22, 23])
      (.block 0 (.loop [2, 4, 21, 22, 23] b10L0)))
     (.seq (.reg [⟨some 53, .ld 3 true (.t 4), none⟩,
         ⟨none, .st 3 (.t 2) (.t 53), none⟩,
         ⟨some 3, .mv (.k (.sc (.int .i64 0))), none⟩] [2, 3])
      (.ret)))))
def a10 : AFun := ⟨1, b10, [.cell 2 3 true, .t 3]⟩

def b16L0 : AC :=
  .seq (.reg [⟨some 33, .bin .lss (.t 32) (.t 31), none⟩] [1, 3, 30, 31, 32, 33])
  (.seq (.cond (.t 33)
     (.skip)
     (.exit 0))
   (.seq (.block 1 (.seq (.reg [⟨some 34, .idxA 1 (.t 30) (.t 32), none⟩,
         ⟨some 35, .ld 1 false (.t 34), none⟩,
         ⟨some 5, .mv (.t 35), none⟩] [1, 3, 5, 30, 31, 32])
      (.seq (.reg [⟨some 36, .mv (.t 5), none⟩,
          ⟨some 37, .bin .neq (.t 36) (.k (.sc (.int .i64 1))), none⟩,
          ⟨some 38, .mv (.t 37), none⟩,
          ⟨some 39, .mv (.t 5), (some (38, true))⟩,
          ⟨some 40, .bin .neq (.t 39) (.k (.sc (.int .i64 (-1)))), (some (38, true))⟩,
          ⟨some 41, .pick (.t 38) (.t 40) (.k (.sc (.bool false))), none⟩] [1, 3, 30, 31, 32, 41])
       (.cond (.t 41)
         (.seq (.reg [⟨some 2, .mv (.k (.sc (.bool false))), none⟩] [2])
          (.ret))
         (.skip)))))
    (.reg [⟨some 42, .bin .add (.t 32) (.k (.sc (.int .i64 1))), none⟩,
       ⟨some 32, .mv (.t 42), none⟩] [1, 3, 30, 31, 32])))
def b16L2 : AC :=
  .seq (.reg [⟨some 60, .bin .lss (.t 59) (.t 58), none⟩] [3, 6, 7, 8, 48, 49, 50, 57, 58, 59, 60])
  (.seq (.cond (.t 60)
     (.skip)
     (.exit 4))
   (.seq (.block 5 (.seq (.reg [⟨some 61, .idxA 2 (.t 57) (.t 59), none⟩,
         ⟨some 62, .ld 2 true (.t 61), none⟩,
         ⟨some 12, .new [.int .i64 0, .bool false], none⟩,
         ⟨none, .st 2 (.t 12) (.t 62), none⟩] [3, 6, 7, 8, 12, 48, 49, 50, 57, 58, 59])
      (.seq (.seq (.reg [⟨some 63, .fldA 0 (.t 12), none⟩,
           ⟨some 64, .ld 1 false (.t 63), none⟩,
           ⟨some 65, .bin .lss (.t 64) (.k (.sc (.int .i64 0))), none⟩,
           ⟨some 66, .mv (.t 65), none⟩,
           ⟨some 67, .fldA 0 (.t 12), (some (66, false))⟩,
           ⟨some 68, .ld 1 false (.t 67), (some (66, false))⟩,
           ⟨some 69, .mv (.t 3), (some (66, false))⟩,
           ⟨some 70, .bin .geq (.t 68) (.t 69), (some (66, false))⟩,
           ⟨some 71, .pick (.t 66) (.k (.sc (.bool true))) (.t 70), none⟩] [3, 6, 7, 8, 12, 48, 49, 50, 57, 58, 59, 71])
        (.cond (.t 71)
          (.seq (.reg [⟨some 2, .mv (.k (.sc (.bool false))), none⟩] [2])
           (.ret))
          (.skip)))
       (.seq (.reg [⟨some 72, .mv (.t 7), none⟩,
           ⟨some 13, .mv (.t 72), none⟩] [3, 6, 7, 8, 12, 13, 48, 49, 50, 57, 58, 59])
        (.seq (.seq (.reg [⟨some 73, .fldA 1 (.t 12), none⟩,
             ⟨some 74, .ld 1 false (.t 73), none⟩] [3, 6, 7, 8, 12, 13, 48, 49, 50, 57, 58, 59, 74])
          (.cond (.t 74)
            (.reg [⟨some 75, .mv (.t 6), none⟩,
               ⟨some 13, .mv (.t 75), none⟩] [3, 6, 7, 8, 12, 13, 48, 49, 50, 57, 58, 59])
            (.skip)))
         (.seq (.seq (.reg [⟨some 76, .mv (.t 13), none⟩,
              ⟨some 77, .fldA 0 (.t 12), none⟩,
              ⟨some 78, .ld 1 false (.t 77), none⟩,
              ⟨some 79, .idxA 1 (.t 76) (.t 78), none⟩,
              ⟨some 80, .ld 1 false (.t 79), none⟩] [3, 6, 7, 8, 12, 13, 48, 49, 50, 57, 58, 59, 80])
           (.cond (.t 80)
             (.seq (.reg [⟨some 2, .mv (.k (.sc (.bool false))), none⟩] [2])
              (.ret))
             (.skip)))
          (.seq (.reg [⟨some 81, .mv (.t 13), none⟩,
              ⟨some 82, .fldA 0 (.t 12), none⟩,
              ⟨some 83, .ld 1 false (.t 82), none⟩,
              ⟨some 84, .idxA 1 (.t 81) (.t 83), none⟩,
              ⟨none, .st 1 (.t 84) (.k (.sc (.bool true))), none⟩] [3, 6, 7, 8, 48, 49, 50, 57, 58, 59])
           (.reg [⟨some 85, .mv (.t 8), none⟩,
              ⟨some 86, .bin .add (.t 85) (.k (.sc (.int .i64 1))), none⟩,
              ⟨some 8, .mv (.t 86), none⟩] [3, 6, 7, 8, 48, 49, 50, 57, 58, 59]))))))))
    (.reg [⟨some 87, .bin .add (.t 59) (.k (.sc (.int .i64 1))), none⟩,
       ⟨some 59, .mv (.t 87), none⟩] [3, 6, 7, 8, 48, 49, 50, 57, 58, 59])))
def b16L1 : AC :=
  .seq (.reg [⟨some 51, .bin .lss (.t 50) (.t 49), none⟩] [3, 6, 7, 8, 48, 49, 50, 51])
  (.seq (.cond (.t 51)
     (.skip)
     (.exit 2))
   (.seq (.block 3 (.seq (.reg [⟨some 52, .idxA 1 (.t 48) (.t 50), none⟩,
         ⟨some 53, .ld 1 false (.t 52), none⟩,
         ⟨some 10, .mv (.t 53), none⟩] [3, 6, 7, 8, 10, 48, 49, 50])
      (.seq (.seq (.reg [⟨some 54, .mv (.t 10), none⟩,
           ⟨some 55, .len false (.t 54), none⟩,
           ⟨some 56, .bin .eql (.t 55) (.k (.sc (.int .i64 0))), none⟩] [3, 6, 7, 8, 10, 48, 49, 50, 56])
        (.cond (.t 56)
          (.seq (.reg [⟨some 2, .mv (.k (.sc (.bool false))), none⟩] [2])
           (.ret))
          (.skip)))
       (.seq (.reg [⟨some 57, .mv (.t 10), none⟩,
           ⟨some 58, .len false (.t 57), none⟩,
           ⟨some 59, .mv (.k (.sc (.int .i64 0))), none⟩] [3, 6, 7, 8, 48, 49, 50, 57, 58, 59])
        (.block 4 (.loop [3, 6, 7, 8, 48, 49, 50, 57, 58, 59] b16L2))))))
    (.reg [⟨some 88, .bin .add (.t 50) (.k (.sc (.int .i64 1))), none⟩,
       ⟨some 50, .mv (.t 88), none⟩] [3, 6, 7, 8, 48, 49, 50])))
/-- unravel/gauss.Valid -/
def b16 : AC :=
  .seq (.reg [⟨some 1, .box (.t 0), none⟩,
     ⟨some 2, .mv (.k (.sc (.bool false))), none⟩] [1])
  (.seq (.reg [⟨some 14, .fldA 1 (.t 1), none⟩,
      ⟨some 15, .ld 1 false (.t 14), none⟩,
      ⟨some 16, .len false (.t 15), none⟩,
      ⟨some 3, .mv (.t 16), none⟩] [1, 3])
   (.seq (.seq (.reg [⟨some 17, .mv (.t 3), none⟩,
        ⟨some 18, .bin .gtr (.t 17) (.k (.sc (.int .i64 64))), none⟩,
        ⟨some 19, .mv (.t 18), none⟩,
        ⟨some 20, .fldA 2 (.t 1), (some (19, false))⟩,
        ⟨some 21, .ld 1 false (.t 20), (some (19, false))⟩,
        ⟨some 22, .bin .lss (.t 21) (.k (.sc (.int .i64 0))), (some (19, false))⟩,
        ⟨some 23, .pick (.t 19) (.k (.sc (.bool true))) (.t 22), none⟩,
        ⟨some 24, .mv (.t 23), none⟩,
        ⟨some 25, .fldA 2 (.t 1), (some (24, false))⟩,
        ⟨some 26, .ld 1 false (.t 25), (some (24, false))⟩,
        ⟨some 27, .bin .gtr (.t 26) (.k (.sc (.int .i64 64))), (some (24, false))⟩,
        ⟨some 28, .pick (.t 24) (.k (.sc (.bool true))) (.t 27), none⟩] [1, 3, 28])
     (.cond (.t 28)
       (.seq (.reg [⟨some 2, .mv (.k (.sc (.bool false))), none⟩] [2])
        (.ret))
       (.skip)))
    (.seq (.seq (.reg [⟨some 29, .fldA 1 (.t 1), none⟩,
         ⟨some 30, .ld 1 false (.t 29), none⟩,
         ⟨some 31, .len false (.t 30), none⟩,
         ⟨some 32, .mv (.k (.sc (.int .i64 0))), none⟩] [1, 3, 30, 31, 32])
      (.block 0 (.loop [1, 3, 30, 31, 32] b16L0)))
     (.seq (.reg [⟨some 43, .mv (.t 3), none⟩,
         ⟨some 44, .mk 1 1 [.bool false] (.t 43) (.t 43), none⟩,
         ⟨some 6, .mv (.t 44), none⟩] [1, 3, 6])
      (.seq (.reg [⟨some 45, .mv (.t 3), none⟩,
          ⟨some 46, .mk 1 1 [.bool false] (.t 45) (.t 45), none⟩,
          ⟨some 7, .mv (.t 46), none⟩] [1, 3, 6, 7])
       (.seq (.reg [⟨some 8, .mv (.k (.sc (.int .i64 0))), none⟩] [1, 3, 6, 7, 8])
        (.seq (.seq (.reg [⟨some 47, .fldA 0 (.t 1), none⟩,
             ⟨some 48, .ld 1 false (.t 47), none⟩,
             ⟨some 49, .len false (.t 48), none⟩,
             ⟨some 50, .mv (.k (.sc (.int .i64 0))), none⟩] [3, 6, 7, 8, 48, 49, 50])
          (.block 2 (.loop [3, 6, 7, 8, 48, 49, 50] b16L1)))
         (.seq (.reg [⟨some 89, .mv (.t 8), none⟩,
             ⟨some 90, .mv (.t 3), none⟩,
             ⟨some 91, .bin .mul (.k (.sc (.int .i64 2))) (.t 90), none⟩,
             ⟨some 92, .bin .eql (.t 89) (.t 91), none⟩,
             ⟨some 2, .mv (.t 92), none⟩] [2])
          (.ret)))))))))
def a16 : AFun := ⟨1, b16, [.t 2]⟩

/-- unravel/gauss.Genus -/
def b17 : AC :=
  .seq (.reg [⟨some 1, .box (.t 0), none⟩,
     ⟨some 2, .mv (.k (.sc (.int .i64 0))), none⟩,
     ⟨some 3, .mv (.k (.sc (.int .i64 0))), none⟩] [1])
  (.seq (.seq (.reg [⟨some 4, .ld 3 true (.t 1), none⟩,
       ⟨some 5, .call 16 [(.t 4)], none⟩,
       ⟨some 6, .un .not (.t 5), none⟩] [1, 6])
    (.cond (.t 6)
      (.seq (.reg [⟨some 2, .mv (.k (.sc (.int .i64 0))), none⟩,
          ⟨some 3, .mv (.k (.sc (.int .i64 1))), none⟩] [2, 3])
       (.ret))
      (.skip)))
   (.seq (.reg [⟨some 7, .ld 3 true (.t 1), none⟩,
       ⟨some 8, .call 37 [(.t 7)], none⟩,
       ⟨some 9, .call 36 [(.t 8)], none⟩,
       ⟨some 2, .mv (.t 9), none⟩,
       ⟨some 3, .mv (.k (.sc (.int .i64 0))), none⟩] [2, 3])
    (.ret)))
def a17 : AFun := ⟨1, b17, [.t 2, .t 3]⟩

def b18L0 : AC :=
  .seq (.reg [⟨some 35, .bin .lss (.t 34) (.t 33), none⟩] [1, 3, 32, 33, 34, 35])
  (.seq (.cond (.t 35)
     (.skip)
     (.exit 0))
   (.seq (.block 1 (.seq (.reg [⟨some 36, .idxA 1 (.t 32) (.t 34), none⟩,
         ⟨some 37, .ld 1 false (.t 36), none⟩,
         ⟨some 5, .mv (.t 37), none⟩] [1, 3, 5, 32, 33, 34])
      (.seq (.reg [⟨some 38, .mv (.t 5), none⟩,
          ⟨some 39, .bin .neq (.t 38) (.k (.sc (.int .i64 1))), none⟩,
          ⟨some 40, .mv (.t 39), none⟩,
          ⟨some 41, .mv (.t 5), (some (40, true))⟩,
          ⟨some 42, .bin .neq (.t 41) (.k (.sc (.int .i64 (-1)))), (some (40, true))⟩,
          ⟨some 43, .pick (.t 40) (.t 42) (.k (.sc (.bool false))), none⟩] [1, 3, 32, 33, 34, 43])
       (.cond (.t 43)
         (.seq (.reg [⟨some 2, .mv (.k (.sc (.bool false))), none⟩] [2])
          (.ret))
         (.skip)))))
    (.reg [⟨some 44, .bin .add (.t 34) (.k (.sc (.int .i64 1))), none⟩,
       ⟨some 34, .mv (.t 44), none⟩] [1, 3, 32, 33, 34])))
def b18L1 : AC :=
  .seq (.reg [⟨some 49, .bin .lss (.t 48) (.t 47), none⟩] [1, 3, 46, 47, 48, 49])
  (.seq (.cond (.t 49)
     (.skip)
     (.exit 2))
   (.seq (.block 3 (.seq (.reg [⟨some 50, .mv (.t 48), none⟩,
         ⟨some 51, .idxA 1 (.t 46) (.t 48), none⟩,
         ⟨some 52, .ld 1 false (.t 51), none⟩,
         ⟨some 6, .mv (.t 50), none⟩,
         ⟨some 7, .mv (.t 52), none⟩] [1, 3, 6, 7, 46, 47, 48])
      (.seq (.seq (.reg [⟨some 53, .mv (.t 7), none⟩,
           ⟨some 54, .bin .lss (.t 53) (.k (.sc (.int .i64 0))), none⟩,
           ⟨some 55, .mv (.t 54), none⟩,
           ⟨some 56, .mv (.t 7), (some (55, false))⟩,
           ⟨some 57, .mv (.t 3), (some (55, false))⟩,
           ⟨some 58, .bin .mul (.k (.sc (.int .i64 4))) (.t 57), (some (55, false))⟩,
           ⟨some 59, .bin .geq (.t 56) (.t 58), (some (55, false))⟩,
           ⟨some 60, .pick (.t 55) (.k (.sc (.bool true))) (.t 59), none⟩,
           ⟨some 61, .mv (.t 60), none⟩,
           ⟨some 62, .mv (.t 7), (some (61, false))⟩,
           ⟨some 63, .mv (.t 6), (some (61, false))⟩,
           ⟨some 64, .bin .eql (.t 62) (.t 63), (some (61, false))⟩,
           ⟨some 65, .pick (.t 61) (.k (.sc (.bool true))) (.t 64), none⟩,
           ⟨some 66, .mv (.t 65), none⟩,
           ⟨some 67, .fldA 1 (.t 1), (some (66, false))⟩,
           ⟨some 68, .ld 1 false (.t 67), (some (66, false))⟩,
           ⟨some 69, .mv (.t 7), (some (66, false))⟩,
           ⟨some 70, .idxA 1 (.t 68) (.t 69), (some (66, false))⟩,
           ⟨some 71, .ld 1 false (.t 70), (some (66, false))⟩,
           ⟨some 72, .mv (.t 6), (some (66, false))⟩,
           ⟨some 73, .bin .neq (.t 71) (.t 72), (some (66, false))⟩,
           ⟨some 74, .pick (.t 66) (.k (.sc (.bool true))) (.t 73), none⟩] [1, 3, 6, 7, 46, 47, 48, 74])
        (.cond (.t 74)
          (.seq (.reg [⟨some 2, .mv (.k (.sc (.bool false))), none⟩] [2])
           (.ret))
          (.skip)))
       (.seq (.regd [(⟨some 75, .ld 3 true (.t 1), none⟩, 0, false),
           (⟨some 76, .mv (.t 6), none⟩, 1, false),
           (⟨some 77, .call 38 [(.t 75), (.t 76)], none⟩, 2, false),
           (⟨some 78, .ld 3 true (.t 1), none⟩, 3, false),
           (⟨some 79, .mv (.t 7), none⟩, 4, false),
           (⟨some 80, .call 38 [(.t 78), (.t 79)], none⟩, 5, true),
           (⟨some 81, .beq false (.t 77) (.t 80), none⟩, 6, false)] [1, 3, 46, 47, 48, 81])
        (.cond (.t 81)
          (.seq (.reg [⟨some 2, .mv (.k (.sc (.bool false))), none⟩] [2])
           (.ret))
          (.skip))))))
    (.reg [⟨some 82, .bin .add (.t 48) (.k (.sc (.int .i64 1))), none⟩,
       ⟨some 48, .mv (.t 82), none⟩] [1, 3, 46, 47, 48])))
/-- unravel/diagram.Valid -/
def b18 : AC :=
  .seq (.reg [⟨some 1, .box (.t 0), none⟩,
     ⟨some 2, .mv (.k (.sc (.bool false))), none⟩] [1])
  (.seq (.reg [⟨some 8, .fldA 0 (.t 1), none⟩,
      ⟨some 9, .ld 1 false (.t 8), none⟩,
      ⟨some 10, .len false (.t 9), none⟩,
      ⟨some 3, .mv (.t 10), none⟩] [1, 3])
   (.seq (.seq (.reg [⟨some 11, .mv (.t 3), none⟩,
        ⟨some 12, .bin .gtr (.t 11) (.k (.sc (.int .i64 64))), none⟩,
        ⟨some 13, .mv (.t 12), none⟩,
        ⟨some 14, .fldA 1 (.t 1), (some (13, false))⟩,
        ⟨some 15, .ld 1 false (.t 14), (some (13, false))⟩,
        ⟨some 16, .len false (.t 15), (some (13, false))⟩,
        ⟨some 17, .mv (.t 3), (some (13, false))⟩,
        ⟨some 18, .bin .mul (.k (.sc (.int .i64 4))) (.t 17), (some (13, false))⟩,
        ⟨some 19, .bin .neq (.t 16) (.t 18), (some (13, false))⟩,
        ⟨some 20, .pick (.t 13) (.k (.sc (.bool true))) (.t 19), none⟩,
        ⟨some 21, .mv (.t 20), none⟩,
        ⟨some 22, .fldA 2 (.t 1), (some (21, false))⟩,
        ⟨some 23, .ld 1 false (.t 22), (some (21, false))⟩,
        ⟨some 24, .bin .lss (.t 23) (.k (.sc (.int .i64 0))), (some (21, false))⟩,
        ⟨some 25, .pick (.t 21) (.k (.sc (.bool true))) (.t 24), none⟩,
        ⟨some 26, .mv (.t 25), none⟩,
        ⟨some 27, .fldA 2 (.t 1), (some (26, false))⟩,
        ⟨some 28, .ld 1 false (.t 27), (some (26, false))⟩,
        ⟨some 29, .bin .gtr (.t 28) (.k (.sc (.int .i64 64))), (some (26, false))⟩,
        ⟨some 30, .pick (.t 26) (.k (.sc (.bool true))) (.t 29), none⟩] [1, 3, 30])
     (.cond (.t 30)
       (.seq (.reg [⟨some 2, .mv (.k (.sc (.bool false))), none⟩] [2])
        (.ret))
       (.skip)))
    (.seq (.seq (.reg [⟨some 31, .fldA 0 (.t 1), none⟩,
         ⟨some 32, .ld 1 false (.t 31), none⟩,
         ⟨some 33, .len false (.t 32), none⟩,
         ⟨some 34, .mv (.k (.sc (.int .i64 0))), none⟩] [1, 3, 32, 33, 34])
      (.block 0 (.loop [1, 3, 32, 33, 34] b18L0)))
     (.seq (.seq (.reg [⟨some 45, .fldA 1 (.t 1), none⟩,
          ⟨some 46, .ld 1 false (.t 45), none⟩,
          ⟨some 47, .len false (.t 46), none⟩,
          ⟨some 48, .mv (.k (.sc (.int .i64 0))), none⟩] [1, 3, 46, 47, 48])
       (.block 2 (.loop [1, 3, 46, 47, 48] b18L1)))
      (.seq (.reg [⟨some 83, .ld 3 true (.t 1), none⟩,
          ⟨some 84, .call 39 [(.t 83)], none⟩,
          ⟨some 2, .mv (.t 84), none⟩] [2])
       (.ret))))))
def a18 : AFun := ⟨1, b18, [.t 2]⟩

def b27L1 : AC :=
  .seq (.reg [⟨some 23, .bin .lss (.t 22) (.t 21), none⟩] [1, 4, 7, 14, 15, 16, 20, 21, 22, 23])
  (.seq (.cond (.t 23)
     (.skip)
     (.exit 2))
   (.seq (.block 3 (.seq (.reg [⟨some 24, .idxA 2 (.t 20) (.t 22), none⟩,
         ⟨some 25, .ld 2 true (.t 24), none⟩,
         ⟨some 9, .new [.int .i64 0, .bool false], none⟩,
         ⟨none, .st 2 (.t 9) (.t 25), none⟩] [1, 4, 7, 9, 14, 15, 16, 20, 21, 22])
      (.seq (.seq (.reg [⟨some 26, .fldA 1 (.t 9), none⟩,
           ⟨some 27, .ld 1 false (.t 26), none⟩] [1, 4, 7, 9, 14, 15, 16, 20, 21, 22, 27])
        (.cond (.t 27)
          (.reg [⟨some 28, .call 44 [(.t 7), (.k (.sc (.int .u8 79)))], none⟩] [1, 4, 7, 9, 14, 15, 16, 20, 21, 22])
          (.reg [⟨some 29, .call 44 [(.t 7), (.k (.sc (.int .u8 85)))], none⟩] [1, 4, 7, 9, 14, 15, 16, 20, 21, 22])))
       (.seq (.reg [⟨some 30, .fldA 0 (.t 9), none⟩,
           ⟨some 31, .ld 1 false (.t 30), none⟩,
           ⟨some 32, .bin .add (.t 31) (.k (.sc (.int .i64 1))), none⟩,
           ⟨some 33, .call 46 [(.t 32)], none⟩,
           ⟨some 34, .call 45 [(.t 7), (.t 33)], none⟩] [1, 4, 7, 9, 14, 15, 16, 20, 21, 22])
        (.seq (.reg [⟨some 35, .fldA 1 (.t 1), none⟩,
            ⟨some 36, .ld 1 false (.t 35), none⟩,
            ⟨some 37, .fldA 0 (.t 9), none⟩,
            ⟨some 38, .ld 1 false (.t 37), none⟩,
            ⟨some 39, .idxA 1 (.t 36) (.t 38), none⟩,
            ⟨some 40, .ld 1 false (.t 39), none⟩,
            ⟨some 41, .bin .eql (.t 40) (.k (.sc (.int .i64 1))), none⟩] [1, 4, 7, 14, 15, 16, 20, 21, 22, 41])
         (.cond (.t 41)
           (.reg [⟨some 42, .call 44 [(.t 7), (.k (.sc (.int .u8 43)))], none⟩] [1, 4, 7, 14, 15, 16, 20, 21, 22])
           (.reg [⟨some 43, .call 44 [(.t 7), (.k (.sc (.int .u8 45)))], none⟩] [1, 4, 7, 14, 15, 16, 20, 21, 22])))))))
    (.reg [⟨some 44, .bin .add (.t 22) (.k (.sc (.int .i64 1))), none⟩,
       ⟨some 22, .mv (.t 44), none⟩] [1, 4, 7, 14, 15, 16, 20, 21, 22])))
def b27L0 : AC :=
  .seq (.reg [⟨some 17, .bin .lss (.t 16) (.t 15), none⟩] [1, 4, 14, 15, 16, 17])
  (.seq (.cond (.t 17)
     (.skip)
     (.exit 0))
   (.seq (.block 1 (.seq (.reg [⟨some 18, .idxA 1 (.t 14) (.t 16), none⟩,
         ⟨some 19, .ld 1 false (.t 18), none⟩,
         ⟨some 6, .mv (.t 19), none⟩] [1, 4, 6, 14, 15, 16])
      (.seq (.reg [⟨some 7, .newT 80 [.nilP, .nilS], none⟩] [1, 4, 6, 7, 14, 15, 16])
       (.seq (.seq (.reg [⟨some 20, .mv (.t 6), none⟩,
            ⟨some 21, .len false (.t 20), none⟩,
            ⟨some 22, .mv (.k (.sc (.int .i64 0))), none⟩] [1, 4, 7, 14, 15, 16, 20, 21, 22])
         (.block 2 (.loop [1, 4, 7, 14, 15, 16, 20, 21, 22] b27L1)))
        (.reg [⟨some 45, .mv (.t 4), none⟩,
           ⟨some 46, .call 47 [(.t 7)], none⟩,
           ⟨some 47, .bsl 1 [.str ByteArray.empty] 1 [(0, .t 46)], none⟩,
           ⟨some 48, .app 1 16 [.str ByteArray.empty] (.t 45) (.t 47), none⟩,
           ⟨some 4, .mv (.t 48), none⟩] [1, 4, 14, 15, 16])))))
    (.reg [⟨some 49, .bin .add (.t 16) (.k (.sc (.int .i64 1))), none⟩,
       ⟨some 16, .mv (.t 49), none⟩] [1, 4, 14, 15, 16])))
def b27L2 : AC :=
  .seq (.reg [⟨some 53, .bin .lss (.t 52) (.t 51), none⟩] [4, 51, 52, 53])
  (.seq (.cond (.t 53)
     (.skip)
     (.exit 4))
   (.seq (.block 5 (.reg [⟨some 54, .mv (.t 4), none⟩,
        ⟨some 55, .bsl 1 [.str ByteArray.empty] 1 [(0, .k (.sc (.str ⟨#[42]⟩)))], none⟩,
        ⟨some 56, .app 1 16 [.str ByteArray.empty] (.t 54) (.t 55), none⟩,
        ⟨some 4, .mv (.t 56), none⟩] [4, 51, 52]))
    (.reg [⟨some 57, .bin .add (.t 52) (.k (.sc (.int .i64 1))), none⟩,
       ⟨some 52, .mv (.t 57), none⟩] [4, 51, 52])))
/-- unravel/gauss.Format -/
def b27 : AC :=
  .seq (.reg [⟨some 1, .box (.t 0), none⟩,
     ⟨some 2, .mv (.k (.sc (.str ⟨#[]⟩))), none⟩,
     ⟨some 3, .mv (.k (.sc (.int .i64 0))), none⟩] [1])
  (.seq (.seq (.reg [⟨some 10, .ld 3 true (.t 1), none⟩,
       ⟨some 11, .call 16 [(.t 10)], none⟩,
       ⟨some 12, .un .not (.t 11), none⟩] [1, 12])
    (.cond (.t 12)
      (.seq (.reg [⟨some 2, .mv (.k (.sc (.str ⟨#[]⟩))), none⟩,
          ⟨some 3, .mv (.k (.sc (.int .i64 1))), none⟩] [2, 3])
       (.ret))
      (.skip)))
   (.seq (.reg [⟨some 4, .mv (.k (.sc .nilS)), none⟩] [1, 4])
    (.seq (.seq (.reg [⟨some 13, .fldA 0 (.t 1), none⟩,
         ⟨some 14, .ld 1 false (.t 13), none⟩,
         ⟨some 15, .len false (.t 14), none⟩,
         ⟨some 16, .mv (.k (.sc (.int .i64 0))), none⟩] [1, 4, 14, 15, 16])
      (.block 0 (.loop [1, 4, 14, 15, 16] b27L0)))
     (.seq (.seq (.reg [⟨some 50, .fldA 2 (.t 1), none⟩,
          ⟨some 51, .ld 1 false (.t 50), none⟩,
          ⟨some 52, .mv (.k (.sc (.int .i64 0))), none⟩] [4, 51, 52])
       (.block 4 (.loop [4, 51, 52] b27L2)))
      (.seq (.reg [⟨some 58, .mv (.t 4), none⟩,
          ⟨some 59, .call 48 [(.t 58), (.k (.sc (.str ⟨#[32]⟩)))], none⟩,
          ⟨some 2, .mv (.t 59), none⟩,
          ⟨some 3, .mv (.k (.sc (.int .i64 0))), none⟩] [2, 3])
       (.ret))))))
def a27 : AFun := ⟨1, b27, [.t 2, .t 3]⟩

def b28L0 : AC :=
  .seq (.reg [⟨some 22, .bin .lss (.t 21) (.t 20), none⟩] [0, 2, 4, 5, 19, 20, 21, 22])
  (.seq (.cond (.t 22)
     (.skip)
     (.exit 0))
   (.seq (.block 1 (.seq (.reg [⟨some 23, .idxA 1 (.t 19) (.t 21), none⟩,
         ⟨some 24, .ld 1 false (.t 23), none⟩,
         ⟨some 7, .mv (.t 24), none⟩] [0, 2, 4, 5, 7, 19, 20, 21])
      (.seq (.seq (.reg [⟨some 25, .mv (.t 7), none⟩,
           ⟨some 26, .bin .eql (.t 25) (.k (.sc (.str ⟨#[42]⟩))), none⟩] [0, 2, 4, 5, 7, 19, 20, 21, 26])
        (.cond (.t 26)
          (.seq (.reg [⟨some 27, .fldA 2 (.t 4), none⟩,
              ⟨some 28, .ld 1 false (.t 27), none⟩,
              ⟨some 29, .bin .add (.t 28) (.k (.sc (.int .i64 1))), none⟩,
              ⟨some 30, .fldA 2 (.t 4), none⟩,
              ⟨none, .st 1 (.t 30) (.t 29), none⟩] [0, 2, 4, 5, 19, 20, 21])
           (.exit 1))
          (.skip)))
       (.seq (.reg [⟨some 32, .mv (.t 7), none⟩,
           ⟨some 33, .mv (.t 5), none⟩,
           ⟨some 34, .call 50 [(.t 32), (.t 33)], none⟩,
           ⟨some 31, .mv (.t 34), none⟩,
           ⟨some 35, .ext (.t 31) 0, none⟩,
           ⟨some 36, .ext (.t 31) 1, none⟩,
           ⟨some 8, .mv (.t 35), none⟩,
           ⟨some 9, .mv (.t 36), none⟩] [0, 2, 4, 5, 8, 9, 19, 20, 21])
        (.seq (.seq (.reg [⟨some 37, .mv (.t 9), none⟩,
             ⟨some 38, .un .not (.t 37), none⟩] [0, 2, 4, 5, 8, 19, 20, 21, 38])
          (.cond (.t 38)
            (.seq (.reg [⟨some 39, .bld [.nilS, .nilS, .int .i64 0] [], none⟩,
                ⟨none, .st 3 (.t 2) (.t 39), none⟩,
                ⟨some 3, .mv (.k (.sc (.int .i64 3))), none⟩] [2, 3])
             (.ret))
            (.skip)))
         (.reg [⟨some 40, .fldA 0 (.t 4), none⟩,
            ⟨some 41, .ld 1 false (.t 40), none⟩,
            ⟨some 42, .mv (.t 8), none⟩,
            ⟨some 43, .bsl 1 [.nilS] 1 [(0, .t 42)], none⟩,
            ⟨some 44, .app 1 24 [.nilS] (.t 41) (.t 43), none⟩,
            ⟨some 45, .fldA 0 (.t 4), none⟩,
            ⟨none, .st 1 (.t 45) (.t 44), none⟩] [0, 2, 4, 5, 19, 20, 21]))))))
    (.reg [⟨some 46, .bin .add (.t 21) (.k (.sc (.int .i64 1))), none⟩,
       ⟨some 21, .mv (.t 46), none⟩] [0, 2, 4, 5, 19, 20, 21])))
def b28L1 : AC :=
  .seq (.seq (.reg [⟨some 49, .mv (.t 10), none⟩,
      ⟨some 50, .bin .gtr (.t 49) (.k (.sc (.int .i64 0))), none⟩,
      ⟨some 51, .mv (.t 50), none⟩,
      ⟨some 52, .mv (.t 5), (some (51, true))⟩,
      ⟨some 53, .mv (.t 10), (some (51, true))⟩,
      ⟨some 54, .bin .sub (.t 53) (.k (.sc (.int .i64 1))), (some (51, true))⟩,
      ⟨some 55, .idxA 1 (.t 52) (.t 54), (some (51, true))⟩,
      ⟨some 56, .ld 1 false (.t 55), (some (51, true))⟩,
      ⟨some 57, .bin .eql (.t 56) (.k (.sc (.int .i64 0))), (some (51, true))⟩,
      ⟨some 58, .pick (.t 51) (.t 57) (.k (.sc (.bool false))), none⟩] [0, 2, 4, 5, 10, 58])
   (.cond (.t 58)
     (.skip)
     (.exit 2)))
  (.block 3 (.reg [⟨some 59, .mv (.t 10), none⟩,
      ⟨some 60, .bin .sub (.t 59) (.k (.sc (.int .i64 1))), none⟩,
      ⟨some 10, .mv (.t 60), none⟩] [0, 2, 4, 5, 10]))
/-- unravel/gauss.Parse -/
def b28 : AC :=
  .seq (.reg [⟨some 2, .new [.nilS, .nilS, .int .i64 0], none⟩,
     ⟨some 3, .mv (.k (.sc (.int .i64 0))), none⟩] [0, 2])
  (.seq (.seq (.reg [⟨some 13, .mv (.t 0), none⟩,
       ⟨some 14, .len true (.t 13), none⟩,
       ⟨some 15, .bin .gtr (.t 14) (.k (.sc (.int .i64 65536))), none⟩] [0, 2, 15])
    (.cond (.t 15)
      (.seq (.reg [⟨some 16, .bld [.nilS, .nilS, .int .i64 0] [], none⟩,
          ⟨none, .st 3 (.t 2) (.t 16), none⟩,
          ⟨some 3, .mv (.k (.sc (.int .i64 5))), none⟩] [2, 3])
       (.ret))
      (.skip)))
   (.seq (.reg [⟨some 4, .new [.nilS, .nilS, .int .i64 0], none⟩] [0, 2, 4])
    (.seq (.reg [⟨some 17, .mk 1 8 [.int .i64 0] (.k (.sc (.int .i64 64))) (.k (.sc (.int .i64 64))), none⟩,
        ⟨some 5, .mv (.t 17), none⟩] [0, 2, 4, 5])
     (.seq (.seq (.reg [⟨some 18, .mv (.t 0), none⟩,
          ⟨some 19, .call 49 [(.t 18)], none⟩,
          ⟨some 20, .len false (.t 19), none⟩,
          ⟨some 21, .mv (.k (.sc (.int .i64 0))), none⟩] [0, 2, 4, 5, 19, 20, 21])
       (.block 0 (.loop [0, 2, 4, 5, 19, 20, 21] b28L0)))
      (.seq (.reg [⟨some 47, .mv (.t 5), none⟩,
          ⟨some 48, .len false (.t 47), none⟩,
          ⟨some 10, .mv (.t 48), none⟩] [0, 2, 4, 5, 10])
       (.seq (.block 2 (.loop [0, 2, 4, 5, 10] b28L1))
        (.seq (.reg [⟨some 61, .mv (.t 5), none⟩,
            ⟨some 62, .mv (.t 10), none⟩,
            ⟨some 63, .sl1 (.t 61) none (some (.t 62)), none⟩,
            ⟨some 64, .call 29 [(.t 63)], none⟩,
            ⟨some 65, .fldA 1 (.t 4), none⟩,
            ⟨none, .st 1 (.t 65) (.t 64), none⟩] [0, 2, 4])
         (.seq (.reg [⟨some 67, .ld 3 true (.t 4), none⟩,
             ⟨some 68, .call 27 [(.t 67)], none⟩,
             ⟨some 66, .mv (.t 68), none⟩,
             ⟨some 69, .ext (.t 66) 0, none⟩,
             ⟨some 70, .ext (.t 66) 1, none⟩,
             ⟨some 11, .mv (.t 69), none⟩,
             ⟨some 12, .mv (.t 70), none⟩] [0, 2, 4, 11, 12])
          (.seq (.seq (.reg [⟨some 71, .mv (.t 12), none⟩,
               ⟨some 72, .bin .neq (.t 71) (.k (.sc (.int .i64 0))), none⟩,
               ⟨some 73, .mv (.t 72), none⟩,
               ⟨some 74, .mv (.t 11), (some (73, false))⟩,
               ⟨some 75, .mv (.t 0), (some (73, false))⟩,
               ⟨some 76, .bin .neq (.t 74) (.t 75), (some (73, false))⟩,
               ⟨some 77, .pick (.t 73) (.k (.sc (.bool true))) (.t 76), none⟩] [2, 4, 77])
            (.cond (.t 77)
              (.seq (.reg [⟨some 78, .bld [.nilS, .nilS, .int .i64 0] [], none⟩,
                  ⟨none, .st 3 (.t 2) (.t 78), none⟩,
                  ⟨some 3, .mv (.k (.sc (.int .i64 3))), none⟩] [2, 3])
               (.ret))
              (.skip)))
           (.seq (.reg [⟨some 79, .ld 3 true (.t 4), none⟩,
               ⟨none, .st 3 (.t 2) (.t 79), none⟩,
               ⟨some 3, .mv (.k (.sc (.int .i64 0))), none⟩] [2, 3])
            (.ret)))))))))))
def a28 : AFun := ⟨1, b28, [.cell 2 3 true, .t 3]⟩

/-- slices.Clone[[]int,int] -/
def b29 : AC :=
  .seq (.reg [⟨some 2, .mv (.k (.sc .nilS)), none⟩] [0])
  (.seq (.seq (.reg [⟨some 3, .mv (.t 0), none⟩,
       ⟨some 4, .isnil 1 false (.t 3), none⟩] [0, 4])
    (.cond (.t 4)
      (.seq (.reg [⟨some 2, .mv (.k (.sc .nilS)), none⟩] [2])
       (.ret))
      (.skip)))
   (.seq (.reg [⟨some 5, .bsl 1 [.int .i64 0] 0 [], none⟩,
       ⟨some 6, .mv (.t 0), none⟩,
       ⟨some 7, .app 1 8 [.int .i64 0] (.t 5) (.t 6), none⟩,
       ⟨some 2, .mv (.t 7), none⟩] [2])
    (.ret)))
def a29 : AFun := ⟨1, b29, [.t 2]⟩

/-- unravel/diagram.Strands -/
def b30 : AC :=
  .seq (.reg [⟨some 1, .box (.t 0), none⟩,
     ⟨some 2, .mv (.k (.sc .nilS)), none⟩] [1])
  (.seq (.seq (.reg [⟨some 4, .ld 3 true (.t 1), none⟩,
       ⟨some 5, .call 18 [(.t 4)], none⟩,
       ⟨some 6, .un .not (.t 5), none⟩] [1, 6])
    (.cond (.t 6)
      (.seq (.reg [⟨some 2, .mv (.k (.sc .nilS)), none⟩] [2])
       (.ret))
      (.skip)))
   (.seq (.reg [⟨some 7, .mkf 51 [(.t 1)], none⟩,
       ⟨some 3, .mv (.t 7), none⟩] [1, 3])
    (.seq (.reg [⟨some 8, .fldA 1 (.t 1), none⟩,
        ⟨some 9, .ld 1 false (.t 8), none⟩,
        ⟨some 10, .len false (.t 9), none⟩,
        ⟨some 11, .mv (.t 3), none⟩,
        ⟨some 12, .mkf 53 [(.t 1)], none⟩,
        ⟨some 13, .call 52 [(.t 10), (.t 11), (.t 12)], none⟩,
        ⟨some 2, .mv (.t 13), none⟩] [2])
     (.ret))))
def a30 : AFun := ⟨1, b30, [.t 2]⟩

def b36L1 : AC :=
  .seq (.seq (.reg [⟨some 33, .mv (.t 6), none⟩,
      ⟨some 34, .mv (.t 8), none⟩,
      ⟨some 35, .idxA 1 (.t 33) (.t 34), none⟩,
      ⟨some 36, .ld 1 false (.t 35), none⟩,
      ⟨some 37, .un .not (.t 36), none⟩] [0, 3, 4, 5, 6, 8, 22, 23, 37])
   (.cond (.t 37)
     (.skip)
     (.exit 2)))
  (.seq (.block 3 (.reg [⟨some 43, .mv (.t 6), none⟩,
       ⟨some 44, .mv (.t 8), none⟩,
       ⟨some 45, .idxA 1 (.t 43) (.t 44), none⟩,
       ⟨none, .st 1 (.t 45) (.k (.sc (.bool true))), none⟩] [0, 3, 4, 5, 6, 8, 22, 23]))
   (.reg [⟨some 38, .mv (.t 0), none⟩,
      ⟨some 39, .mv (.t 8), none⟩,
      ⟨some 40, .idxA 1 (.t 38) (.t 39), none⟩,
      ⟨some 41, .ld 1 false (.t 40), none⟩,
      ⟨some 42, .call 57 [(.t 41), (.k (.sc (.int .i64 (-1))))], none⟩,
      ⟨some 8, .mv (.t 42), none⟩] [0, 3, 4, 5, 6, 8, 22, 23]))
def b36L0 : AC :=
  .seq (.reg [⟨some 24, .bin .lss (.t 23) (.t 22), none⟩] [0, 3, 4, 5, 6, 22, 23, 24])
  (.seq (.cond (.t 24)
     (.skip)
     (.exit 0))
   (.seq (.block 1 (.seq (.reg [⟨some 25, .mv (.t 23), none⟩,
         ⟨some 7, .mv (.t 25), none⟩] [0, 3, 4, 5, 6, 7, 22, 23])
      (.seq (.seq (.reg [⟨some 26, .mv (.t 6), none⟩,
           ⟨some 27, .mv (.t 7), none⟩,
           ⟨some 28, .idxA 1 (.t 26) (.t 27), none⟩,
           ⟨some 29, .ld 1 false (.t 28), none⟩] [0, 3, 4, 5, 6, 7, 22, 23, 29])
        (.cond (.t 29)
          (.exit 1)
          (.skip)))
       (.seq (.reg [⟨some 30, .mv (.t 4), none⟩,
           ⟨some 31, .bin .add (.t 30) (.k (.sc (.int .i64 1))), none⟩,
           ⟨some 4, .mv (.t 31), none⟩] [0, 3, 4, 5, 6, 7, 22, 23])
        (.seq (.reg [⟨some 32, .mv (.t 7), none⟩,
            ⟨some 8, .mv (.t 32), none⟩] [0, 3, 4, 5, 6, 8, 22, 23])
         (.block 2 (.loop [0, 3, 4, 5, 6, 8, 22, 23] b36L1)))))))
    (.reg [⟨some 46, .bin .add (.t 23) (.k (.sc (.int .i64 1))), none⟩,
       ⟨some 23, .mv (.t 46), none⟩] [0, 3, 4, 5, 6, 22, 23])))
def b36L4 : AC :=
  .seq (.reg [⟨some 79, .bin .lss (.t 78) (.k (.sc (.int .i64 4))), none⟩] [0, 3, 4, 5, 9, 11, 12, 49, 50, 78, 79])
  (.seq (.cond (.t 79)
     (.skip)
     (.exit 8))
   (.seq (.block 9 (.seq (.reg [⟨some 80, .mv (.t 78), none⟩,
         ⟨some 13, .mv (.t 80), none⟩] [0, 3, 4, 5, 9, 11, 12, 13, 49, 50, 78])
      (.seq (.reg [⟨some 81, .mv (.t 0), none⟩,
          ⟨some 82, .mv (.t 12), none⟩,
          ⟨some 83, .bin .mul (.k (.sc (.int .i64 4))) (.t 82), none⟩,
          ⟨some 84, .mv (.t 13), none⟩,
          ⟨some 85, .bin .add (.t 83) (.t 84), none⟩,
          ⟨some 86, .idxA 1 (.t 81) (.t 85), none⟩,
          ⟨some 87, .ld 1 false (.t 86), none⟩,
          ⟨some 88, .bin .quo (.t 87) (.k (.sc (.int .i64 4))), none⟩,
          ⟨some 14, .mv (.t 88), none⟩] [0, 3, 4, 5, 9, 11, 12, 14, 49, 50, 78])
       (.seq (.reg [⟨some 89, .mv (.t 9), none⟩,
           ⟨some 90, .mv (.t 14), none⟩,
           ⟨some 91, .idxA 1 (.t 89) (.t 90), none⟩,
           ⟨some 92, .ld 1 false (.t 91), none⟩,
           ⟨some 93, .un .not (.t 92), none⟩] [0, 3, 4, 5, 9, 11, 12, 14, 49, 50, 78, 93])
        (.cond (.t 93)
          (.seq (.reg [⟨some 94, .mv (.t 9), none⟩,
              ⟨some 95, .mv (.t 14), none⟩,
              ⟨some 96, .idxA 1 (.t 94) (.t 95), none⟩,
              ⟨none, .st 1 (.t 96) (.k (.sc (.bool true))), none⟩] [0, 3, 4, 5, 9, 11, 12, 14, 49, 50, 78])
           (.reg [⟨some 97, .mv (.t 11), none⟩,
              ⟨some 98, .mv (.t 14), none⟩,
              ⟨some 99, .bsl 1 [.int .i64 0] 1 [(0, .t 98)], none⟩,
              ⟨some 100, .app 1 8 [.int .i64 0] (.t 97) (.t 99), none⟩,
              ⟨some 11, .mv (.t 100), none⟩] [0, 3, 4, 5, 9, 11, 12, 49, 50, 78]))
          (.skip))))))
    (.reg [⟨some 101, .bin .add (.t 78) (.k (.sc (.int .i64 1))), none⟩,
       ⟨some 78, .mv (.t 101), none⟩] [0, 3, 4, 5, 9, 11, 12, 49, 50, 78])))
def b36L3 : AC :=
  .seq (.seq (.reg [⟨some 64, .mv (.t 11), none⟩,
      ⟨some 65, .len false (.t 64), none⟩,
      ⟨some 66, .bin .gtr (.t 65) (.k (.sc (.int .i64 0))), none⟩] [0, 3, 4, 5, 9, 11, 49, 50, 66])
   (.cond (.t 66)
     (.skip)
     (.exit 6)))
  (.block 7 (.seq (.reg [⟨some 67, .mv (.t 11), none⟩,
       ⟨some 68, .mv (.t 11), none⟩,
       ⟨some 69, .len false (.t 68), none⟩,
       ⟨some 70, .bin .sub (.t 69) (.k (.sc (.int .i64 1))), none⟩,
       ⟨some 71, .idxA 1 (.t 67) (.t 70), none⟩,
       ⟨some 72, .ld 1 false (.t 71), none⟩,
       ⟨some 12, .mv (.t 72), none⟩] [0, 3, 4, 5, 9, 11, 12, 49, 50])
    (.seq (.reg [⟨some 73, .mv (.t 11), none⟩,
        ⟨some 74, .mv (.t 11), none⟩,
        ⟨some 75, .len false (.t 74), none⟩,
        ⟨some 76, .bin .sub (.t 75) (.k (.sc (.int .i64 1))), none⟩,
        ⟨some 77, .sl1 (.t 73) none (some (.t 76)), none⟩,
        ⟨some 11, .mv (.t 77), none⟩] [0, 3, 4, 5, 9, 11, 12, 49, 50])
     (.seq (.reg [⟨some 78, .mv (.k (.sc (.int .i64 0))), none⟩] [0, 3, 4, 5, 9, 11, 12, 49, 50, 78])
      (.block 8 (.loop [0, 3, 4, 5, 9, 11, 12, 49, 50, 78] b36L4))))))
def b36L2 : AC :=
  .seq (.reg [⟨some 51, .bin .lss (.t 50) (.t 49), none⟩] [0, 3, 4, 5, 9, 49, 50, 51])
  (.seq (.cond (.t 51)
     (.skip)
     (.exit 4))
   (.seq (.block 5 (.seq (.reg [⟨some 52, .mv (.t 50), none⟩,
         ⟨some 10, .mv (.t 52), none⟩] [0, 3, 4, 5, 9, 10, 49, 50])
      (.seq (.seq (.reg [⟨some 53, .mv (.t 9), none⟩,
           ⟨some 54, .mv (.t 10), none⟩,
           ⟨some 55, .idxA 1 (.t 53) (.t 54), none⟩,
           ⟨some 56, .ld 1 false (.t 55), none⟩] [0, 3, 4, 5, 9, 10, 49, 50, 56])
        (.cond (.t 56)
          (.exit 5)
          (.skip)))
       (.seq (.reg [⟨some 57, .mv (.t 5), none⟩,
           ⟨some 58, .bin .add (.t 57) (.k (.sc (.int .i64 1))), none⟩,
           ⟨some 5, .mv (.t 58), none⟩] [0, 3, 4, 5, 9, 10, 49, 50])
        (.seq (.reg [⟨some 59, .mv (.t 9), none⟩,
            ⟨some 60, .mv (.t 10), none⟩,
            ⟨some 61, .idxA 1 (.t 59) (.t 60), none⟩,
            ⟨none, .st 1 (.t 61) (.k (.sc (.bool true))), none⟩] [0, 3, 4, 5, 9, 10, 49, 50])
         (.seq (.reg [⟨some 62, .mv (.t 10), none⟩,
             ⟨some 63, .bsl 1 [.int .i64 0] 1 [(0, .t 62)], none⟩,
             ⟨some 11, .mv (.t 63), none⟩] [0, 3, 4, 5, 9, 11, 49, 50])
          (.block 6 (.loop [0, 3, 4, 5, 9, 11, 49, 50] b36L3))))))))
    (.reg [⟨some 102, .bin .add (.t 50) (.k (.sc (.int .i64 1))), none⟩,
       ⟨some 50, .mv (.t 102), none⟩] [0, 3, 4, 5, 9, 49, 50])))
/-- unravel/gauss.genus -/
def b36 : AC :=
  .seq (.reg [⟨some 2, .mv (.k (.sc (.int .i64 0))), none⟩] [0])
  (.seq (.reg [⟨some 15, .mv (.t 0), none⟩,
      ⟨some 16, .len false (.t 15), none⟩,
      ⟨some 17, .bin .quo (.t 16) (.k (.sc (.int .i64 4))), none⟩,
      ⟨some 3, .mv (.t 17), none⟩] [0, 3])
   (.seq (.reg [⟨some 4, .mv (.k (.sc (.int .i64 0))), none⟩,
       ⟨some 5, .mv (.k (.sc (.int .i64 0))), none⟩] [0, 3, 4, 5])
    (.seq (.reg [⟨some 18, .mv (.t 0), none⟩,
        ⟨some 19, .len false (.t 18), none⟩,
        ⟨some 20, .mk 1 1 [.bool false] (.t 19) (.t 19), none⟩,
        ⟨some 6, .mv (.t 20), none⟩] [0, 3, 4, 5, 6])
     (.seq (.seq (.reg [⟨some 21, .mv (.t 0), none⟩,
          ⟨some 22, .len false (.t 21), none⟩,
          ⟨some 23, .mv (.k (.sc (.int .i64 0))), none⟩] [0, 3, 4, 5, 6, 22, 23])
       (.block 0 (.loop [0, 3, 4, 5, 6, 22, 23] b36L0)))
      (.seq (.reg [⟨some 47, .mv (.t 3), none⟩,
          ⟨some 48, .mk 1 1 [.bool false] (.t 47) (.t 47), none⟩,
          ⟨some 9, .mv (.t 48), none⟩] [0, 3, 4, 5, 9])
       (.seq (.seq (.reg [⟨some 49, .mv (.t 3), none⟩,
            ⟨some 50, .mv (.k (.sc (.int .i64 0))), none⟩] [0, 3, 4, 5, 9, 49, 50])
         (.block 4 (.loop [0, 3, 4, 5, 9, 49, 50] b36L2)))
        (.seq (.reg [⟨some 103, .mv (.t 5), none⟩,
            ⟨some 104, .bin .mul (.k (.sc (.int .i64 2))) (.t 103), none⟩,
            ⟨some 105, .mv (.t 3), none⟩,
            ⟨some 106, .bin .add (.t 104) (.t 105), none⟩,
            ⟨some 107, .mv (.t 4), none⟩,
            ⟨some 108, .bin .sub (.t 106) (.t 107), none⟩,
            ⟨some 109, .bin .quo (.t 108) (.k (.sc (.int .i64 2))), none⟩,
            ⟨some 2, .mv (.t 109), none⟩] [2])
         (.ret))))))))
def a36 : AFun := ⟨1, b36, [.t 2]⟩

def b37L1 : AC :=
  .seq (.reg [⟨some 27, .bin .lss (.t 26) (.t 25), none⟩] [1, 3, 5, 18, 19, 20, 24, 25, 26, 27])
  (.seq (.cond (.t 27)
     (.skip)
     (.exit 2))
   (.seq (.block 3 (.seq (.reg [⟨some 28, .mv (.t 26), none⟩,
         ⟨some 29, .idxA 2 (.t 24) (.t 26), none⟩,
         ⟨some 30, .ld 2 true (.t 29), none⟩,
         ⟨some 7, .new [.int .i64 0, .bool false], none⟩,
         ⟨some 6, .mv (.t 28), none⟩,
         ⟨none, .st 2 (.t 7) (.t 30), none⟩] [1, 3, 5, 6, 7, 18, 19, 20, 24, 25, 26])
      (.seq (.reg [⟨some 32, .ld 3 true (.t 1), none⟩,
          ⟨some 33, .ld 2 true (.t 7), none⟩,
          ⟨some 34, .call 58 [(.t 32), (.t 33)], none⟩,
          ⟨some 31, .mv (.t 34), none⟩,
          ⟨some 35, .ext (.t 31) 0, none⟩,
          ⟨some 36, .ext (.t 31) 1, none⟩,
          ⟨some 8, .mv (.t 35), none⟩,
          ⟨some 9, .mv (.t 36), none⟩] [1, 3, 5, 6, 9, 18, 19, 20, 24, 25, 26])
       (.seq (.regd [(⟨some 38, .ld 3 true (.t 1), none⟩, 0, false),
           (⟨some 39, .mv (.t 5), none⟩, 1, false),
           (⟨some 40, .mv (.t 6), none⟩, 2, false),
           (⟨some 41, .bin .add (.t 40) (.k (.sc (.int .i64 1))), none⟩, 3, false),
           (⟨some 42, .mv (.t 5), none⟩, 4, false),
           (⟨some 43, .len false (.t 42), none⟩, 5, false),
           (⟨some 44, .bin .rem (.t 41) (.t 43), none⟩, 6, false),
           (⟨some 45, .idxA 2 (.t 39) (.t 44), none⟩, 7, false),
           (⟨some 46, .ld 2 true (.t 45), none⟩, 8, false),
           (⟨some 47, .call 58 [(.t 38), (.t 46)], none⟩, 9, true),
           (⟨some 37, .mv (.t 47), none⟩, 10, false),
           (⟨some 48, .ext (.t 37) 0, none⟩, 11, false),
           (⟨some 49, .ext (.t 37) 1, none⟩, 12, false),
           (⟨some 10, .mv (.t 48), none⟩, 13, false),
           (⟨some 11, .mv (.t 49), none⟩, 14, false)] [1, 3, 5, 9, 10, 18, 19, 20, 24, 25, 26])
        (.seq (.reg [⟨some 50, .mv (.t 3), none⟩,
            ⟨some 51, .mv (.t 9), none⟩,
            ⟨some 52, .mv (.t 10), none⟩,
            ⟨some 53, .idxA 1 (.t 50) (.t 51), none⟩,
            ⟨none, .st 1 (.t 53) (.t 52), none⟩] [1, 3, 5, 9, 10, 18, 19, 20, 24, 25, 26])
         (.reg [⟨some 54, .mv (.t 3), none⟩,
            ⟨some 55, .mv (.t 10), none⟩,
            ⟨some 56, .mv (.t 9), none⟩,
            ⟨some 57, .idxA 1 (.t 54) (.t 55), none⟩,
            ⟨none, .st 1 (.t 57) (.t 56), none⟩] [1, 3, 5, 18, 19, 20, 24, 25, 26]))))))
    (.reg [⟨some 58, .bin .add (.t 26) (.k (.sc (.int .i64 1))), none⟩,
       ⟨some 26, .mv (.t 58), none⟩] [1, 3, 5, 18, 19, 20, 24, 25, 26])))
def b37L0 : AC :=
  .seq (.reg [⟨some 21, .bin .lss (.t 20) (.t 19), none⟩] [1, 3, 18, 19, 20, 21])
  (.seq (.cond (.t 21)
     (.skip)
     (.exit 0))
   (.seq (.block 1 (.seq (.reg [⟨some 22, .idxA 1 (.t 18) (.t 20), none⟩,
         ⟨some 23, .ld 1 false (.t 22), none⟩,
         ⟨some 5, .mv (.t 23), none⟩] [1, 3, 5, 18, 19, 20])
      (.seq (.reg [⟨some 24, .mv (.t 5), none⟩,
          ⟨some 25, .len false (.t 24), none⟩,
          ⟨some 26, .mv (.k (.sc (.int .i64 0))), none⟩] [1, 3, 5, 18, 19, 20, 24, 25, 26])
       (.block 2 (.loop [1, 3, 5, 18, 19, 20, 24, 25, 26] b37L1)))))
    (.reg [⟨some 59, .bin .add (.t 20) (.k (.sc (.int .i64 1))), none⟩,
       ⟨some 20, .mv (.t 59), none⟩] [1, 3, 18, 19, 20])))
/-- unravel/gauss.mates -/
def b37 : AC :=
  .seq (.reg [⟨some 1, .box (.t 0), none⟩,
     ⟨some 2, .mv (.k (.sc .nilS)), none⟩] [1])
  (.seq (.reg [⟨some 12, .fldA 1 (.t 1), none⟩,
      ⟨some 13, .ld 1 false (.t 12), none⟩,
      ⟨some 14, .len false (.t 13), none⟩,
      ⟨some 15, .bin .mul (.k (.sc (.int .i64 4))) (.t 14), none⟩,
      ⟨some 16, .mk 1 8 [.int .i64 0] (.t 15) (.t 15), none⟩,
      ⟨some 3, .mv (.t 16), none⟩] [1, 3])
   (.seq (.seq (.reg [⟨some 17, .fldA 0 (.t 1), none⟩,
        ⟨some 18, .ld 1 false (.t 17), none⟩,
        ⟨some 19, .len false (.t 18), none⟩,
        ⟨some 20, .mv (.k (.sc (.int .i64 0))), none⟩] [1, 3, 18, 19, 20])
     (.block 0 (.loop [1, 3, 18, 19, 20] b37L0)))
    (.seq (.reg [⟨some 60, .mv (.t 3), none⟩,
        ⟨some 2, .mv (.t 60), none⟩] [2])
     (.ret))))
def a37 : AFun := ⟨1, b37, [.t 2]⟩

/-- unravel/diagram.outgoing -/
def b38 : AC :=
  .seq (.reg [⟨some 2, .box (.t 0), none⟩,
     ⟨some 4, .mv (.k (.sc (.bool false))), none⟩] [1, 2])
  (.seq (.seq (.reg [⟨some 5, .mv (.t 1), none⟩,
       ⟨some 6, .bin .rem (.t 5) (.k (.sc (.int .i64 4))), none⟩] [1, 2, 6])
    (.block 0 (.seq (.reg [⟨some 8, .bin .eql (.t 6) (.k (.sc (.int .i64 1))), none⟩,
         ⟨some 7, .mv (.t 8), none⟩] [1, 2, 6, 7])
      (.cond (.t 7)
        (.seq (.reg [⟨some 9, .fldA 0 (.t 2), none⟩,
            ⟨some 10, .ld 1 false (.t 9), none⟩,
            ⟨some 11, .mv (.t 1), none⟩,
            ⟨some 12, .bin .quo (.t 11) (.k (.sc (.int .i64 4))), none⟩,
            ⟨some 13, .idxA 1 (.t 10) (.t 12), none⟩,
            ⟨some 14, .ld 1 false (.t 13), none⟩,
            ⟨some 15, .bin .eql (.t 14) (.k (.sc (.int .i64 1))), none⟩,
            ⟨some 4, .mv (.t 15), none⟩] [4])
         (.ret))
        (.seq (.reg [⟨some 17, .bin .eql (.t 6) (.k (.sc (.int .i64 2))), none⟩,
            ⟨some 16, .mv (.t 17), none⟩] [1, 2, 6, 16])
         (.cond (.t 16)
           (.seq (.reg [⟨some 4, .mv (.k (.sc (.bool true))), none⟩] [4])
            (.ret))
           (.seq (.reg [⟨some 19, .bin .eql (.t 6) (.k (.sc (.int .i64 3))), none⟩,
               ⟨some 18, .mv (.t 19), none⟩] [1, 2, 18])
            (.cond (.t 18)
              (.seq (.reg [⟨some 20, .fldA 0 (.t 2), none⟩,
                  ⟨some 21, .ld 1 false (.t 20), none⟩,
                  ⟨some 22, .mv (.t 1), none⟩,
                  ⟨some 23, .bin .quo (.t 22) (.k (.sc (.int .i64 4))), none⟩,
                  ⟨some 24, .idxA 1 (.t 21) (.t 23), none⟩,
                  ⟨some 25, .ld 1 false (.t 24), none⟩,
                  ⟨some 26, .bin .eql (.t 25) (.k (.sc (.int .i64 (-1)))), none⟩,
                  ⟨some 4, .mv (.t 26), none⟩] [4])
               (.ret))
              (.skip)))))))))
   (.seq (.reg [⟨some 4, .mv (.k (.sc (.bool false))), none⟩] [4])
    (.ret)))
def a38 : AFun := ⟨2, b38, [.t 4]⟩

def b39L0 : AC :=
  .seq (.reg [⟨some 23, .bin .lss (.t 22) (.t 21), none⟩] [1, 3, 5, 20, 21, 22, 23])
  (.seq (.cond (.t 23)
     (.skip)
     (.exit 0))
   (.seq (.block 1 (.seq (.reg [⟨some 24, .idxA 1 (.t 20) (.t 22), none⟩,
         ⟨some 25, .ld 1 false (.t 24), none⟩,
         ⟨some 7, .mv (.t 25), none⟩] [1, 3, 5, 7, 20, 21, 22])
      (.reg [⟨some 26, .mv (.t 5), none⟩,
         ⟨some 27, .mv (.t 7), none⟩,
         ⟨some 28, .idxA 1 (.t 26) (.t 27), none⟩,
         ⟨some 29, .ld 1 false (.t 28), none⟩,
         ⟨some 30, .bin .sub (.t 29) (.k (.sc (.int .i64 1))), none⟩,
         ⟨some 31, .idxA 1 (.t 26) (.t 27), none⟩,
         ⟨none, .st 1 (.t 31) (.t 30), none⟩] [1, 3, 5, 20, 21, 22])))
    (.reg [⟨some 32, .bin .add (.t 22) (.k (.sc (.int .i64 1))), none⟩,
       ⟨some 22, .mv (.t 32), none⟩] [1, 3, 5, 20, 21, 22])))
def b39L2 : AC :=
  .seq (.seq (.reg [⟨some 58, .mv (.t 8), none⟩,
      ⟨some 59, .mv (.t 10), none⟩,
      ⟨some 60, .idxA 1 (.t 58) (.t 59), none⟩,
      ⟨some 61, .ld 1 false (.t 60), none⟩,
      ⟨some 62, .un .not (.t 61), none⟩] [1, 3, 5, 8, 10, 39, 40, 62])
   (.cond (.t 62)
     (.skip)
     (.exit 4)))
  (.seq (.block 5 (.reg [⟨some 69, .mv (.t 8), none⟩,
       ⟨some 70, .mv (.t 10), none⟩,
       ⟨some 71, .idxA 1 (.t 69) (.t 70), none⟩,
       ⟨none, .st 1 (.t 71) (.k (.sc (.bool true))), none⟩] [1, 3, 5, 8, 10, 39, 40]))
   (.reg [⟨some 63, .fldA 1 (.t 1), none⟩,
      ⟨some 64, .ld 1 false (.t 63), none⟩,
      ⟨some 65, .mv (.t 10), none⟩,
      ⟨some 66, .idxA 1 (.t 64) (.t 65), none⟩,
      ⟨some 67, .ld 1 false (.t 66), none⟩,
      ⟨some 68, .call 57 [(.t 67), (.k (.sc (.int .i64 (-1))))], none⟩,
      ⟨some 10, .mv (.t 68), none⟩] [1, 3, 5, 8, 10, 39, 40]))
def b39L1 : AC :=
  .seq (.reg [⟨some 41, .bin .lss (.t 40) (.t 39), none⟩] [1, 3, 5, 8, 39, 40, 41])
  (.seq (.cond (.t 41)
     (.skip)
     (.exit 2))
   (.seq (.block 3 (.seq (.reg [⟨some 42, .mv (.t 40), none⟩,
         ⟨some 9, .mv (.t 42), none⟩] [1, 3, 5, 8, 9, 39, 40])
      (.seq (.seq (.reg [⟨some 43, .mv (.t 8), none⟩,
           ⟨some 44, .mv (.t 9), none⟩,
           ⟨some 45, .idxA 1 (.t 43) (.t 44), none⟩,
           ⟨some 46, .ld 1 false (.t 45), none⟩] [1, 3, 5, 8, 9, 39, 40, 46])
        (.cond (.t 46)
          (.exit 3)
          (.skip)))
       (.seq (.reg [⟨some 47, .mv (.t 5), none⟩,
           ⟨some 48, .mv (.t 3), none⟩,
           ⟨some 49, .mv (.t 9), none⟩,
           ⟨some 50, .bin .quo (.t 49) (.k (.sc (.int .i64 4))), none⟩,
           ⟨some 51, .idxA 1 (.t 48) (.t 50), none⟩,
           ⟨some 52, .ld 1 false (.t 51), none⟩,
           ⟨some 53, .idxA 1 (.t 47) (.t 52), none⟩,
           ⟨some 54, .ld 1 false (.t 53), none⟩,
           ⟨some 55, .bin .add (.t 54) (.k (.sc (.int .i64 1))), none⟩,
           ⟨some 56, .idxA 1 (.t 47) (.t 52), none⟩,
           ⟨none, .st 1 (.t 56) (.t 55), none⟩] [1, 3, 5, 8, 9, 39, 40])
        (.seq (.reg [⟨some 57, .mv (.t 9), none⟩,
            ⟨some 10, .mv (.t 57), none⟩] [1, 3, 5, 8, 10, 39, 40])
         (.block 4 (.loop [1, 3, 5, 8, 10, 39, 40] b39L2)))))))
    (.reg [⟨some 72, .bin .add (.t 40) (.k (.sc (.int .i64 1))), none⟩,
       ⟨some 40, .mv (.t 72), none⟩] [1, 3, 5, 8, 39, 40])))
def b39L3 : AC :=
  .seq (.reg [⟨some 76, .bin .lss (.t 75) (.t 74), none⟩] [73, 74, 75, 76])
  (.seq (.cond (.t 76)
     (.skip)
     (.exit 6))
   (.seq (.block 7 (.seq (.reg [⟨some 77, .idxA 1 (.t 73) (.t 75), none⟩,
         ⟨some 78, .ld 1 false (.t 77), none⟩,
         ⟨some 12, .mv (.t 78), none⟩] [12, 73, 74, 75])
      (.seq (.reg [⟨some 79, .mv (.t 12), none⟩,
          ⟨some 80, .bin .neq (.t 79) (.k (.sc (.int .i64 2))), none⟩] [73, 74, 75, 80])
       (.cond (.t 80)
         (.seq (.reg [⟨some 2, .mv (.k (.sc (.bool false))), none⟩] [2])
          (.ret))
         (.skip)))))
    (.reg [⟨some 81, .bin .add (.t 75) (.k (.sc (.int .i64 1))), none⟩,
       ⟨some 75, .mv (.t 81), none⟩] [73, 74, 75])))
/-- unravel/diagram.spherical -/
def b39 : AC :=
  .seq (.reg [⟨some 1, .box (.t 0), none⟩,
     ⟨some 2, .mv (.k (.sc (.bool false))), none⟩] [1])
  (.seq (.reg [⟨some 14, .ld 3 true (.t 1), none⟩,
      ⟨some 15, .call 59 [(.t 14)], none⟩,
      ⟨some 13, .mv (.t 15), none⟩,
      ⟨some 16, .ext (.t 13) 0, none⟩,
      ⟨some 17, .ext (.t 13) 1, none⟩,
      ⟨some 3, .mv (.t 16), none⟩,
      ⟨some 4, .mv (.t 17), none⟩] [1, 3, 4])
   (.seq (.reg [⟨some 18, .mv (.t 4), none⟩,
       ⟨some 19, .mk 1 8 [.int .i64 0] (.t 18) (.t 18), none⟩,
       ⟨some 5, .mv (.t 19), none⟩] [1, 3, 5])
    (.seq (.seq (.reg [⟨some 20, .mv (.t 3), none⟩,
         ⟨some 21, .len false (.t 20), none⟩,
         ⟨some 22, .mv (.k (.sc (.int .i64 0))), none⟩] [1, 3, 5, 20, 21, 22])
      (.block 0 (.loop [1, 3, 5, 20, 21, 22] b39L0)))
     (.seq (.reg [⟨some 33, .fldA 1 (.t 1), none⟩,
         ⟨some 34, .ld 1 false (.t 33), none⟩,
         ⟨some 35, .len false (.t 34), none⟩,
         ⟨some 36, .mk 1 1 [.bool false] (.t 35) (.t 35), none⟩,
         ⟨some 8, .mv (.t 36), none⟩] [1, 3, 5, 8])
      (.seq (.seq (.reg [⟨some 37, .fldA 1 (.t 1), none⟩,
           ⟨some 38, .ld 1 false (.t 37), none⟩,
           ⟨some 39, .len false (.t 38), none⟩,
           ⟨some 40, .mv (.k (.sc (.int .i64 0))), none⟩] [1, 3, 5, 8, 39, 40])
        (.block 2 (.loop [1, 3, 5, 8, 39, 40] b39L1)))
       (.seq (.seq (.reg [⟨some 73, .mv (.t 5), none⟩,
            ⟨some 74, .len false (.t 73), none⟩,
            ⟨some 75, .mv (.k (.sc (.int .i64 0))), none⟩] [73, 74, 75])
         (.block 6 (.loop [73, 74, 75] b39L3)))
        (.seq (.reg [⟨some 2, .mv (.k (.sc (.bool true))), none⟩] [2])
         (.ret))))))))
def a39 : AFun := ⟨1, b39, [.t 2]⟩

/-- (*strings.Builder).WriteByte -/
def b44 : AC :=
  .seq (.reg [⟨some 4, .mv (.k (.sc .nilI)), none⟩] [0, 1])
  (.seq (.reg [⟨some 5, .mv (.t 0), none⟩,
      ⟨some 6, .call 60 [(.t 5)], none⟩] [0, 1])
   (.seq (.reg [⟨some 7, .mv (.t 0), none⟩,
       ⟨some 8, .mv (.t 0), none⟩,
       ⟨some 9, .nilc (.t 8), none⟩,
       ⟨some 10, .fldA 1 (.t 9), none⟩,
       ⟨some 11, .ld 1 false (.t 10), none⟩,
       ⟨some 12, .mv (.t 1), none⟩,
       ⟨some 13, .bsl ⟨1, some 5⟩ [.int .u8 0] 1 [(0, .t 12)], none⟩,
       ⟨some 14, .app ⟨1, some 5⟩ 1 [.int .u8 0] (.t 11) (.t 13), none⟩,
       ⟨some 15, .nilc (.t 7), none⟩,
       ⟨some 16, .fldA 1 (.t 15), none⟩,
       ⟨none, .st 1 (.t 16) (.t 14), none⟩] [])
    (.seq (.reg [⟨some 4, .mv (.k (.sc .nilI)), none⟩] [4])
     (.ret))))
def a44 : AFun := ⟨2, b44, [.t 4]⟩

/-- (*strings.Builder).WriteString -/
def b45 : AC :=
  .seq (.reg [⟨some 4, .mv (.k (.sc (.int .i64 0))), none⟩,
     ⟨some 5, .mv (.k (.sc .nilI)), none⟩] [0, 1])
  (.seq (.reg [⟨some 6, .mv (.t 0), none⟩,
      ⟨some 7, .call 60 [(.t 6)], none⟩] [0, 1])
   (.seq (.reg [⟨some 8, .mv (.t 0), none⟩,
       ⟨some 9, .mv (.t 0), none⟩,
       ⟨some 10, .nilc (.t 9), none⟩,
       ⟨some 11, .fldA 1 (.t 10), none⟩,
       ⟨some 12, .ld 1 false (.t 11), none⟩,
       ⟨some 13, .mv (.t 1), none⟩,
       ⟨some 14, .app ⟨1, some 5⟩ 1 [.int .u8 0] (.t 12) (.t 13), none⟩,
       ⟨some 15, .nilc (.t 8), none⟩,
       ⟨some 16, .fldA 1 (.t 15), none⟩,
       ⟨none, .st 1 (.t 16) (.t 14), none⟩] [1])
    (.seq (.reg [⟨some 17, .mv (.t 1), none⟩,
        ⟨some 18, .len true (.t 17), none⟩,
        ⟨some 4, .mv (.t 18), none⟩,
        ⟨some 5, .mv (.k (.sc .nilI)), none⟩] [4, 5])
     (.ret))))
def a45 : AFun := ⟨2, b45, [.t 4, .t 5]⟩

/-- (*strings.Builder).String -/
def b47 : AC :=
  .seq (.reg [⟨some 2, .mv (.k (.sc (.str ⟨#[]⟩))), none⟩] [0])
  (.seq (.regd [(⟨some 3, .mv (.t 0), none⟩, 0, false),
      (⟨some 4, .nilc (.t 3), none⟩, 1, false),
      (⟨some 5, .fldA 1 (.t 4), none⟩, 2, false),
      (⟨some 6, .ld 1 false (.t 5), none⟩, 3, false),
      (⟨some 7, .usd (.t 6), none⟩, 4, false),
      (⟨some 8, .mv (.t 0), none⟩, 5, false),
      (⟨some 9, .nilc (.t 8), none⟩, 6, false),
      (⟨some 10, .fldA 1 (.t 9), none⟩, 7, false),
      (⟨some 11, .ld 1 false (.t 10), none⟩, 8, false),
      (⟨some 12, .len false (.t 11), none⟩, 9, false),
      (⟨some 13, .ustr 5 (.t 7) (.t 12), none⟩, 10, true),
      (⟨some 2, .mv (.t 13), none⟩, 11, false)] [2])
   (.ret))
def a47 : AFun := ⟨1, b47, [.t 2]⟩

def b50L1 : AC :=
  .seq (.seq (.reg [⟨some 23, .mv (.t 7), none⟩,
      ⟨some 24, .mv (.t 0), none⟩,
      ⟨some 25, .len true (.t 24), none⟩,
      ⟨some 26, .bin .lss (.t 23) (.t 25), none⟩,
      ⟨some 27, .mv (.t 26), none⟩,
      ⟨some 28, .mv (.t 0), (some (27, true))⟩,
      ⟨some 29, .mv (.t 7), (some (27, true))⟩,
      ⟨some 30, .idxS (.t 28) (.t 29), (some (27, true))⟩,
      ⟨some 31, .bin .geq (.t 30) (.k (.sc (.int .u8 48))), (some (27, true))⟩,
      ⟨some 32, .pick (.t 27) (.t 31) (.k (.sc (.bool false))), none⟩,
      ⟨some 33, .mv (.t 32), none⟩,
      ⟨some 34, .mv (.t 0), (some (33, true))⟩,
      ⟨some 35, .mv (.t 7), (some (33, true))⟩,
      ⟨some 36, .idxS (.t 34) (.t 35), (some (33, true))⟩,
      ⟨some 37, .bin .leq (.t 36) (.k (.sc (.int .u8 57))), (some (33, true))⟩,
      ⟨some 38, .pick (.t 33) (.t 37) (.k (.sc (.bool false))), none⟩] [0, 1, 6, 7, 8, 9, 38])
   (.cond (.t 38)
     (.skip)
     (.exit 2)))
  (.block 3 (.reg [⟨some 39, .mv (.t 7), none⟩,
      ⟨some 40, .bin .add (.t 39) (.k (.sc (.int .i64 1))), none⟩,
      ⟨some 7, .mv (.t 40), none⟩] [0, 1, 6, 7, 8, 9]))
def b50L0 : AC :=
  .seq (.seq (.reg [⟨some 13, .mv (.t 7), none⟩,
      ⟨some 14, .mv (.t 0), none⟩,
      ⟨some 15, .len true (.t 14), none⟩,
      ⟨some 16, .bin .lss (.t 13) (.t 15), none⟩] [0, 1, 6, 7, 16])
   (.cond (.t 16)
     (.skip)
     (.exit 0)))
  (.block 1 (.seq (.reg [⟨some 17, .mv (.t 0), none⟩,
       ⟨some 18, .mv (.t 7), none⟩,
       ⟨some 19, .idxS (.t 17) (.t 18), none⟩,
       ⟨some 8, .mv (.t 19), none⟩] [0, 1, 6, 7, 8])
    (.seq (.reg [⟨some 20, .mv (.t 7), none⟩,
        ⟨some 21, .bin .add (.t 20) (.k (.sc (.int .i64 1))), none⟩,
        ⟨some 7, .mv (.t 21), none⟩] [0, 1, 6, 7, 8])
     (.seq (.reg [⟨some 22, .mv (.t 7), none⟩,
         ⟨some 9, .mv (.t 22), none⟩] [0, 1, 6, 7, 8, 9])
      (.seq (.block 2 (.loop [0, 1, 6, 7, 8, 9] b50L1))
       (.seq (.reg [⟨some 42, .mv (.t 0), none⟩,
           ⟨some 43, .mv (.t 9), none⟩,
           ⟨some 44, .mv (.t 7), none⟩,
           ⟨some 45, .slS (.t 42) (some (.t 43)) (some (.t 44)), none⟩,
           ⟨some 46, .call 65 [(.t 45)], none⟩,
           ⟨some 41, .mv (.t 46), none⟩,
           ⟨some 47, .ext (.t 41) 0, none⟩,
           ⟨some 48, .ext (.t 41) 1, none⟩,
           ⟨some 10, .mv (.t 47), none⟩,
           ⟨some 11, .mv (.t 48), none⟩] [0, 1, 6, 7, 8, 10, 11])
        (.seq (.seq (.reg [⟨some 49, .mv (.t 8), none⟩,
             ⟨some 50, .bin .neq (.t 49) (.k (.sc (.int .u8 79))), none⟩,
             ⟨some 51, .mv (.t 50), none⟩,
             ⟨some 52, .mv (.t 8), (some (51, true))⟩,
             ⟨some 53, .bin .neq (.t 52) (.k (.sc (.int .u8 85))), (some (51, true))⟩,
             ⟨some 54, .pick (.t 51) (.t 53) (.k (.sc (.bool false))), none⟩,
             ⟨some 55, .mv (.t 54), none⟩,
             ⟨some 56, .mv (.t 11), (some (55, false))⟩,
             ⟨some 57, .isnil 3 true (.t 56), (some (55, false))⟩,
             ⟨some 58, .pick (.t 55) (.k (.sc (.bool true))) (.t 57), none⟩,
             ⟨some 59, .mv (.t 58), none⟩,
             ⟨some 60, .mv (.t 10), (some (59, false))⟩,
             ⟨some 61, .bin .lss (.t 60) (.k (.sc (.int .i64 1))), (some (59, false))⟩,
             ⟨some 62, .pick (.t 59) (.k (.sc (.bool true))) (.t 61), none⟩,
             ⟨some 63, .mv (.t 62), none⟩,
             ⟨some 64, .mv (.t 10), (some (63, false))⟩,
             ⟨some 65, .mv (.t 1), (some (63, false))⟩,
             ⟨some 66, .len false (.t 65), (some (63, false))⟩,
             ⟨some 67, .bin .gtr (.t 64) (.t 66), (some (63, false))⟩,
             ⟨some 68, .pick (.t 63) (.k (.sc (.bool true))) (.t 67), none⟩,
             ⟨some 69, .mv (.t 68), none⟩,
             ⟨some 70, .mv (.t 7), (some (69, false))⟩,
             ⟨some 71, .mv (.t 0), (some (69, false))⟩,
             ⟨some 72, .len true (.t 71), (some (69, false))⟩,
             ⟨some 73, .bin .eql (.t 70) (.t 72), (some (69, false))⟩,
             ⟨some 74, .pick (.t 69) (.k (.sc (.bool true))) (.t 73), none⟩] [0, 1, 6, 7, 8, 10, 74])
          (.cond (.t 74)
            (.seq (.reg [⟨some 4, .mv (.k (.sc .nilS)), none⟩,
                ⟨some 5, .mv (.k (.sc (.bool false))), none⟩] [4, 5])
             (.ret))
            (.skip)))
         (.seq (.reg [⟨some 12, .mv (.k (.sc (.int .i64 0))), none⟩] [0, 1, 6, 7, 8, 10, 12])
          (.seq (.seq (.reg [⟨some 75, .mv (.t 0), none⟩,
               ⟨some 76, .mv (.t 7), none⟩,
               ⟨some 77, .idxS (.t 75) (.t 76), none⟩] [0, 1, 6, 7, 8, 10, 12, 77])
            (.block 4 (.seq (.reg [⟨some 79, .bin .eql (.t 77) (.k (.sc (.int .u8 43))), none⟩,
                 ⟨some 78, .mv (.t 79), none⟩] [0, 1, 6, 7, 8, 10, 12, 77, 78])
              (.cond (.t 78)
                (.reg [⟨some 12, .mv (.k (.sc (.int .i64 1))), none⟩] [0, 1, 6, 7, 8, 10, 12])
                (.seq (.reg [⟨some 81, .bin .eql (.t 77) (.k (.sc (.int .u8 45))), none⟩,
                    ⟨some 80, .mv (.t 81), none⟩] [0, 1, 6, 7, 8, 10, 12, 80])
                 (.cond (.t 80)
                   (.reg [⟨some 12, .mv (.k (.sc (.int .i64 (-1)))), none⟩] [0, 1, 6, 7, 8, 10, 12])
                   (.skip)))))))
           (.seq (.reg [⟨some 82, .mv (.t 7), none⟩,
               ⟨some 83, .bin .add (.t 82) (.k (.sc (.int .i64 1))), none⟩,
               ⟨some 7, .mv (.t 83), none⟩] [0, 1, 6, 7, 8, 10, 12])
            (.seq (.seq (.reg [⟨some 84, .mv (.t 12), none⟩,
                 ⟨some 85, .bin .eql (.t 84) (.k (.sc (.int .i64 0))), none⟩,
                 ⟨some 86, .mv (.t 85), none⟩,
                 ⟨some 87, .mv (.t 1), (some (86, false))⟩,
                 ⟨some 88, .mv (.t 10), (some (86, false))⟩,
                 ⟨some 89, .bin .sub (.t 88) (.k (.sc (.int .i64 1))), (some (86, false))⟩,
                 ⟨some 90, .idxA 1 (.t 87) (.t 89), (some (86, false))⟩,
                 ⟨some 91, .ld 1 false (.t 90), (some (86, false))⟩,
                 ⟨some 92, .mv (.t 12), (some (86, false))⟩,
                 ⟨some 93, .un .neg (.t 92), (some (86, false))⟩,
                 ⟨some 94, .bin .eql (.t 91) (.t 93), (some (86, false))⟩,
                 ⟨some 95, .pick (.t 86) (.k (.sc (.bool true))) (.t 94), none⟩] [0, 1, 6, 7, 8, 10, 12, 95])
              (.cond (.t 95)
                (.seq (.reg [⟨some 4, .mv (.k (.sc .nilS)), none⟩,
                    ⟨some 5, .mv (.k (.sc (.bool false))), none⟩] [4, 5])
                 (.ret))
                (.skip)))
             (.seq (.reg [⟨some 96, .mv (.t 1), none⟩,
                 ⟨some 97, .mv (.t 10), none⟩,
                 ⟨some 98, .bin .sub (.t 97) (.k (.sc (.int .i64 1))), none⟩,
                 ⟨some 99, .mv (.t 12), none⟩,
                 ⟨some 100, .idxA 1 (.t 96) (.t 98), none⟩,
                 ⟨none, .st 1 (.t 100) (.t 99), none⟩] [0, 1, 6, 7, 8, 10])
              (.reg [⟨some 101, .mv (.t 6), none⟩,
                 ⟨some 102, .mv (.t 10), none⟩,
                 ⟨some 103, .bin .sub (.t 102) (.k (.sc (.int .i64 1))), none⟩,
                 ⟨some 104, .mv (.t 8), none⟩,
                 ⟨some 105, .bin .eql (.t 104) (.k (.sc (.int .u8 79))), none⟩,
                 ⟨some 106, .bld [.int .i64 0, .bool false] [(0, 1, .t 103), (1, 1, .t 105)], none⟩,
                 ⟨some 107, .bsl 2 [.int .i64 0, .bool false] 1 [(0, .t 106)], none⟩,
                 ⟨some 108, .app 2 16 [.int .i64 0, .bool false] (.t 101) (.t 107), none⟩,
                 ⟨some 6, .mv (.t 108), none⟩] [0, 1, 6, 7])))))))))))))
/-- unravel/gauss.sequence -/
def b50 : AC :=
  .seq (.reg [⟨some 4, .mv (.k (.sc .nilS)), none⟩,
     ⟨some 5, .mv (.k (.sc (.bool false))), none⟩] [0, 1])
  (.seq (.reg [⟨some 6, .mv (.k (.sc .nilS)), none⟩] [0, 1, 6])
   (.seq (.seq (.reg [⟨some 7, .mv (.k (.sc (.int .i64 0))), none⟩] [0, 1, 6, 7])
     (.block 0 (.loop [0, 1, 6, 7] b50L0)))
    (.seq (.reg [⟨some 109, .mv (.t 6), none⟩,
        ⟨some 4, .mv (.t 109), none⟩,
        ⟨some 5, .mv (.k (.sc (.bool true))), none⟩] [4, 5])
     (.ret))))
def a50 : AFun := ⟨2, b50, [.t 4, .t 5]⟩

/-- unravel/diagram.Strands$1 -/
def b51 : AC :=
  .seq (.reg [⟨some 3, .mv (.k (.sc (.bool false))), none⟩] [0, 1])
  (.seq (.reg [⟨some 4, .ld 3 true (.t 1), none⟩,
      ⟨some 5, .mv (.t 0), none⟩,
      ⟨some 6, .call 38 [(.t 4), (.t 5)], none⟩,
      ⟨some 3, .mv (.t 6), none⟩] [3])
   (.ret))
def a51 : AFun := ⟨2, b51, [.t 3]⟩

def b52L1 : AC :=
  .seq (.reg [⟨some 35, .bin .lss (.t 34) (.t 33), none⟩] [1, 2, 7, 8, 10, 15, 16, 32, 33, 34, 35])
  (.seq (.cond (.t 35)
     (.skip)
     (.exit 2))
   (.seq (.block 3 (.seq (.reg [⟨some 36, .idxA 1 (.t 32) (.t 34), none⟩,
         ⟨some 37, .ld 1 false (.t 36), none⟩,
         ⟨some 12, .mv (.t 37), none⟩] [1, 2, 7, 8, 10, 12, 15, 16, 32, 33, 34])
      (.reg [⟨some 38, .mv (.t 8), none⟩,
         ⟨some 39, .mv (.t 12), none⟩,
         ⟨some 40, .idxA 1 (.t 38) (.t 39), none⟩,
         ⟨none, .st 1 (.t 40) (.k (.sc (.bool true))), none⟩] [1, 2, 7, 8, 10, 15, 16, 32, 33, 34])))
    (.reg [⟨some 41, .bin .add (.t 34) (.k (.sc (.int .i64 1))), none⟩,
       ⟨some 34, .mv (.t 41), none⟩] [1, 2, 7, 8, 10, 15, 16, 32, 33, 34])))
def b52L0 : AC :=
  .seq (.reg [⟨some 17, .bin .lss (.t 16) (.t 15), none⟩] [1, 2, 7, 8, 15, 16, 17])
  (.seq (.cond (.t 17)
     (.skip)
     (.exit 0))
   (.seq (.block 1 (.seq (.reg [⟨some 18, .mv (.t 16), none⟩,
         ⟨some 9, .mv (.t 18), none⟩] [1, 2, 7, 8, 9, 15, 16])
      (.seq (.seq (.reg [⟨some 19, .mv (.t 8), none⟩,
           ⟨some 20, .mv (.t 9), none⟩,
           ⟨some 21, .idxA 1 (.t 19) (.t 20), none⟩,
           ⟨some 22, .ld 1 false (.t 21), none⟩,
           ⟨some 23, .mv (.t 22), none⟩,
           ⟨some 24, .mv (.t 1), (some (23, false))⟩,
           ⟨some 25, .mv (.t 9), (some (23, false))⟩,
           ⟨some 26, .callv (.t 24) [(.t 25)], (some (23, false))⟩,
           ⟨some 27, .un .not (.t 26), (some (23, false))⟩,
           ⟨some 28, .pick (.t 23) (.k (.sc (.bool true))) (.t 27), none⟩] [1, 2, 7, 8, 9, 15, 16, 28])
        (.cond (.t 28)
          (.exit 1)
          (.skip)))
       (.seq (.reg [⟨some 29, .mv (.t 9), none⟩,
           ⟨some 30, .mv (.t 2), none⟩,
           ⟨some 31, .call 66 [(.t 29), (.t 30)], none⟩,
           ⟨some 10, .mv (.t 31), none⟩] [1, 2, 7, 8, 10, 15, 16])
        (.seq (.seq (.reg [⟨some 32, .mv (.t 10), none⟩,
             ⟨some 33, .len false (.t 32), none⟩,
             ⟨some 34, .mv (.k (.sc (.int .i64 0))), none⟩] [1, 2, 7, 8, 10, 15, 16, 32, 33, 34])
          (.block 2 (.loop [1, 2, 7, 8, 10, 15, 16, 32, 33, 34] b52L1)))
         (.reg [⟨some 42, .mv (.t 7), none⟩,
            ⟨some 43, .mv (.t 10), none⟩,
            ⟨some 44, .bsl 1 [.nilS] 1 [(0, .t 43)], none⟩,
            ⟨some 45, .app 1 24 [.nilS] (.t 42) (.t 44), none⟩,
            ⟨some 7, .mv (.t 45), none⟩] [1, 2, 7, 8, 15, 16]))))))
    (.reg [⟨some 46, .bin .add (.t 16) (.k (.sc (.int .i64 1))), none⟩,
       ⟨some 16, .mv (.t 46), none⟩] [1, 2, 7, 8, 15, 16])))
/-- unravel/diagram.cycles -/
def b52 : AC :=
  .seq (.reg [⟨some 6, .mv (.k (.sc .nilS)), none⟩] [0, 1, 2])
  (.seq (.reg [⟨some 7, .mv (.k (.sc .nilS)), none⟩] [0, 1, 2, 7])
   (.seq (.reg [⟨some 13, .mv (.t 0), none⟩,
       ⟨some 14, .mk 1 1 [.bool false] (.t 13) (.t 13), none⟩,
       ⟨some 8, .mv (.t 14), none⟩] [0, 1, 2, 7, 8])
    (.seq (.seq (.reg [⟨some 15, .mv (.t 0), none⟩,
         ⟨some 16, .mv (.k (.sc (.int .i64 0))), none⟩] [1, 2, 7, 8, 15, 16])
      (.block 0 (.loop [1, 2, 7, 8, 15, 16] b52L0)))
     (.seq (.reg [⟨some 47, .mv (.t 7), none⟩,
         ⟨some 6, .mv (.t 47), none⟩] [6])
      (.ret)))))
def a52 : AFun := ⟨3, b52, [.t 6]⟩

/-- unravel/diagram.Strands$2 -/
def b53 : AC :=
  .seq (.reg [⟨some 3, .mv (.k (.sc (.int .i64 0))), none⟩] [0, 1])
  (.seq (.reg [⟨some 4, .fldA 1 (.t 1), none⟩,
      ⟨some 5, .ld 1 false (.t 4), none⟩,
      ⟨some 6, .mv (.t 0), none⟩,
      ⟨some 7, .idxA 1 (.t 5) (.t 6), none⟩,
      ⟨some 8, .ld 1 false (.t 7), none⟩,
      ⟨some 9, .call 54 [(.t 8)], none⟩,
      ⟨some 3, .mv (.t 9), none⟩] [3])
   (.ret))
def a53 : AFun := ⟨2, b53, [.t 3]⟩

/-- unravel/diagram.Opposite -/
def b54 : AC :=
  .seq (.reg [⟨some 2, .mv (.k (.sc (.int .i64 0))), none⟩] [0])
  (.seq (.reg [⟨some 3, .mv (.t 0), none⟩,
      ⟨some 4, .call 57 [(.t 3), (.k (.sc (.int .i64 2)))], none⟩,
      ⟨some 2, .mv (.t 4), none⟩] [2])
   (.ret))
def a54 : AFun := ⟨1, b54, [.t 2]⟩

/-- unravel/diagram.Turn -/
def b57 : AC :=
  .seq (.reg [⟨some 4, .mv (.k (.sc (.int .i64 0))), none⟩] [0, 1])
  (.seq (.seq (.reg [⟨some 5, .mv (.t 0), none⟩,
       ⟨some 6, .bin .lss (.t 5) (.k (.sc (.int .i64 0))), none⟩] [0, 1, 6])
    (.cond (.t 6)
      (.seq (.reg [⟨some 4, .mv (.k (.sc (.int .i64 (-1)))), none⟩] [4])
       (.ret))
      (.skip)))
   (.seq (.reg [⟨some 7, .mv (.t 0), none⟩,
       ⟨some 8, .mv (.t 0), none⟩,
       ⟨some 9, .bin .rem (.t 8) (.k (.sc (.int .i64 4))), none⟩,
       ⟨some 10, .bin .sub (.t 7) (.t 9), none⟩,
       ⟨some 11, .mv (.t 0), none⟩,
       ⟨some 12, .bin .rem (.t 11) (.k (.sc (.int .i64 4))), none⟩,
       ⟨some 13, .mv (.t 1), none⟩,
       ⟨some 14, .bin .rem (.t 13) (.k (.sc (.int .i64 4))), none⟩,
       ⟨some 15, .bin .add (.t 12) (.t 14), none⟩,
       ⟨some 16, .bin .add (.t 15) (.k (.sc (.int .i64 4))), none⟩,
       ⟨some 17, .bin .rem (.t 16) (.k (.sc (.int .i64 4))), none⟩,
       ⟨some 18, .bin .add (.t 10) (.t 17), none⟩,
       ⟨some 4, .mv (.t 18), none⟩] [4])
    (.ret)))
def a57 : AFun := ⟨2, b57, [.t 4]⟩

/-- unravel/gauss.ends -/
def b58 : AC :=
  .seq (.reg [⟨some 2, .box (.t 0), none⟩,
     ⟨some 3, .box (.t 1), none⟩,
     ⟨some 4, .mv (.k (.sc (.int .i64 0))), none⟩,
     ⟨some 5, .mv (.k (.sc (.int .i64 0))), none⟩] [2, 3])
  (.seq (.reg [⟨some 7, .fldA 0 (.t 3), none⟩,
      ⟨some 8, .ld 1 false (.t 7), none⟩,
      ⟨some 9, .bin .mul (.k (.sc (.int .i64 4))) (.t 8), none⟩,
      ⟨some 6, .mv (.t 9), none⟩] [2, 3, 6])
   (.seq (.block 0 (.seq (.reg [⟨some 11, .fldA 1 (.t 3), none⟩,
         ⟨some 12, .ld 1 false (.t 11), none⟩,
         ⟨some 13, .un .not (.t 12), none⟩,
         ⟨some 10, .mv (.t 13), none⟩] [2, 3, 6, 10])
      (.cond (.t 10)
        (.seq (.reg [⟨some 14, .mv (.t 6), none⟩,
            ⟨some 15, .mv (.t 6), none⟩,
            ⟨some 16, .bin .add (.t 15) (.k (.sc (.int .i64 2))), none⟩,
            ⟨some 4, .mv (.t 14), none⟩,
            ⟨some 5, .mv (.t 16), none⟩] [4, 5])
         (.ret))
        (.seq (.reg [⟨some 18, .fldA 1 (.t 2), none⟩,
            ⟨some 19, .ld 1 false (.t 18), none⟩,
            ⟨some 20, .fldA 0 (.t 3), none⟩,
            ⟨some 21, .ld 1 false (.t 20), none⟩,
            ⟨some 22, .idxA 1 (.t 19) (.t 21), none⟩,
            ⟨some 23, .ld 1 false (.t 22), none⟩,
            ⟨some 24, .bin .eql (.t 23) (.k (.sc (.int .i64 1))), none⟩,
            ⟨some 17, .mv (.t 24), none⟩] [6, 17])
         (.cond (.t 17)
           (.seq (.reg [⟨some 25, .mv (.t 6), none⟩,
               ⟨some 26, .bin .add (.t 25) (.k (.sc (.int .i64 3))), none⟩,
               ⟨some 27, .mv (.t 6), none⟩,
               ⟨some 28, .bin .add (.t 27) (.k (.sc (.int .i64 1))), none⟩,
               ⟨some 4, .mv (.t 26), none⟩,
               ⟨some 5, .mv (.t 28), none⟩] [4, 5])
            (.ret))
           (.skip))))))
    (.seq (.reg [⟨some 29, .mv (.t 6), none⟩,
        ⟨some 30, .bin .add (.t 29) (.k (.sc (.int .i64 1))), none⟩,
        ⟨some 31, .mv (.t 6), none⟩,
        ⟨some 32, .bin .add (.t 31) (.k (.sc (.int .i64 3))), none⟩,
        ⟨some 4, .mv (.t 30), none⟩,
        ⟨some 5, .mv (.t 32), none⟩] [4, 5])
     (.ret))))
def a58 : AFun := ⟨2, b58, [.t 4, .t 5]⟩

def b59L0 : AC :=
  .seq (.reg [⟨some 19, .bin .lss (.t 18) (.t 17), none⟩] [1, 4, 17, 18, 19])
  (.seq (.cond (.t 19)
     (.skip)
     (.exit 0))
   (.seq (.block 1 (.seq (.reg [⟨some 20, .mv (.t 18), none⟩,
         ⟨some 5, .mv (.t 20), none⟩] [1, 4, 5, 17, 18])
      (.reg [⟨some 21, .mv (.t 4), none⟩,
         ⟨some 22, .mv (.t 5), none⟩,
         ⟨some 23, .idxA 1 (.t 21) (.t 22), none⟩,
         ⟨none, .st 1 (.t 23) (.k (.sc (.int .i64 (-1)))), none⟩] [1, 4, 17, 18])))
    (.reg [⟨some 24, .bin .add (.t 18) (.k (.sc (.int .i64 1))), none⟩,
       ⟨some 18, .mv (.t 24), none⟩] [1, 4, 17, 18])))
def b59L3 : AC :=
  .seq (.reg [⟨some 50, .bin .lss (.t 49) (.k (.sc (.int .i64 4))), none⟩] [1, 4, 6, 8, 9, 26, 27, 49, 50])
  (.seq (.cond (.t 50)
     (.skip)
     (.exit 6))
   (.seq (.block 7 (.seq (.reg [⟨some 51, .mv (.t 49), none⟩,
         ⟨some 10, .mv (.t 51), none⟩] [1, 4, 6, 8, 9, 10, 26, 27, 49])
      (.seq (.reg [⟨some 52, .fldA 1 (.t 1), none⟩,
          ⟨some 53, .ld 1 false (.t 52), none⟩,
          ⟨some 54, .mv (.t 9), none⟩,
          ⟨some 55, .bin .mul (.k (.sc (.int .i64 4))) (.t 54), none⟩,
          ⟨some 56, .mv (.t 10), none⟩,
          ⟨some 57, .bin .add (.t 55) (.t 56), none⟩,
          ⟨some 58, .idxA 1 (.t 53) (.t 57), none⟩,
          ⟨some 59, .ld 1 false (.t 58), none⟩,
          ⟨some 60, .bin .quo (.t 59) (.k (.sc (.int .i64 4))), none⟩,
          ⟨some 11, .mv (.t 60), none⟩] [1, 4, 6, 8, 9, 11, 26, 27, 49])
       (.seq (.reg [⟨some 61, .mv (.t 4), none⟩,
           ⟨some 62, .mv (.t 11), none⟩,
           ⟨some 63, .idxA 1 (.t 61) (.t 62), none⟩,
           ⟨some 64, .ld 1 false (.t 63), none⟩,
           ⟨some 65, .bin .lss (.t 64) (.k (.sc (.int .i64 0))), none⟩] [1, 4, 6, 8, 9, 11, 26, 27, 49, 65])
        (.cond (.t 65)
          (.seq (.reg [⟨some 66, .mv (.t 4), none⟩,
              ⟨some 67, .mv (.t 11), none⟩,
              ⟨some 68, .mv (.t 6), none⟩,
              ⟨some 69, .idxA 1 (.t 66) (.t 67), none⟩,
              ⟨none, .st 1 (.t 69) (.t 68), none⟩] [1, 4, 6, 8, 9, 11, 26, 27, 49])
           (.reg [⟨some 70, .mv (.t 8), none⟩,
              ⟨some 71, .mv (.t 11), none⟩,
              ⟨some 72, .bsl 1 [.int .i64 0] 1 [(0, .t 71)], none⟩,
              ⟨some 73, .app 1 8 [.int .i64 0] (.t 70) (.t 72), none⟩,
              ⟨some 8, .mv (.t 73), none⟩] [1, 4, 6, 8, 9, 26, 27, 49]))
          (.skip))))))
    (.reg [⟨some 74, .bin .add (.t 49) (.k (.sc (.int .i64 1))), none⟩,
       ⟨some 49, .mv (.t 74), none⟩] [1, 4, 6, 8, 9, 26, 27, 49])))
def b59L2 : AC :=
  .seq (.seq (.reg [⟨some 41, .mv (.t 8), none⟩,
      ⟨some 42, .len false (.t 41), none⟩,
      ⟨some 43, .bin .gtr (.t 42) (.k (.sc (.int .i64 0))), none⟩] [1, 4, 6, 8, 26, 27, 43])
   (.cond (.t 43)
     (.skip)
     (.exit 4)))
  (.block 5 (.seq (.reg [⟨some 44, .mv (.t 8), none⟩,
       ⟨some 45, .idxA 1 (.t 44) (.k (.sc (.int .i64 0))), none⟩,
       ⟨some 46, .ld 1 false (.t 45), none⟩,
       ⟨some 9, .mv (.t 46), none⟩] [1, 4, 6, 8, 9, 26, 27])
    (.seq (.reg [⟨some 47, .mv (.t 8), none⟩,
        ⟨some 48, .sl1 (.t 47) (some (.k (.sc (.int .i64 1)))) none, none⟩,
        ⟨some 8, .mv (.t 48), none⟩] [1, 4, 6, 8, 9, 26, 27])
     (.seq (.reg [⟨some 49, .mv (.k (.sc (.int .i64 0))), none⟩] [1, 4, 6, 8, 9, 26, 27, 49])
      (.block 6 (.loop [1, 4, 6, 8, 9, 26, 27, 49] b59L3))))))
def b59L1 : AC :=
  .seq (.reg [⟨some 28, .bin .lss (.t 27) (.t 26), none⟩] [1, 4, 6, 26, 27, 28])
  (.seq (.cond (.t 28)
     (.skip)
     (.exit 2))
   (.seq (.block 3 (.seq (.reg [⟨some 29, .mv (.t 27), none⟩,
         ⟨some 7, .mv (.t 29), none⟩] [1, 4, 6, 7, 26, 27])
      (.seq (.seq (.reg [⟨some 30, .mv (.t 4), none⟩,
           ⟨some 31, .mv (.t 7), none⟩,
           ⟨some 32, .idxA 1 (.t 30) (.t 31), none⟩,
           ⟨some 33, .ld 1 false (.t 32), none⟩,
           ⟨some 34, .bin .geq (.t 33) (.k (.sc (.int .i64 0))), none⟩] [1, 4, 6, 7, 26, 27, 34])
        (.cond (.t 34)
          (.exit 3)
          (.skip)))
       (.seq (.reg [⟨some 35, .mv (.t 4), none⟩,
           ⟨some 36, .mv (.t 7), none⟩,
           ⟨some 37, .mv (.t 6), none⟩,
           ⟨some 38, .idxA 1 (.t 35) (.t 36), none⟩,
           ⟨none, .st 1 (.t 38) (.t 37), none⟩] [1, 4, 6, 7, 26, 27])
        (.seq (.reg [⟨some 39, .mv (.t 7), none⟩,
            ⟨some 40, .bsl 1 [.int .i64 0] 1 [(0, .t 39)], none⟩,
            ⟨some 8, .mv (.t 40), none⟩] [1, 4, 6, 8, 26, 27])
         (.seq (.block 4 (.loop [1, 4, 6, 8, 26, 27] b59L2))
          (.reg [⟨some 75, .mv (.t 6), none⟩,
             ⟨some 76, .bin .add (.t 75) (.k (.sc (.int .i64 1))), none⟩,
             ⟨some 6, .mv (.t 76), none⟩] [1, 4, 6, 26, 27])))))))
    (.reg [⟨some 77, .bin .add (.t 27) (.k (.sc (.int .i64 1))), none⟩,
       ⟨some 27, .mv (.t 77), none⟩] [1, 4, 6, 26, 27])))
/-- unravel/diagram.label -/
def b59 : AC :=
  .seq (.reg [⟨some 1, .box (.t 0), none⟩,
     ⟨some 2, .mv (.k (.sc .nilS)), none⟩,
     ⟨some 3, .mv (.k (.sc (.int .i64 0))), none⟩] [1])
  (.seq (.reg [⟨some 12, .fldA 0 (.t 1), none⟩,
      ⟨some 13, .ld 1 false (.t 12), none⟩,
      ⟨some 14, .len false (.t 13), none⟩,
      ⟨some 15, .mk 1 8 [.int .i64 0] (.t 14) (.t 14), none⟩,
      ⟨some 4, .mv (.t 15), none⟩] [1, 4])
   (.seq (.seq (.reg [⟨some 16, .mv (.t 4), none⟩,
        ⟨some 17, .len false (.t 16), none⟩,
        ⟨some 18, .mv (.k (.sc (.int .i64 0))), none⟩] [1, 4, 17, 18])
     (.block 0 (.loop [1, 4, 17, 18] b59L0)))
    (.seq (.reg [⟨some 6, .mv (.k (.sc (.int .i64 0))), none⟩] [1, 4, 6])
     (.seq (.seq (.reg [⟨some 25, .mv (.t 4), none⟩,
          ⟨some 26, .len false (.t 25), none⟩,
          ⟨some 27, .mv (.k (.sc (.int .i64 0))), none⟩] [1, 4, 6, 26, 27])
       (.block 2 (.loop [1, 4, 6, 26, 27] b59L1)))
      (.seq (.reg [⟨some 78, .mv (.t 4), none⟩,
          ⟨some 79, .mv (.t 6), none⟩,
          ⟨some 2, .mv (.t 78), none⟩,
          ⟨some 3, .mv (.t 79), none⟩] [2, 3])
       (.ret))))))
def a59 : AFun := ⟨1, b59, [.t 2, .t 3]⟩

def b66L0 : AC :=
  .seq (.seq (.reg [⟨some 12, .mv (.t 6), none⟩,
      ⟨some 13, .mv (.t 0), none⟩,
      ⟨some 14, .bin .neq (.t 12) (.t 13), none⟩] [0, 1, 5, 6, 14])
   (.cond (.t 14)
     (.skip)
     (.exit 0)))
  (.seq (.block 1 (.reg [⟨some 18, .mv (.t 5), none⟩,
       ⟨some 19, .mv (.t 6), none⟩,
       ⟨some 20, .bsl 1 [.int .i64 0] 1 [(0, .t 19)], none⟩,
       ⟨some 21, .app 1 8 [.int .i64 0] (.t 18) (.t 20), none⟩,
       ⟨some 5, .mv (.t 21), none⟩] [0, 1, 5, 6]))
   (.reg [⟨some 15, .mv (.t 1), none⟩,
      ⟨some 16, .mv (.t 6), none⟩,
      ⟨some 17, .callv (.t 15) [(.t 16)], none⟩,
      ⟨some 6, .mv (.t 17), none⟩] [0, 1, 5, 6]))
/-- unravel/diagram.cycle -/
def b66 : AC :=
  .seq (.reg [⟨some 4, .mv (.k (.sc .nilS)), none⟩] [0, 1])
  (.seq (.reg [⟨some 7, .mv (.t 0), none⟩,
      ⟨some 8, .bsl 1 [.int .i64 0] 1 [(0, .t 7)], none⟩,
      ⟨some 5, .mv (.t 8), none⟩] [0, 1, 5])
   (.seq (.seq (.reg [⟨some 9, .mv (.t 1), none⟩,
        ⟨some 10, .mv (.t 0), none⟩,
        ⟨some 11, .callv (.t 9) [(.t 10)], none⟩,
        ⟨some 6, .mv (.t 11), none⟩] [0, 1, 5, 6])
     (.block 0 (.loop [0, 1, 5, 6] b66L0)))
    (.seq (.reg [⟨some 22, .mv (.t 5), none⟩,
        ⟨some 4, .mv (.t 22), none⟩] [4])
     (.ret))))
def a66 : AFun := ⟨2, b66, [.t 4]⟩

def FT : FuncId → Option AFun
  | 5 => some a5
  | 9 => some a9
  | 10 => some a10
  | 16 => some a16
  | 17 => some a17
  | 18 => some a18
  | 27 => some a27
  | 28 => some a28
  | 29 => some a29
  | 30 => some a30
  | 36 => some a36
  | 37 => some a37
  | 38 => some a38
  | 39 => some a39
  | 44 => some a44
  | 45 => some a45
  | 47 => some a47
  | 50 => some a50
  | 51 => some a51
  | 52 => some a52
  | 53 => some a53
  | 54 => some a54
  | 57 => some a57
  | 58 => some a58
  | 59 => some a59
  | 66 => some a66
  | _ => none

theorem ok5 : okFun Tryd.prog a5 Tryd.f5 = true := by kernel_rfl
theorem ok9 : okFun Tryd.prog a9 Tryd.f9 = true := by kernel_rfl
theorem ok10 : okFun Tryd.prog a10 Tryd.f10 = true := by kernel_rfl
theorem ok16 : okFun Tryd.prog a16 Tryd.f16 = true := by kernel_rfl
theorem ok17 : okFun Tryd.prog a17 Tryd.f17 = true := by kernel_rfl
theorem ok18 : okFun Tryd.prog a18 Tryd.f18 = true := by kernel_rfl
theorem ok27 : okFun Tryd.prog a27 Tryd.f27 = true := by kernel_rfl
theorem ok28 : okFun Tryd.prog a28 Tryd.f28 = true := by kernel_rfl
theorem ok29 : okFun Tryd.prog a29 Tryd.f29 = true := by kernel_rfl
theorem ok30 : okFun Tryd.prog a30 Tryd.f30 = true := by kernel_rfl
theorem ok36 : okFun Tryd.prog a36 Tryd.f36 = true := by kernel_rfl
theorem ok37 : okFun Tryd.prog a37 Tryd.f37 = true := by kernel_rfl
theorem ok38 : okFun Tryd.prog a38 Tryd.f38 = true := by kernel_rfl
theorem ok39 : okFun Tryd.prog a39 Tryd.f39 = true := by kernel_rfl
theorem ok44 : okFun Tryd.prog a44 Tryd.f44 = true := by kernel_rfl
theorem ok45 : okFun Tryd.prog a45 Tryd.f45 = true := by kernel_rfl
theorem ok47 : okFun Tryd.prog a47 Tryd.f47 = true := by kernel_rfl
theorem ok50 : okFun Tryd.prog a50 Tryd.f50 = true := by kernel_rfl
theorem ok51 : okFun Tryd.prog a51 Tryd.f51 = true := by kernel_rfl
theorem ok52 : okFun Tryd.prog a52 Tryd.f52 = true := by kernel_rfl
theorem ok53 : okFun Tryd.prog a53 Tryd.f53 = true := by kernel_rfl
theorem ok54 : okFun Tryd.prog a54 Tryd.f54 = true := by kernel_rfl
theorem ok57 : okFun Tryd.prog a57 Tryd.f57 = true := by kernel_rfl
theorem ok58 : okFun Tryd.prog a58 Tryd.f58 = true := by kernel_rfl
theorem ok59 : okFun Tryd.prog a59 Tryd.f59 = true := by kernel_rfl
theorem ok66 : okFun Tryd.prog a66 Tryd.f66 = true := by kernel_rfl
theorem mixed : Tryd.prog.follows .mixedOrders = true := by kernel_rfl
theorem ft_ok : FTok Tryd.prog FT := by
  refine ⟨mixed, fun f F h => ?_⟩
  unfold FT at h
  split at h
  · simp at h; subst h; exact ⟨_, Tryd.func5, ok5⟩
  · simp at h; subst h; exact ⟨_, Tryd.func9, ok9⟩
  · simp at h; subst h; exact ⟨_, Tryd.func10, ok10⟩
  · simp at h; subst h; exact ⟨_, Tryd.func16, ok16⟩
  · simp at h; subst h; exact ⟨_, Tryd.func17, ok17⟩
  · simp at h; subst h; exact ⟨_, Tryd.func18, ok18⟩
  · simp at h; subst h; exact ⟨_, Tryd.func27, ok27⟩
  · simp at h; subst h; exact ⟨_, Tryd.func28, ok28⟩
  · simp at h; subst h; exact ⟨_, Tryd.func29, ok29⟩
  · simp at h; subst h; exact ⟨_, Tryd.func30, ok30⟩
  · simp at h; subst h; exact ⟨_, Tryd.func36, ok36⟩
  · simp at h; subst h; exact ⟨_, Tryd.func37, ok37⟩
  · simp at h; subst h; exact ⟨_, Tryd.func38, ok38⟩
  · simp at h; subst h; exact ⟨_, Tryd.func39, ok39⟩
  · simp at h; subst h; exact ⟨_, Tryd.func44, ok44⟩
  · simp at h; subst h; exact ⟨_, Tryd.func45, ok45⟩
  · simp at h; subst h; exact ⟨_, Tryd.func47, ok47⟩
  · simp at h; subst h; exact ⟨_, Tryd.func50, ok50⟩
  · simp at h; subst h; exact ⟨_, Tryd.func51, ok51⟩
  · simp at h; subst h; exact ⟨_, Tryd.func52, ok52⟩
  · simp at h; subst h; exact ⟨_, Tryd.func53, ok53⟩
  · simp at h; subst h; exact ⟨_, Tryd.func54, ok54⟩
  · simp at h; subst h; exact ⟨_, Tryd.func57, ok57⟩
  · simp at h; subst h; exact ⟨_, Tryd.func58, ok58⟩
  · simp at h; subst h; exact ⟨_, Tryd.func59, ok59⟩
  · simp at h; subst h; exact ⟨_, Tryd.func66, ok66⟩
  · simp at h
end Go.Proofs.YtleoalcbgpjieaaDoor
