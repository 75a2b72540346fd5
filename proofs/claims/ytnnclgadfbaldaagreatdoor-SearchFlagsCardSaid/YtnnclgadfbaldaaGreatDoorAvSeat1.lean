/-
  The functions of the given program as the evaluator has them.
-/
import Derived.Test.YtnnclgadfbaldaaGreatDoorAvD
import Derived.KernelRfl
import Derived.Test.YtnnclgadfbaldaaGreatDoorProg
namespace Go.Proofs.YtnnclgadfbaldaaGreatDoor
open Go.Av

/-- strings.Cut -/
def m112 : MFunc := ⟨13, 2, [.t 4, .t 5, .t 6],
 (.seq
 (.ops [⟨(some 4), .mv (.c (.str [])), none⟩, ⟨(some 5), .mv (.c (.str [])), none⟩, ⟨(some 6), .mv (.c (.bool false)), none⟩] [0, 1])
 (.seq
 (.ops [⟨(some 7), .mv (.t 0), none⟩, ⟨(some 8), .mv (.t 1), none⟩, ⟨(some 9), .call (.c (.func 170 [])) [(.t 7), (.t 8)], none⟩, ⟨(some 10), .extract (.t 9) 0, none⟩, ⟨(some 11), .extract (.t 9) 1, none⟩, ⟨(some 12), .extract (.t 9) 2, none⟩, ⟨(some 4), .mv (.t 10), none⟩, ⟨(some 5), .mv (.t 11), none⟩, ⟨(some 6), .mv (.t 12), none⟩] [4, 5, 6])
 .ret)),
 none⟩
theorem c112 : cFunc Tryz.prog true none [[0, 1], [4, 5, 6]] Tryz.f112 = some m112 := by kernel_rfl

/-- letterbox/seqset.number -/
def m113 : MFunc := ⟨19, 1, [.t 2],
 (.seq
 (.ops [⟨(some 2), .mv (.c (.int .i64 0)), none⟩] [0])
 (.seq
 (.seq
 (.ops [⟨(some 5), .mv (.t 0), none⟩, ⟨(some 6), .bin .eql (.t 5) (.c (.str [42])), none⟩] [6, 0])
 (.cond (.t 6)
  (.seq
  (.ops [⟨(some 2), .mv (.c (.int .i64 0)), none⟩] [2])
  .ret)
  .skip))
 (.seq
 (.ops [⟨(some 8), .mv (.t 0), none⟩, ⟨(some 9), .call (.c (.func 171 [])) [(.t 8)], none⟩, ⟨(some 7), .mv (.t 9), none⟩, ⟨(some 10), .extract (.t 7) 0, none⟩, ⟨(some 11), .extract (.t 7) 1, none⟩, ⟨(some 3), .mv (.t 10), none⟩, ⟨(some 4), .mv (.t 11), none⟩] [4, 3])
 (.seq
 (.seq
 (.ops [⟨(some 12), .mv (.t 4), none⟩, ⟨(some 13), .un .not (.t 12), none⟩, ⟨(some 14), .mv (.t 13), none⟩, ⟨(some 15), .mv (.t 3), (some (14, false))⟩, ⟨(some 16), .bin .eql (.t 15) (.c (.int .i64 0)), (some (14, false))⟩, ⟨(some 17), .pick (.t 14) (.c (.bool true)) (.t 16), none⟩] [17, 3])
 (.cond (.t 17)
  (.seq
  (.ops [⟨(some 2), .mv (.c (.int .i64 (-1))), none⟩] [2])
  .ret)
  .skip))
 (.seq
 (.ops [⟨(some 18), .mv (.t 3), none⟩, ⟨(some 2), .mv (.t 18), none⟩] [2])
 .ret))))),
 none⟩
theorem c113 : cFunc Tryz.prog true none [[0], [6, 0], [2], [4, 3], [17, 3], [2], [2]] Tryz.f113 = some m113 := by kernel_rfl

/-- letterbox/seqset.Has$1 -/
def m114 : MFunc := ⟨8, 2, [.t 3],
 (.seq
 (.ops [⟨(some 3), .mv (.c (.int .i64 0)), none⟩] [0, 1])
 (.seq
 (.seq
 (.ops [⟨(some 4), .mv (.t 0), none⟩, ⟨(some 5), .bin .lss (.t 4) (.c (.int .i64 1)), none⟩] [5, 1, 0])
 (.cond (.t 5)
  (.seq
  (.ops [⟨(some 6), .load none (.t 1), none⟩, ⟨(some 3), .mv (.t 6), none⟩] [3])
  .ret)
  .skip))
 (.seq
 (.ops [⟨(some 7), .mv (.t 0), none⟩, ⟨(some 3), .mv (.t 7), none⟩] [3])
 .ret))),
 none⟩
theorem c114 : cFunc Tryz.prog true none [[0, 1], [5, 1, 0], [3], [3]] Tryz.f114 = some m114 := by kernel_rfl

/-- slices.ContainsFunc[[]letterbox/seqset.Range,letterbox/seqset.Range] -/
def m115 : MFunc := ⟨9, 2, [.t 4],
 (.seq
 (.ops [⟨(some 4), .mv (.c (.bool false)), none⟩] [0, 1])
 (.seq
 (.ops [⟨(some 5), .mv (.t 0), none⟩, ⟨(some 6), .mv (.t 1), none⟩, ⟨(some 7), .call (.c (.func 172 [])) [(.t 5), (.t 6)], none⟩, ⟨(some 8), .bin .geq (.t 7) (.c (.int .i64 0)), none⟩, ⟨(some 4), .mv (.t 8), none⟩] [4])
 .ret)),
 none⟩
theorem c115 : cFunc Tryz.prog true none [[0, 1], [4]] Tryz.f115 = some m115 := by kernel_rfl

/-- letterbox/seqset.Has$2 -/
def m116 : MFunc := ⟨27, 3, [.t 4],
 (.seq
 (.ops [⟨(some 3), .box 172 (.t 0), none⟩, ⟨(some 4), .mv (.c (.bool false)), none⟩] [1, 3, 2])
 (.seq
 (.draw [⟨⟨(some 7), .load none (.t 1), none⟩, none⟩, ⟨⟨(some 8), .fieldA (.t 3) 0, none⟩, none⟩, ⟨⟨(some 9), .load none (.t 8), none⟩, none⟩, ⟨⟨(some 10), .call (.t 7) [(.t 9)], none⟩, none⟩, ⟨⟨(some 11), .load none (.t 1), none⟩, none⟩, ⟨⟨(some 12), .fieldA (.t 3) 1, none⟩, none⟩, ⟨⟨(some 13), .load none (.t 12), none⟩, none⟩, ⟨⟨(some 14), .call (.t 11) [(.t 13)], none⟩, none⟩, ⟨⟨(some 5), .mv (.t 10), none⟩, none⟩, ⟨⟨(some 6), .mv (.t 14), none⟩, none⟩] [] [2, 5, 6])
 (.seq
 (.ops [⟨(some 15), .load none (.t 2), none⟩, ⟨(some 16), .mv (.t 5), none⟩, ⟨(some 17), .mv (.t 6), none⟩, ⟨(some 18), .minmax false (.t 16) (.t 17), none⟩, ⟨(some 19), .bin .geq (.t 15) (.t 18), none⟩, ⟨(some 20), .mv (.t 19), none⟩, ⟨(some 21), .load none (.t 2), (some (20, true))⟩, ⟨(some 22), .mv (.t 5), (some (20, true))⟩, ⟨(some 23), .mv (.t 6), (some (20, true))⟩, ⟨(some 24), .minmax true (.t 22) (.t 23), (some (20, true))⟩, ⟨(some 25), .bin .leq (.t 21) (.t 24), (some (20, true))⟩, ⟨(some 26), .pick (.t 20) (.t 25) (.c (.bool false)), none⟩, ⟨(some 4), .mv (.t 26), none⟩] [4])
 .ret))),
 none⟩
theorem c116 : cFunc Tryz.prog true none [[1, 3, 2], [2, 5, 6], [], [4]] Tryz.f116 = some m116 := by kernel_rfl

/-- slices.IndexFunc[[]string,string] -/
def m117 : MFunc := ⟨19, 2, [.t 4],
 (.seq
 (.ops [⟨(some 4), .mv (.c (.int .i64 0)), none⟩] [0, 1])
 (.seq
 (.seq
 (.ops [⟨(some 6), .mv (.t 0), none⟩, ⟨(some 7), .lenL (.t 6), none⟩, ⟨(some 8), .mv (.c (.int .i64 0)), none⟩] [8, 7, 1, 0])
 (.block 0
  (.loop [8, 7, 1, 0]
   (.seq
   (.ops [⟨(some 9), .bin .lss (.t 8) (.t 7), none⟩] [9, 8, 1, 0, 7])
   (.seq
   (.cond (.t 9)
    .skip
    (.exit 0))
   (.seq
   (.block 1
    (.seq
    (.ops [⟨(some 10), .mv (.t 8), none⟩, ⟨(some 5), .mv (.t 10), none⟩] [1, 0, 5, 8, 7])
    (.seq
    (.ops [⟨(some 11), .mv (.t 1), none⟩, ⟨(some 12), .mv (.t 0), none⟩, ⟨(some 13), .mv (.t 5), none⟩, ⟨(some 14), .idxA 1 (.t 12) (.t 13), none⟩, ⟨(some 15), .load none (.t 14), none⟩, ⟨(some 16), .call (.t 11) [(.t 15)], none⟩] [16, 5, 8, 7, 1, 0])
    (.cond (.t 16)
     (.seq
     (.ops [⟨(some 17), .mv (.t 5), none⟩, ⟨(some 4), .mv (.t 17), none⟩] [4])
     .ret)
     .skip))))
   (.ops [⟨(some 18), .bin .add (.t 8) (.c (.int .i64 1)), none⟩, ⟨(some 8), .mv (.t 18), none⟩] [8, 7, 1, 0])))))))
 (.seq
 (.ops [⟨(some 4), .mv (.c (.int .i64 (-1))), none⟩] [4])
 .ret))),
 none⟩
theorem c117 : cFunc Tryz.prog true none [[0, 1], [8, 7, 1, 0], [8, 7, 1, 0], [9, 8, 1, 0, 7], [1, 0, 5, 8, 7], [16, 5, 8, 7, 1, 0], [4], [8, 7, 1, 0], [4]] Tryz.f117 = some m117 := by kernel_rfl

/-- letterbox/date.parts -/
def m118 : MFunc := ⟨46, 1, [.t 2],
 (.seq
 (.ops [⟨(some 2), .mv (.c .nilslice), none⟩] [0])
 (.seq
 (.ops [⟨(some 3), .mv (.c .nilslice), none⟩] [0, 3])
 (.seq
 (.ops [⟨(some 4), .mv (.c (.int .i64 (-1))), none⟩] [0, 4, 3])
 (.seq
 (.seq
 (.ops [⟨(some 5), .mv (.c (.int .i64 0)), none⟩] [5, 0, 4, 3])
 (.block 0
  (.loop [5, 0, 4, 3]
   (.seq
   (.seq
   (.ops [⟨(some 7), .mv (.t 5), none⟩, ⟨(some 8), .mv (.t 0), none⟩, ⟨(some 9), .lenS (.t 8), none⟩, ⟨(some 10), .bin .leq (.t 7) (.t 9), none⟩] [10, 5, 0, 4, 3])
   (.cond (.t 10)
    .skip
    (.exit 0)))
   (.seq
   (.block 1
    (.seq
    (.ops [⟨(some 13), .mv (.t 5), none⟩, ⟨(some 14), .mv (.t 0), none⟩, ⟨(some 15), .lenS (.t 14), none⟩, ⟨(some 16), .bin .lss (.t 13) (.t 15), none⟩, ⟨(some 17), .mv (.t 16), none⟩, ⟨(some 18), .mv (.t 0), (some (17, true))⟩, ⟨(some 19), .mv (.t 5), (some (17, true))⟩, ⟨(some 20), .idxStr (.t 18) (.t 19), (some (17, true))⟩, ⟨(some 21), .call (.c (.func 173 [])) [(.t 20)], (some (17, true))⟩, ⟨(some 22), .un .not (.t 21), (some (17, true))⟩, ⟨(some 23), .pick (.t 17) (.t 22) (.c (.bool false)), none⟩, ⟨(some 6), .mv (.t 23), none⟩] [6, 4, 5, 0, 3])
    (.block 2
     (.seq
     (.ops [⟨(some 25), .mv (.t 6), none⟩, ⟨(some 26), .mv (.t 25), none⟩, ⟨(some 27), .mv (.t 4), (some (26, true))⟩, ⟨(some 28), .bin .lss (.t 27) (.c (.int .i64 0)), (some (26, true))⟩, ⟨(some 29), .pick (.t 26) (.t 28) (.c (.bool false)), none⟩, ⟨(some 24), .mv (.t 29), none⟩] [24, 5, 0, 3, 6, 4])
     (.cond (.t 24)
      (.ops [⟨(some 30), .mv (.t 5), none⟩, ⟨(some 4), .mv (.t 30), none⟩] [5, 0, 4, 3])
      (.seq
      (.ops [⟨(some 32), .mv (.t 6), none⟩, ⟨(some 33), .un .not (.t 32), none⟩, ⟨(some 34), .mv (.t 33), none⟩, ⟨(some 35), .mv (.t 4), (some (34, true))⟩, ⟨(some 36), .bin .geq (.t 35) (.c (.int .i64 0)), (some (34, true))⟩, ⟨(some 37), .pick (.t 34) (.t 36) (.c (.bool false)), none⟩, ⟨(some 31), .mv (.t 37), none⟩] [31, 3, 0, 4, 5])
      (.cond (.t 31)
       (.ops [⟨(some 38), .mv (.t 3), none⟩, ⟨(some 39), .mv (.t 0), none⟩, ⟨(some 40), .mv (.t 4), none⟩, ⟨(some 41), .mv (.t 5), none⟩, ⟨(some 42), .sliceStr (.t 39) (some (.t 40)) (some (.t 41)), none⟩, ⟨(some 43), .mkSlice 1 (.str []) 1 [(0, (.t 42))], none⟩, ⟨(some 44), .append 9 1 16 (.t 38) (.t 43), none⟩, ⟨(some 3), .mv (.t 44), none⟩, ⟨(some 4), .mv (.c (.int .i64 (-1))), none⟩] [5, 0, 4, 3])
       .skip)))))))
   (.ops [⟨(some 11), .mv (.t 5), none⟩, ⟨(some 12), .bin .add (.t 11) (.c (.int .i64 1)), none⟩, ⟨(some 5), .mv (.t 12), none⟩] [5, 0, 4, 3]))))))
 (.seq
 (.ops [⟨(some 45), .mv (.t 3), none⟩, ⟨(some 2), .mv (.t 45), none⟩] [2])
 .ret))))),
 none⟩
theorem c118 : cFunc Tryz.prog true none [[0], [0, 3], [0, 4, 3], [5, 0, 4, 3], [5, 0, 4, 3], [10, 5, 0, 4, 3], [6, 4, 5, 0, 3], [24, 5, 0, 3, 6, 4], [5, 0, 4, 3], [31, 3, 0, 4, 5], [5, 0, 4, 3], [5, 0, 4, 3], [2]] Tryz.f118 = some m118 := by kernel_rfl

/-- letterbox/date.bare -/
def m119 : MFunc := ⟨51, 1, [.t 2],
 (.seq
 (.ops [⟨(some 2), .mv (.c (.str [])), none⟩] [0])
 (.seq
 (.ops [⟨(some 3), .mv (.c .nilslice), none⟩] [0, 3])
 (.seq
 (.ops [⟨(some 4), .mv (.c (.int .i64 0)), none⟩] [0, 4, 3])
 (.seq
 (.seq
 (.ops [⟨(some 5), .mv (.c (.int .i64 0)), none⟩] [5, 0, 4, 3])
 (.block 0
  (.loop [5, 0, 4, 3]
   (.seq
   (.seq
   (.ops [⟨(some 7), .mv (.t 5), none⟩, ⟨(some 8), .mv (.t 0), none⟩, ⟨(some 9), .lenS (.t 8), none⟩, ⟨(some 10), .bin .lss (.t 7) (.t 9), none⟩] [10, 0, 5, 4, 3])
   (.cond (.t 10)
    .skip
    (.exit 0)))
   (.seq
   (.block 1
    (.seq
    (.ops [⟨(some 13), .mv (.t 0), none⟩, ⟨(some 14), .mv (.t 5), none⟩, ⟨(some 15), .idxStr (.t 13) (.t 14), none⟩, ⟨(some 6), .mv (.t 15), none⟩] [4, 6, 5, 0, 3])
    (.block 2
     (.seq
     (.ops [⟨(some 17), .mv (.t 4), none⟩, ⟨(some 18), .bin .gtr (.t 17) (.c (.int .i64 0)), none⟩, ⟨(some 19), .mv (.t 18), none⟩, ⟨(some 20), .mv (.t 6), (some (19, true))⟩, ⟨(some 21), .bin .eql (.t 20) (.c (.int .u8 92)), (some (19, true))⟩, ⟨(some 22), .pick (.t 19) (.t 21) (.c (.bool false)), none⟩, ⟨(some 16), .mv (.t 22), none⟩] [16, 5, 0, 4, 3, 6])
     (.cond (.t 16)
      (.ops [⟨(some 23), .mv (.t 5), none⟩, ⟨(some 24), .bin .add (.t 23) (.c (.int .i64 1)), none⟩, ⟨(some 5), .mv (.t 24), none⟩] [5, 0, 4, 3])
      (.seq
      (.ops [⟨(some 26), .mv (.t 6), none⟩, ⟨(some 27), .bin .eql (.t 26) (.c (.int .u8 40)), none⟩, ⟨(some 25), .mv (.t 27), none⟩] [25, 4, 3, 5, 0, 6])
      (.cond (.t 25)
       (.seq
       (.ops [⟨(some 28), .mv (.t 4), none⟩, ⟨(some 29), .bin .add (.t 28) (.c (.int .i64 1)), none⟩, ⟨(some 4), .mv (.t 29), none⟩] [3, 5, 0, 4])
       (.ops [⟨(some 30), .mv (.t 3), none⟩, ⟨(some 31), .mkSlice 1 (.int .u8 0) 1 [(0, (.c (.int .u8 32)))], none⟩, ⟨(some 32), .append 5 1 1 (.t 30) (.t 31), none⟩, ⟨(some 3), .mv (.t 32), none⟩] [5, 0, 4, 3]))
       (.seq
       (.ops [⟨(some 34), .mv (.t 4), none⟩, ⟨(some 35), .bin .gtr (.t 34) (.c (.int .i64 0)), none⟩, ⟨(some 36), .mv (.t 35), none⟩, ⟨(some 37), .mv (.t 6), (some (36, true))⟩, ⟨(some 38), .bin .eql (.t 37) (.c (.int .u8 41)), (some (36, true))⟩, ⟨(some 39), .pick (.t 36) (.t 38) (.c (.bool false)), none⟩, ⟨(some 33), .mv (.t 39), none⟩] [33, 4, 5, 0, 3, 6])
       (.cond (.t 33)
        (.ops [⟨(some 40), .mv (.t 4), none⟩, ⟨(some 41), .bin .sub (.t 40) (.c (.int .i64 1)), none⟩, ⟨(some 4), .mv (.t 41), none⟩] [5, 0, 4, 3])
        (.seq
        (.ops [⟨(some 43), .mv (.t 4), none⟩, ⟨(some 44), .bin .eql (.t 43) (.c (.int .i64 0)), none⟩, ⟨(some 42), .mv (.t 44), none⟩] [42, 3, 6, 5, 0, 4])
        (.cond (.t 42)
         (.ops [⟨(some 45), .mv (.t 3), none⟩, ⟨(some 46), .mv (.t 6), none⟩, ⟨(some 47), .mkSlice 1 (.int .u8 0) 1 [(0, (.t 46))], none⟩, ⟨(some 48), .append 5 1 1 (.t 45) (.t 47), none⟩, ⟨(some 3), .mv (.t 48), none⟩] [5, 0, 4, 3])
         .skip)))))))))))
   (.ops [⟨(some 11), .mv (.t 5), none⟩, ⟨(some 12), .bin .add (.t 11) (.c (.int .i64 1)), none⟩, ⟨(some 5), .mv (.t 12), none⟩] [5, 0, 4, 3]))))))
 (.seq
 (.ops [⟨(some 49), .mv (.t 3), none⟩, ⟨(some 50), .conv .bytesStr (.t 49), none⟩, ⟨(some 2), .mv (.t 50), none⟩] [2])
 .ret))))),
 none⟩
theorem c119 : cFunc Tryz.prog true none [[0], [0, 3], [0, 4, 3], [5, 0, 4, 3], [5, 0, 4, 3], [10, 0, 5, 4, 3], [4, 6, 5, 0, 3], [16, 5, 0, 4, 3, 6], [5, 0, 4, 3], [25, 4, 3, 5, 0, 6], [3, 5, 0, 4], [5, 0, 4, 3], [33, 4, 5, 0, 3, 6], [5, 0, 4, 3], [42, 3, 6, 5, 0, 4], [5, 0, 4, 3], [5, 0, 4, 3], [2]] Tryz.f119 = some m119 := by kernel_rfl

/-- letterbox/date.month -/
def m120 : MFunc := ⟨15, 1, [.t 2],
 (.seq
 (.ops [⟨(some 2), .mv (.c (.int .i64 0)), none⟩] [0])
 (.seq
 (.seq
 (.ops [⟨(some 5), .load (some 12) (.g 0), none⟩, ⟨(some 6), .mv (.c (.int .i64 0)), none⟩] [6, 5, 0])
 (.block 0
  (.loop [6, 5, 0]
   (.seq
   (.ops [⟨(some 7), .bin .lss (.t 6) (.c (.int .i64 12)), none⟩] [7, 6, 5, 0])
   (.seq
   (.cond (.t 7)
    .skip
    (.exit 0))
   (.seq
   (.block 1
    (.seq
    (.ops [⟨(some 8), .mv (.t 6), none⟩, ⟨(some 9), .idxArr 12 1 false (.t 5) (.t 6), none⟩, ⟨(some 3), .mv (.t 8), none⟩, ⟨(some 4), .mv (.t 9), none⟩] [4, 0, 3, 6, 5])
    (.seq
    (.ops [⟨(some 10), .mv (.t 4), none⟩, ⟨(some 11), .mv (.t 0), none⟩, ⟨(some 12), .call (.c (.func 62 [])) [(.t 10), (.t 11)], none⟩] [12, 3, 6, 5, 0])
    (.cond (.t 12)
     (.seq
     (.ops [⟨(some 13), .mv (.t 3), none⟩, ⟨(some 2), .mv (.t 13), none⟩] [2])
     .ret)
     .skip))))
   (.ops [⟨(some 14), .bin .add (.t 6) (.c (.int .i64 1)), none⟩, ⟨(some 6), .mv (.t 14), none⟩] [6, 5, 0])))))))
 (.seq
 (.ops [⟨(some 2), .mv (.c (.int .i64 (-1))), none⟩] [2])
 .ret))),
 none⟩
theorem c120 : cFunc Tryz.prog true none [[0], [6, 5, 0], [6, 5, 0], [7, 6, 5, 0], [4, 0, 3, 6, 5], [12, 3, 6, 5, 0], [2], [6, 5, 0], [2]] Tryz.f120 = some m120 := by kernel_rfl

/-- letterbox/date.zone -/
def m121 : MFunc := ⟨42, 1, [.t 2, .t 3],
 (.seq
 (.ops [⟨(some 2), .mv (.c (.int .i64 0)), none⟩, ⟨(some 3), .mv (.c (.bool false)), none⟩] [0])
 (.seq
 (.seq
 (.ops [⟨(some 7), .mv (.t 0), none⟩, ⟨(some 8), .idxStr (.t 7) (.c (.int .i64 0)), none⟩, ⟨(some 9), .bin .eql (.t 8) (.c (.int .u8 43)), none⟩, ⟨(some 10), .mv (.t 9), none⟩, ⟨(some 11), .mv (.t 0), (some (10, false))⟩, ⟨(some 12), .idxStr (.t 11) (.c (.int .i64 0)), (some (10, false))⟩, ⟨(some 13), .bin .eql (.t 12) (.c (.int .u8 45)), (some (10, false))⟩, ⟨(some 14), .pick (.t 10) (.c (.bool true)) (.t 13), none⟩] [14, 0])
 (.cond (.t 14)
  (.seq
  (.ops [⟨(some 15), .mv (.t 0), none⟩, ⟨(some 16), .call (.c (.func 174 [])) [(.t 15)], none⟩, ⟨(some 17), .extract (.t 16) 0, none⟩, ⟨(some 18), .extract (.t 16) 1, none⟩, ⟨(some 2), .mv (.t 17), none⟩, ⟨(some 3), .mv (.t 18), none⟩] [2, 3])
  .ret)
  .skip))
 (.seq
 (.seq
 (.ops [⟨(some 19), .mv (.t 0), none⟩, ⟨(some 20), .lenS (.t 19), none⟩, ⟨(some 21), .mv (.c (.int .i64 0)), none⟩] [21, 20, 0])
 (.block 0
  (.loop [21, 20, 0]
   (.seq
   (.ops [⟨(some 22), .bin .lss (.t 21) (.t 20), none⟩] [22, 21, 0, 20])
   (.seq
   (.cond (.t 22)
    .skip
    (.exit 0))
   (.seq
   (.block 1
    (.seq
    (.ops [⟨(some 23), .mv (.t 21), none⟩, ⟨(some 4), .mv (.t 23), none⟩] [0, 4, 21, 20])
    (.seq
    (.ops [⟨(some 24), .mv (.t 0), none⟩, ⟨(some 25), .mv (.t 4), none⟩, ⟨(some 26), .idxStr (.t 24) (.t 25), none⟩, ⟨(some 27), .call (.c (.func 71 [])) [(.t 26)], none⟩, ⟨(some 5), .mv (.t 27), none⟩] [5, 21, 20, 0])
    (.seq
    (.ops [⟨(some 28), .mv (.t 5), none⟩, ⟨(some 29), .bin .lss (.t 28) (.c (.int .u8 97)), none⟩, ⟨(some 30), .mv (.t 29), none⟩, ⟨(some 31), .mv (.t 5), (some (30, false))⟩, ⟨(some 32), .bin .gtr (.t 31) (.c (.int .u8 122)), (some (30, false))⟩, ⟨(some 33), .pick (.t 30) (.c (.bool true)) (.t 32), none⟩] [33, 21, 20, 0])
    (.cond (.t 33)
     (.seq
     (.ops [⟨(some 2), .mv (.c (.int .i64 0)), none⟩, ⟨(some 3), .mv (.c (.bool false)), none⟩] [2, 3])
     .ret)
     .skip)))))
   (.ops [⟨(some 34), .bin .add (.t 21) (.c (.int .i64 1)), none⟩, ⟨(some 21), .mv (.t 34), none⟩] [21, 20, 0])))))))
 (.seq
 (.ops [⟨(some 35), .makeMap none, none⟩, ⟨none, .insert none (.t 35) (.c (.str [101, 115, 116])) (.c (.int .i64 (-5))), none⟩, ⟨none, .insert none (.t 35) (.c (.str [101, 100, 116])) (.c (.int .i64 (-4))), none⟩, ⟨none, .insert none (.t 35) (.c (.str [99, 115, 116])) (.c (.int .i64 (-6))), none⟩, ⟨none, .insert none (.t 35) (.c (.str [99, 100, 116])) (.c (.int .i64 (-5))), none⟩, ⟨none, .insert none (.t 35) (.c (.str [109, 115, 116])) (.c (.int .i64 (-7))), none⟩, ⟨none, .insert none (.t 35) (.c (.str [109, 100, 116])) (.c (.int .i64 (-6))), none⟩, ⟨none, .insert none (.t 35) (.c (.str [112, 115, 116])) (.c (.int .i64 (-8))), none⟩, ⟨none, .insert none (.t 35) (.c (.str [112, 100, 116])) (.c (.int .i64 (-7))), none⟩, ⟨(some 36), .mv (.t 35), none⟩, ⟨(some 6), .mv (.t 36), none⟩] [6, 0])
 (.seq
 (.ops [⟨(some 37), .mv (.t 6), none⟩, ⟨(some 38), .mv (.t 0), none⟩, ⟨(some 39), .call (.c (.func 34 [])) [(.t 38)], none⟩, ⟨(some 40), .lookup none (.int .i64 0) false (.t 37) (.t 39), none⟩, ⟨(some 41), .bin .mul (.c (.int .i64 60)) (.t 40), none⟩, ⟨(some 2), .mv (.t 41), none⟩, ⟨(some 3), .mv (.c (.bool true)), none⟩] [2, 3])
 .ret))))),
 none⟩
theorem c121 : cFunc Tryz.prog true none [[0], [14, 0], [2, 3], [21, 20, 0], [21, 20, 0], [22, 21, 0, 20], [0, 4, 21, 20], [5, 21, 20, 0], [33, 21, 20, 0], [2, 3], [21, 20, 0], [6, 0], [2, 3]] Tryz.f121 = some m121 := by kernel_rfl

/-- letterbox/date.clock -/
def m122 : MFunc := ⟨60, 3, [.t 6],
 (.seq
 (.ops [⟨(some 6), .mv (.c (.int .i64 0)), none⟩] [0, 1, 2])
 (.seq
 (.ops [⟨(some 14), .mv (.t 0), none⟩, ⟨(some 15), .call (.c (.func 111 [])) [(.t 14), (.c (.int .u8 58))], none⟩, ⟨(some 7), .mv (.t 15), none⟩] [7, 1, 2])
 (.seq
 (.ops [⟨(some 8), .mv (.c (.int .i64 0)), none⟩] [7, 1, 8, 2])
 (.seq
 (.seq
 (.ops [⟨(some 16), .mv (.t 7), none⟩, ⟨(some 17), .lenL (.t 16), none⟩, ⟨(some 18), .mv (.c (.int .i64 0)), none⟩] [18, 17, 16, 1, 8, 2, 7])
 (.block 0
  (.loop [18, 17, 16, 1, 8, 2, 7]
   (.seq
   (.ops [⟨(some 19), .bin .lss (.t 18) (.t 17), none⟩] [19, 18, 16, 1, 8, 17, 2, 7])
   (.seq
   (.cond (.t 19)
    .skip
    (.exit 0))
   (.seq
   (.block 1
    (.seq
    (.ops [⟨(some 20), .mv (.t 18), none⟩, ⟨(some 21), .idxA 1 (.t 16) (.t 18), none⟩, ⟨(some 22), .load none (.t 21), none⟩, ⟨(some 9), .mv (.t 20), none⟩, ⟨(some 10), .mv (.t 22), none⟩] [10, 9, 1, 8, 18, 17, 16, 2, 7])
    (.seq
    (.ops [⟨(some 23), .mv (.t 10), none⟩, ⟨(some 24), .mkSlice 1 (.int .i64 0) 1 [(0, (.c (.int .i64 2)))], none⟩, ⟨(some 25), .call (.c (.func 125 [])) [(.t 23), (.t 24)], none⟩, ⟨(some 11), .mv (.t 25), none⟩] [9, 11, 1, 8, 18, 17, 16, 2, 7])
    (.seq
    (.seq
    (.ops [⟨(some 26), .mv (.t 9), none⟩, ⟨(some 27), .bin .geq (.t 26) (.c (.int .i64 3)), none⟩, ⟨(some 28), .mv (.t 27), none⟩, ⟨(some 29), .mv (.t 11), (some (28, false))⟩, ⟨(some 30), .bin .lss (.t 29) (.c (.int .i64 0)), (some (28, false))⟩, ⟨(some 31), .pick (.t 28) (.c (.bool true)) (.t 30), none⟩, ⟨(some 32), .mv (.t 31), none⟩, ⟨(some 33), .mv (.t 11), (some (32, false))⟩, ⟨(some 34), .mv (.t 1), (some (32, false))⟩, ⟨(some 35), .build [(.int .i64 0), (.int .i64 0), (.int .i64 0)] [(0, 1, (.c (.int .i64 23))), (1, 1, (.c (.int .i64 59))), (2, 1, (.t 34))], (some (32, false))⟩, ⟨(some 36), .mv (.t 9), (some (32, false))⟩, ⟨(some 37), .idxArr 3 1 false (.t 35) (.t 36), (some (32, false))⟩, ⟨(some 38), .bin .gtr (.t 33) (.t 37), (some (32, false))⟩, ⟨(some 39), .pick (.t 32) (.c (.bool true)) (.t 38), none⟩] [39, 8, 11, 9, 18, 17, 16, 1, 2, 7])
    (.cond (.t 39)
     (.seq
     (.ops [⟨(some 6), .mv (.c (.int .i64 (-1))), none⟩] [6])
     .ret)
     .skip))
    (.ops [⟨(some 40), .mv (.t 8), none⟩, ⟨(some 41), .mv (.t 11), none⟩, ⟨(some 42), .build [(.int .i64 0), (.int .i64 0), (.int .i64 0)] [(0, 1, (.c (.int .i64 3600))), (1, 1, (.c (.int .i64 60))), (2, 1, (.c (.int .i64 1)))], none⟩, ⟨(some 43), .mv (.t 9), none⟩, ⟨(some 44), .idxArr 3 1 false (.t 42) (.t 43), none⟩, ⟨(some 45), .bin .mul (.t 41) (.t 44), none⟩, ⟨(some 46), .bin .add (.t 40) (.t 45), none⟩, ⟨(some 8), .mv (.t 46), none⟩] [18, 17, 16, 1, 8, 2, 7])))))
   (.ops [⟨(some 47), .bin .add (.t 18) (.c (.int .i64 1)), none⟩, ⟨(some 18), .mv (.t 47), none⟩] [18, 17, 16, 1, 8, 2, 7])))))))
 (.seq
 (.seq
 (.ops [⟨(some 48), .mv (.t 2), none⟩, ⟨(some 49), .lenL (.t 48), none⟩, ⟨(some 50), .mv (.c (.int .i64 0)), none⟩] [50, 49, 48, 7, 8])
 (.block 2
  (.loop [50, 49, 48, 7, 8]
   (.seq
   (.ops [⟨(some 51), .bin .lss (.t 50) (.t 49), none⟩] [51, 48, 50, 7, 8, 49])
   (.seq
   (.cond (.t 51)
    .skip
    (.exit 2))
   (.seq
   (.block 3
    (.seq
    (.ops [⟨(some 52), .idxA 1 (.t 48) (.t 50), none⟩, ⟨(some 53), .load none (.t 52), none⟩, ⟨(some 13), .mv (.t 53), none⟩] [7, 13, 8, 50, 49, 48])
    (.seq
    (.ops [⟨(some 54), .mv (.t 7), none⟩, ⟨(some 55), .lenL (.t 54), none⟩, ⟨(some 56), .mv (.t 13), none⟩, ⟨(some 57), .bin .eql (.t 55) (.t 56), none⟩] [57, 8, 50, 49, 48, 7])
    (.cond (.t 57)
     (.seq
     (.ops [⟨(some 58), .mv (.t 8), none⟩, ⟨(some 6), .mv (.t 58), none⟩] [6])
     .ret)
     .skip))))
   (.ops [⟨(some 59), .bin .add (.t 50) (.c (.int .i64 1)), none⟩, ⟨(some 50), .mv (.t 59), none⟩] [50, 49, 48, 7, 8])))))))
 (.seq
 (.ops [⟨(some 6), .mv (.c (.int .i64 (-1))), none⟩] [6])
 .ret)))))),
 none⟩
theorem c122 : cFunc Tryz.prog true none [[0, 1, 2], [7, 1, 2], [7, 1, 8, 2], [18, 17, 16, 1, 8, 2, 7], [18, 17, 16, 1, 8, 2, 7], [19, 18, 16, 1, 8, 17, 2, 7], [10, 9, 1, 8, 18, 17, 16, 2, 7], [9, 11, 1, 8, 18, 17, 16, 2, 7], [39, 8, 11, 9, 18, 17, 16, 1, 2, 7], [6], [18, 17, 16, 1, 8, 2, 7], [18, 17, 16, 1, 8, 2, 7], [50, 49, 48, 7, 8], [50, 49, 48, 7, 8], [51, 48, 50, 7, 8, 49], [7, 13, 8, 50, 49, 48], [57, 8, 50, 49, 48, 7], [6], [50, 49, 48, 7, 8], [6]] Tryz.f122 = some m122 := by kernel_rfl

/-- letterbox/date.number -/
def m123 : MFunc := ⟨45, 3, [.t 6, .t 7],
 (.seq
 (.ops [⟨(some 6), .mv (.c (.int .i64 0)), none⟩, ⟨(some 7), .mv (.c (.bool false)), none⟩] [0, 2, 1])
 (.seq
 (.seq
 (.ops [⟨(some 10), .mv (.t 0), none⟩, ⟨(some 11), .bin .lss (.t 10) (.c (.int .i64 1)), none⟩, ⟨(some 12), .mv (.t 11), none⟩, ⟨(some 13), .mv (.t 0), (some (12, false))⟩, ⟨(some 14), .bin .gtr (.t 13) (.c (.int .i64 9999)), (some (12, false))⟩, ⟨(some 15), .pick (.t 12) (.c (.bool true)) (.t 14), none⟩, ⟨(some 16), .mv (.t 15), none⟩, ⟨(some 17), .mv (.t 2), (some (16, false))⟩, ⟨(some 18), .bin .lss (.t 17) (.c (.int .i64 1)), (some (16, false))⟩, ⟨(some 19), .pick (.t 16) (.c (.bool true)) (.t 18), none⟩, ⟨(some 20), .mv (.t 19), none⟩, ⟨(some 21), .mv (.t 2), (some (20, false))⟩, ⟨(some 22), .mv (.t 0), (some (20, false))⟩, ⟨(some 23), .mv (.t 1), (some (20, false))⟩, ⟨(some 24), .call (.c (.func 175 [])) [(.t 22), (.t 23)], (some (20, false))⟩, ⟨(some 25), .bin .gtr (.t 21) (.t 24), (some (20, false))⟩, ⟨(some 26), .pick (.t 20) (.c (.bool true)) (.t 25), none⟩] [26, 0, 2, 1])
 (.cond (.t 26)
  (.seq
  (.ops [⟨(some 6), .mv (.c (.int .i64 0)), none⟩, ⟨(some 7), .mv (.c (.bool false)), none⟩] [6, 7])
  .ret)
  .skip))
 (.seq
 (.ops [⟨(some 27), .mv (.t 0), none⟩, ⟨(some 28), .call (.c (.func 176 [])) [(.t 27)], none⟩, ⟨(some 29), .call (.c (.func 176 [])) [(.c (.int .i64 1970))], none⟩, ⟨(some 30), .bin .sub (.t 28) (.t 29), none⟩, ⟨(some 31), .mv (.t 2), none⟩, ⟨(some 32), .bin .add (.t 30) (.t 31), none⟩, ⟨(some 33), .bin .sub (.t 32) (.c (.int .i64 1)), none⟩, ⟨(some 8), .mv (.t 33), none⟩] [1, 8, 0])
 (.seq
 (.seq
 (.ops [⟨(some 34), .mv (.t 1), none⟩, ⟨(some 35), .mv (.c (.int .i64 0)), none⟩] [35, 34, 8, 0])
 (.block 0
  (.loop [35, 34, 8, 0]
   (.seq
   (.ops [⟨(some 36), .bin .lss (.t 35) (.t 34), none⟩] [36, 35, 8, 0, 34])
   (.seq
   (.cond (.t 36)
    .skip
    (.exit 0))
   (.seq
   (.block 1
    (.seq
    (.ops [⟨(some 37), .mv (.t 35), none⟩, ⟨(some 9), .mv (.t 37), none⟩] [8, 0, 9, 35, 34])
    (.ops [⟨(some 38), .mv (.t 8), none⟩, ⟨(some 39), .mv (.t 0), none⟩, ⟨(some 40), .mv (.t 9), none⟩, ⟨(some 41), .call (.c (.func 175 [])) [(.t 39), (.t 40)], none⟩, ⟨(some 42), .bin .add (.t 38) (.t 41), none⟩, ⟨(some 8), .mv (.t 42), none⟩] [35, 34, 8, 0])))
   (.ops [⟨(some 43), .bin .add (.t 35) (.c (.int .i64 1)), none⟩, ⟨(some 35), .mv (.t 43), none⟩] [35, 34, 8, 0])))))))
 (.seq
 (.ops [⟨(some 44), .mv (.t 8), none⟩, ⟨(some 6), .mv (.t 44), none⟩, ⟨(some 7), .mv (.c (.bool true)), none⟩] [6, 7])
 .ret))))),
 none⟩
theorem c123 : cFunc Tryz.prog true none [[0, 2, 1], [26, 0, 2, 1], [6, 7], [1, 8, 0], [35, 34, 8, 0], [35, 34, 8, 0], [36, 35, 8, 0, 34], [8, 0, 9, 35, 34], [35, 34, 8, 0], [35, 34, 8, 0], [6, 7]] Tryz.f123 = some m123 := by kernel_rfl

/-- letterbox/date.year -/
def m124 : MFunc := ⟨23, 1, [.t 2],
 (.seq
 (.ops [⟨(some 2), .mv (.c (.int .i64 0)), none⟩] [0])
 (.seq
 (.ops [⟨(some 4), .mv (.t 0), none⟩, ⟨(some 5), .mkSlice 1 (.int .i64 0) 2 [(0, (.c (.int .i64 2))), (1, (.c (.int .i64 4)))], none⟩, ⟨(some 6), .call (.c (.func 125 [])) [(.t 4), (.t 5)], none⟩, ⟨(some 3), .mv (.t 6), none⟩] [0, 3])
 (.seq
 (.block 0
  (.seq
  (.ops [⟨(some 8), .mv (.t 0), none⟩, ⟨(some 9), .lenS (.t 8), none⟩, ⟨(some 10), .bin .neq (.t 9) (.c (.int .i64 2)), none⟩, ⟨(some 11), .mv (.t 10), none⟩, ⟨(some 12), .mv (.t 3), (some (11, false))⟩, ⟨(some 13), .bin .lss (.t 12) (.c (.int .i64 0)), (some (11, false))⟩, ⟨(some 14), .pick (.t 11) (.c (.bool true)) (.t 13), none⟩, ⟨(some 7), .mv (.t 14), none⟩] [7, 3])
  (.cond (.t 7)
   (.seq
   (.ops [⟨(some 15), .mv (.t 3), none⟩, ⟨(some 2), .mv (.t 15), none⟩] [2])
   .ret)
   (.seq
   (.ops [⟨(some 17), .mv (.t 3), none⟩, ⟨(some 18), .bin .lss (.t 17) (.c (.int .i64 50)), none⟩, ⟨(some 16), .mv (.t 18), none⟩] [16, 3])
   (.cond (.t 16)
    (.seq
    (.ops [⟨(some 19), .mv (.t 3), none⟩, ⟨(some 20), .bin .add (.t 19) (.c (.int .i64 2000)), none⟩, ⟨(some 2), .mv (.t 20), none⟩] [2])
    .ret)
    .skip)))))
 (.seq
 (.ops [⟨(some 21), .mv (.t 3), none⟩, ⟨(some 22), .bin .add (.t 21) (.c (.int .i64 1900)), none⟩, ⟨(some 2), .mv (.t 22), none⟩] [2])
 .ret)))),
 none⟩
theorem c124 : cFunc Tryz.prog true none [[0], [0, 3], [7, 3], [2], [16, 3], [2], [2]] Tryz.f124 = some m124 := by kernel_rfl

/-- letterbox/date.digits -/
def m125 : MFunc := ⟨45, 2, [.t 4],
 (.seq
 (.ops [⟨(some 4), .mv (.c (.int .i64 0)), none⟩] [0, 1])
 (.seq
 (.ops [⟨(some 5), .mv (.c (.int .i64 0)), none⟩] [0, 5, 1])
 (.seq
 (.seq
 (.ops [⟨(some 9), .mv (.t 0), none⟩, ⟨(some 10), .lenS (.t 9), none⟩, ⟨(some 11), .mv (.c (.int .i64 0)), none⟩] [11, 10, 0, 5, 1])
 (.block 0
  (.loop [11, 10, 0, 5, 1]
   (.seq
   (.ops [⟨(some 12), .bin .lss (.t 11) (.t 10), none⟩] [12, 11, 0, 5, 10, 1])
   (.seq
   (.cond (.t 12)
    .skip
    (.exit 0))
   (.seq
   (.block 1
    (.seq
    (.ops [⟨(some 13), .mv (.t 11), none⟩, ⟨(some 6), .mv (.t 13), none⟩] [0, 6, 5, 11, 10, 1])
    (.seq
    (.seq
    (.ops [⟨(some 14), .mv (.t 0), none⟩, ⟨(some 15), .mv (.t 6), none⟩, ⟨(some 16), .idxStr (.t 14) (.t 15), none⟩, ⟨(some 17), .bin .lss (.t 16) (.c (.int .u8 48)), none⟩, ⟨(some 18), .mv (.t 17), none⟩, ⟨(some 19), .mv (.t 0), (some (18, false))⟩, ⟨(some 20), .mv (.t 6), (some (18, false))⟩, ⟨(some 21), .idxStr (.t 19) (.t 20), (some (18, false))⟩, ⟨(some 22), .bin .gtr (.t 21) (.c (.int .u8 57)), (some (18, false))⟩, ⟨(some 23), .pick (.t 18) (.c (.bool true)) (.t 22), none⟩] [23, 5, 0, 6, 11, 10, 1])
    (.cond (.t 23)
     (.seq
     (.ops [⟨(some 4), .mv (.c (.int .i64 (-1))), none⟩] [4])
     .ret)
     .skip))
    (.ops [⟨(some 24), .mv (.t 5), none⟩, ⟨(some 25), .bin .mul (.c (.int .i64 10)) (.t 24), none⟩, ⟨(some 26), .mv (.t 0), none⟩, ⟨(some 27), .mv (.t 6), none⟩, ⟨(some 28), .idxStr (.t 26) (.t 27), none⟩, ⟨(some 29), .bin .sub (.t 28) (.c (.int .u8 48)), none⟩, ⟨(some 30), .conv (.int .i64) (.t 29), none⟩, ⟨(some 31), .bin .add (.t 25) (.t 30), none⟩, ⟨(some 5), .mv (.t 31), none⟩] [11, 10, 0, 5, 1]))))
   (.ops [⟨(some 32), .bin .add (.t 11) (.c (.int .i64 1)), none⟩, ⟨(some 11), .mv (.t 32), none⟩] [11, 10, 0, 5, 1])))))))
 (.seq
 (.seq
 (.ops [⟨(some 33), .mv (.t 1), none⟩, ⟨(some 34), .lenL (.t 33), none⟩, ⟨(some 35), .mv (.c (.int .i64 0)), none⟩] [35, 34, 33, 0, 5])
 (.block 2
  (.loop [35, 34, 33, 0, 5]
   (.seq
   (.ops [⟨(some 36), .bin .lss (.t 35) (.t 34), none⟩] [36, 33, 35, 0, 5, 34])
   (.seq
   (.cond (.t 36)
    .skip
    (.exit 2))
   (.seq
   (.block 3
    (.seq
    (.ops [⟨(some 37), .idxA 1 (.t 33) (.t 35), none⟩, ⟨(some 38), .load none (.t 37), none⟩, ⟨(some 8), .mv (.t 38), none⟩] [0, 8, 5, 35, 34, 33])
    (.seq
    (.ops [⟨(some 39), .mv (.t 0), none⟩, ⟨(some 40), .lenS (.t 39), none⟩, ⟨(some 41), .mv (.t 8), none⟩, ⟨(some 42), .bin .eql (.t 40) (.t 41), none⟩] [42, 5, 35, 34, 33, 0])
    (.cond (.t 42)
     (.seq
     (.ops [⟨(some 43), .mv (.t 5), none⟩, ⟨(some 4), .mv (.t 43), none⟩] [4])
     .ret)
     .skip))))
   (.ops [⟨(some 44), .bin .add (.t 35) (.c (.int .i64 1)), none⟩, ⟨(some 35), .mv (.t 44), none⟩] [35, 34, 33, 0, 5])))))))
 (.seq
 (.ops [⟨(some 4), .mv (.c (.int .i64 (-1))), none⟩] [4])
 .ret))))),
 none⟩
theorem c125 : cFunc Tryz.prog true none [[0, 1], [0, 5, 1], [11, 10, 0, 5, 1], [11, 10, 0, 5, 1], [12, 11, 0, 5, 10, 1], [0, 6, 5, 11, 10, 1], [23, 5, 0, 6, 11, 10, 1], [4], [11, 10, 0, 5, 1], [11, 10, 0, 5, 1], [35, 34, 33, 0, 5], [35, 34, 33, 0, 5], [36, 33, 35, 0, 5, 34], [0, 8, 5, 35, 34, 33], [42, 5, 35, 34, 33, 0], [4], [35, 34, 33, 0, 5], [4]] Tryz.f125 = some m125 := by kernel_rfl

/-- letterbox/date.moment -/
def m126 : MFunc := ⟨16, 3, [.cell 6 (some 2)],
 (.seq
 (.ops [⟨(some 6), .alloc 124 [(.int .i64 0), (.int .i64 0)], none⟩] [0, 1, 2, 6])
 (.seq
 (.ops [⟨(some 7), .mv (.t 0), none⟩, ⟨(some 8), .bin .mul (.t 7) (.c (.int .i64 86400)), none⟩, ⟨(some 9), .mv (.t 1), none⟩, ⟨(some 10), .bin .add (.t 8) (.t 9), none⟩, ⟨(some 11), .mv (.t 2), none⟩, ⟨(some 12), .bin .mul (.t 11) (.c (.int .i64 60)), none⟩, ⟨(some 13), .bin .sub (.t 10) (.t 12), none⟩, ⟨(some 14), .mv (.t 2), none⟩, ⟨(some 15), .build [(.int .i64 0), (.int .i64 0)] [(0, 1, (.t 13)), (1, 1, (.t 14))], none⟩, ⟨none, .store 2 (.t 6) (.t 15), none⟩] [6])
 .ret)),
 none⟩
theorem c126 : cFunc Tryz.prog true none [[0, 1, 2, 6], [6]] Tryz.f126 = some m126 := by kernel_rfl

/-- letterbox/header.Find -/
def m127 : MFunc := ⟨17, 2, [.cell 4 (some 4), .t 5],
 (.seq
 (.ops [⟨(some 3), .box 9 (.t 1), none⟩, ⟨(some 4), .alloc 131 [(.str []), (.int .i64 0), (.int .i64 0), (.int .i64 0)], none⟩, ⟨(some 5), .mv (.c (.bool false)), none⟩] [0, 3, 4])
 (.seq
 (.ops [⟨(some 7), .mv (.t 0), none⟩, ⟨(some 8), .func 177 [(.t 3)], none⟩, ⟨(some 9), .call (.c (.func 129 [])) [(.t 7), (.t 8)], none⟩, ⟨(some 6), .mv (.t 9), none⟩] [6, 4, 0])
 (.seq
 (.seq
 (.ops [⟨(some 10), .mv (.t 6), none⟩, ⟨(some 11), .bin .lss (.t 10) (.c (.int .i64 0)), none⟩] [11, 4, 0, 6])
 (.cond (.t 11)
  (.seq
  (.ops [⟨(some 12), .build [(.str []), (.int .i64 0), (.int .i64 0), (.int .i64 0)] [], none⟩, ⟨none, .store 4 (.t 4) (.t 12), none⟩, ⟨(some 5), .mv (.c (.bool false)), none⟩] [4, 5])
  .ret)
  .skip))
 (.seq
 (.ops [⟨(some 13), .mv (.t 0), none⟩, ⟨(some 14), .mv (.t 6), none⟩, ⟨(some 15), .idxA 4 (.t 13) (.t 14), none⟩, ⟨(some 16), .load (some 4) (.t 15), none⟩, ⟨none, .store 4 (.t 4) (.t 16), none⟩, ⟨(some 5), .mv (.c (.bool true)), none⟩] [4, 5])
 .ret)))),
 none⟩
theorem c127 : cFunc Tryz.prog true none [[0, 3, 4], [6, 4, 0], [11, 4, 0, 6], [4, 5], [4, 5]] Tryz.f127 = some m127 := by kernel_rfl

/-- letterbox/date.floor -/
def m128 : MFunc := ⟨16, 2, [.t 4],
 (.seq
 (.ops [⟨(some 4), .mv (.c (.int .i64 0)), none⟩] [0, 1])
 (.seq
 (.ops [⟨(some 6), .mv (.t 0), none⟩, ⟨(some 7), .mv (.t 1), none⟩, ⟨(some 8), .bin .quo (.t 6) (.t 7), none⟩, ⟨(some 5), .mv (.t 8), none⟩] [0, 1, 5])
 (.seq
 (.seq
 (.ops [⟨(some 9), .mv (.t 0), none⟩, ⟨(some 10), .mv (.t 1), none⟩, ⟨(some 11), .bin .rem (.t 9) (.t 10), none⟩, ⟨(some 12), .bin .lss (.t 11) (.c (.int .i64 0)), none⟩] [12, 5])
 (.cond (.t 12)
  (.ops [⟨(some 13), .mv (.t 5), none⟩, ⟨(some 14), .bin .sub (.t 13) (.c (.int .i64 1)), none⟩, ⟨(some 5), .mv (.t 14), none⟩] [5])
  .skip))
 (.seq
 (.ops [⟨(some 15), .mv (.t 5), none⟩, ⟨(some 4), .mv (.t 15), none⟩] [4])
 .ret)))),
 none⟩
theorem c128 : cFunc Tryz.prog true none [[0, 1], [0, 1, 5], [12, 5], [5], [4]] Tryz.f128 = some m128 := by kernel_rfl

/-- slices.IndexFunc[[]letterbox/header.Field,letterbox/header.Field] -/
def m129 : MFunc := ⟨19, 2, [.t 4],
 (.seq
 (.ops [⟨(some 4), .mv (.c (.int .i64 0)), none⟩] [0, 1])
 (.seq
 (.seq
 (.ops [⟨(some 6), .mv (.t 0), none⟩, ⟨(some 7), .lenL (.t 6), none⟩, ⟨(some 8), .mv (.c (.int .i64 0)), none⟩] [8, 7, 1, 0])
 (.block 0
  (.loop [8, 7, 1, 0]
   (.seq
   (.ops [⟨(some 9), .bin .lss (.t 8) (.t 7), none⟩] [9, 8, 1, 0, 7])
   (.seq
   (.cond (.t 9)
    .skip
    (.exit 0))
   (.seq
   (.block 1
    (.seq
    (.ops [⟨(some 10), .mv (.t 8), none⟩, ⟨(some 5), .mv (.t 10), none⟩] [1, 0, 5, 8, 7])
    (.seq
    (.ops [⟨(some 11), .mv (.t 1), none⟩, ⟨(some 12), .mv (.t 0), none⟩, ⟨(some 13), .mv (.t 5), none⟩, ⟨(some 14), .idxA 4 (.t 12) (.t 13), none⟩, ⟨(some 15), .load (some 4) (.t 14), none⟩, ⟨(some 16), .call (.t 11) [(.t 15)], none⟩] [16, 5, 8, 7, 1, 0])
    (.cond (.t 16)
     (.seq
     (.ops [⟨(some 17), .mv (.t 5), none⟩, ⟨(some 4), .mv (.t 17), none⟩] [4])
     .ret)
     .skip))))
   (.ops [⟨(some 18), .bin .add (.t 8) (.c (.int .i64 1)), none⟩, ⟨(some 8), .mv (.t 18), none⟩] [8, 7, 1, 0])))))))
 (.seq
 (.ops [⟨(some 4), .mv (.c (.int .i64 (-1))), none⟩] [4])
 .ret))),
 none⟩
theorem c129 : cFunc Tryz.prog true none [[0, 1], [8, 7, 1, 0], [8, 7, 1, 0], [9, 8, 1, 0, 7], [1, 0, 5, 8, 7], [16, 5, 8, 7, 1, 0], [4], [8, 7, 1, 0], [4]] Tryz.f129 = some m129 := by kernel_rfl

/-- letterbox/words.blanks -/
def m130 : MFunc := ⟨17, 1, [.t 2],
 (.seq
 (.ops [⟨(some 2), .mv (.c (.int .i64 0)), none⟩] [0])
 (.seq
 (.ops [⟨(some 3), .mv (.c (.int .i64 0)), none⟩] [3, 0])
 (.seq
 (.block 0
  (.loop [3, 0]
   (.seq
   (.seq
   (.ops [⟨(some 4), .mv (.t 3), none⟩, ⟨(some 5), .mv (.t 0), none⟩, ⟨(some 6), .lenS (.t 5), none⟩, ⟨(some 7), .bin .lss (.t 4) (.t 6), none⟩, ⟨(some 8), .mv (.t 7), none⟩, ⟨(some 9), .mv (.t 0), (some (8, true))⟩, ⟨(some 10), .mv (.t 3), (some (8, true))⟩, ⟨(some 11), .idxStr (.t 9) (.t 10), (some (8, true))⟩, ⟨(some 12), .call (.c (.func 173 [])) [(.t 11)], (some (8, true))⟩, ⟨(some 13), .pick (.t 8) (.t 12) (.c (.bool false)), none⟩] [13, 3, 0])
   (.cond (.t 13)
    .skip
    (.exit 0)))
   (.block 1
    (.ops [⟨(some 14), .mv (.t 3), none⟩, ⟨(some 15), .bin .add (.t 14) (.c (.int .i64 1)), none⟩, ⟨(some 3), .mv (.t 15), none⟩] [3, 0])))))
 (.seq
 (.ops [⟨(some 16), .mv (.t 3), none⟩, ⟨(some 2), .mv (.t 16), none⟩] [2])
 .ret)))),
 none⟩
theorem c130 : cFunc Tryz.prog true none [[0], [3, 0], [3, 0], [13, 3, 0], [3, 0], [2]] Tryz.f130 = some m130 := by kernel_rfl

/-- letterbox/words.Word -/
def m131 : MFunc := ⟨106, 1, [.t 2, .t 3],
 (.seq
 (.ops [⟨(some 2), .mv (.c (.str [])), none⟩, ⟨(some 3), .mv (.c (.int .i64 0)), none⟩] [0])
 (.seq
 (.seq
 (.ops [⟨(some 15), .mv (.t 0), none⟩, ⟨(some 16), .call (.c (.func 178 [])) [(.t 15), (.c (.str [61, 63]))], none⟩, ⟨(some 17), .un .not (.t 16), none⟩] [17, 0])
 (.cond (.t 17)
  (.seq
  (.ops [⟨(some 2), .mv (.c (.str [])), none⟩, ⟨(some 3), .mv (.c (.int .i64 0)), none⟩] [2, 3])
  .ret)
  .skip))
 (.seq
 (.ops [⟨(some 19), .mv (.t 0), none⟩, ⟨(some 20), .sliceStr (.t 19) (some (.c (.int .i64 2))) none, none⟩, ⟨(some 21), .call (.c (.func 112 [])) [(.t 20), (.c (.str [63]))], none⟩, ⟨(some 18), .mv (.t 21), none⟩, ⟨(some 22), .extract (.t 18) 0, none⟩, ⟨(some 23), .extract (.t 18) 1, none⟩, ⟨(some 24), .extract (.t 18) 2, none⟩, ⟨(some 4), .mv (.t 22), none⟩, ⟨(some 5), .mv (.t 23), none⟩, ⟨(some 6), .mv (.t 24), none⟩] [6, 5, 4, 0])
 (.seq
 (.seq
 (.ops [⟨(some 25), .mv (.t 6), none⟩, ⟨(some 26), .un .not (.t 25), none⟩, ⟨(some 27), .mv (.t 26), none⟩, ⟨(some 28), .mv (.t 5), (some (27, false))⟩, ⟨(some 29), .lenS (.t 28), (some (27, false))⟩, ⟨(some 30), .bin .lss (.t 29) (.c (.int .i64 2)), (some (27, false))⟩, ⟨(some 31), .pick (.t 27) (.c (.bool true)) (.t 30), none⟩, ⟨(some 32), .mv (.t 31), none⟩, ⟨(some 33), .mv (.t 5), (some (32, false))⟩, ⟨(some 34), .idxStr (.t 33) (.c (.int .i64 1)), (some (32, false))⟩, ⟨(some 35), .bin .neq (.t 34) (.c (.int .u8 63)), (some (32, false))⟩, ⟨(some 36), .pick (.t 32) (.c (.bool true)) (.t 35), none⟩] [36, 5, 4, 0])
 (.cond (.t 36)
  (.seq
  (.ops [⟨(some 2), .mv (.c (.str [])), none⟩, ⟨(some 3), .mv (.c (.int .i64 0)), none⟩] [2, 3])
  .ret)
  .skip))
 (.seq
 (.ops [⟨(some 38), .mv (.t 5), none⟩, ⟨(some 39), .sliceStr (.t 38) (some (.c (.int .i64 2))) none, none⟩, ⟨(some 40), .call (.c (.func 112 [])) [(.t 39), (.c (.str [63]))], none⟩, ⟨(some 37), .mv (.t 40), none⟩, ⟨(some 41), .extract (.t 37) 0, none⟩, ⟨(some 42), .extract (.t 37) 1, none⟩, ⟨(some 43), .extract (.t 37) 2, none⟩, ⟨(some 7), .mv (.t 41), none⟩, ⟨(some 8), .mv (.t 42), none⟩, ⟨(some 6), .mv (.t 43), none⟩] [6, 7, 4, 0, 5])
 (.seq
 (.seq
 (.ops [⟨(some 44), .mv (.t 6), none⟩, ⟨(some 45), .un .not (.t 44), none⟩, ⟨(some 46), .mv (.t 45), none⟩, ⟨(some 47), .mv (.t 7), (some (46, false))⟩, ⟨(some 48), .call (.c (.func 179 [])) [(.t 47), (.c (.str [32, 9]))], (some (46, false))⟩, ⟨(some 49), .pick (.t 46) (.c (.bool true)) (.t 48), none⟩] [49, 4, 7, 0, 5])
 (.cond (.t 49)
  (.seq
  (.ops [⟨(some 2), .mv (.c (.str [])), none⟩, ⟨(some 3), .mv (.c (.int .i64 0)), none⟩] [2, 3])
  .ret)
  .skip))
 (.seq
 (.ops [⟨(some 50), .mv (.t 4), none⟩, ⟨(some 51), .lenS (.t 50), none⟩, ⟨(some 52), .bin .add (.c (.int .i64 2)) (.t 51), none⟩, ⟨(some 53), .bin .add (.t 52) (.c (.int .i64 1)), none⟩, ⟨(some 54), .bin .add (.t 53) (.c (.int .i64 2)), none⟩, ⟨(some 55), .mv (.t 7), none⟩, ⟨(some 56), .lenS (.t 55), none⟩, ⟨(some 57), .bin .add (.t 54) (.t 56), none⟩, ⟨(some 58), .bin .add (.t 57) (.c (.int .i64 2)), none⟩, ⟨(some 9), .mv (.t 58), none⟩] [9, 0, 4, 5, 7])
 (.seq
 (.seq
 (.ops [⟨(some 59), .mv (.t 9), none⟩, ⟨(some 60), .mv (.t 0), none⟩, ⟨(some 61), .lenS (.t 60), none⟩, ⟨(some 62), .bin .gtr (.t 59) (.t 61), none⟩, ⟨(some 63), .mv (.t 62), none⟩, ⟨(some 64), .mv (.t 0), (some (63, false))⟩, ⟨(some 65), .mv (.t 9), (some (63, false))⟩, ⟨(some 66), .bin .sub (.t 65) (.c (.int .i64 2)), (some (63, false))⟩, ⟨(some 67), .mv (.t 9), (some (63, false))⟩, ⟨(some 68), .sliceStr (.t 64) (some (.t 66)) (some (.t 67)), (some (63, false))⟩, ⟨(some 69), .bin .neq (.t 68) (.c (.str [63, 61])), (some (63, false))⟩, ⟨(some 70), .pick (.t 63) (.c (.bool true)) (.t 69), none⟩] [70, 4, 5, 7, 9])
 (.cond (.t 70)
  (.seq
  (.ops [⟨(some 2), .mv (.c (.str [])), none⟩, ⟨(some 3), .mv (.c (.int .i64 0)), none⟩] [2, 3])
  .ret)
  .skip))
 (.seq
 (.ops [⟨(some 72), .mv (.t 4), none⟩, ⟨(some 73), .call (.c (.func 112 [])) [(.t 72), (.c (.str [42]))], none⟩, ⟨(some 71), .mv (.t 73), none⟩, ⟨(some 74), .extract (.t 71) 0, none⟩, ⟨(some 75), .extract (.t 71) 1, none⟩, ⟨(some 76), .extract (.t 71) 2, none⟩, ⟨(some 4), .mv (.t 74), none⟩] [5, 7, 4, 9])
 (.seq
 (.ops [⟨(some 78), .makeMap (some .u8), none⟩, ⟨none, .insert (some .u8) (.t 78) (.c (.int .u8 98)) (.c (.func 180 [])), none⟩, ⟨none, .insert (some .u8) (.t 78) (.c (.int .u8 113)) (.c (.func 182 [])), none⟩, ⟨(some 79), .mv (.t 78), none⟩, ⟨(some 80), .mv (.t 5), none⟩, ⟨(some 81), .idxStr (.t 80) (.c (.int .i64 0)), none⟩, ⟨(some 82), .call (.c (.func 71 [])) [(.t 81)], none⟩, ⟨(some 83), .lookup (some .u8) .nilfunc true (.t 79) (.t 82), none⟩, ⟨(some 77), .mv (.t 83), none⟩, ⟨(some 84), .extract (.t 77) 0, none⟩, ⟨(some 85), .extract (.t 77) 1, none⟩, ⟨(some 10), .mv (.t 84), none⟩, ⟨(some 6), .mv (.t 85), none⟩] [6, 10, 7, 4, 9])
 (.seq
 (.seq
 (.ops [⟨(some 86), .mv (.t 6), none⟩, ⟨(some 87), .un .not (.t 86), none⟩] [87, 10, 7, 4, 9])
 (.cond (.t 87)
  (.seq
  (.ops [⟨(some 2), .mv (.c (.str [])), none⟩, ⟨(some 3), .mv (.c (.int .i64 0)), none⟩] [2, 3])
  .ret)
  .skip))
 (.seq
 (.ops [⟨(some 89), .mv (.t 10), none⟩, ⟨(some 90), .mv (.t 7), none⟩, ⟨(some 91), .call (.t 89) [(.t 90)], none⟩, ⟨(some 88), .mv (.t 91), none⟩, ⟨(some 92), .extract (.t 88) 0, none⟩, ⟨(some 93), .extract (.t 88) 1, none⟩, ⟨(some 11), .mv (.t 92), none⟩, ⟨(some 12), .mv (.t 93), none⟩] [12, 4, 11, 9])
 (.seq
 (.seq
 (.ops [⟨(some 94), .mv (.t 12), none⟩, ⟨(some 95), .un .not (.t 94), none⟩] [95, 4, 11, 9])
 (.cond (.t 95)
  (.seq
  (.ops [⟨(some 2), .mv (.c (.str [])), none⟩, ⟨(some 3), .mv (.c (.int .i64 0)), none⟩] [2, 3])
  .ret)
  .skip))
 (.seq
 (.ops [⟨(some 97), .mv (.t 4), none⟩, ⟨(some 98), .mv (.t 11), none⟩, ⟨(some 99), .call (.c (.func 183 [])) [(.t 97), (.t 98)], none⟩, ⟨(some 96), .mv (.t 99), none⟩, ⟨(some 100), .extract (.t 96) 0, none⟩, ⟨(some 101), .extract (.t 96) 1, none⟩, ⟨(some 13), .mv (.t 100), none⟩, ⟨(some 14), .mv (.t 101), none⟩] [14, 13, 9])
 (.seq
 (.seq
 (.ops [⟨(some 102), .mv (.t 14), none⟩, ⟨(some 103), .bin .neq (.t 102) (.c (.int .i64 0)), none⟩] [103, 13, 9])
 (.cond (.t 103)
  (.seq
  (.ops [⟨(some 2), .mv (.c (.str [])), none⟩, ⟨(some 3), .mv (.c (.int .i64 0)), none⟩] [2, 3])
  .ret)
  .skip))
 (.seq
 (.ops [⟨(some 104), .mv (.t 13), none⟩, ⟨(some 105), .mv (.t 9), none⟩, ⟨(some 2), .mv (.t 104), none⟩, ⟨(some 3), .mv (.t 105), none⟩] [2, 3])
 .ret)))))))))))))))),
 none⟩
theorem c131 : cFunc Tryz.prog true none [[0], [17, 0], [2, 3], [6, 5, 4, 0], [36, 5, 4, 0], [2, 3], [6, 7, 4, 0, 5], [49, 4, 7, 0, 5], [2, 3], [9, 0, 4, 5, 7], [70, 4, 5, 7, 9], [2, 3], [5, 7, 4, 9], [6, 10, 7, 4, 9], [87, 10, 7, 4, 9], [2, 3], [12, 4, 11, 9], [95, 4, 11, 9], [2, 3], [14, 13, 9], [103, 13, 9], [2, 3], [2, 3]] Tryz.f131 = some m131 := by kernel_rfl

/-- (*strings.Builder).WriteString -/
def m132 : MFunc := ⟨19, 2, [.t 4, .t 5],
 (.seq
 (.ops [⟨(some 4), .mv (.c (.int .i64 0)), none⟩, ⟨(some 5), .mv (.c .nilif), none⟩] [0, 1])
 (.seq
 (.ops [⟨(some 6), .mv (.t 0), none⟩, ⟨(some 7), .call (.c (.func 184 [])) [(.t 6)], none⟩] [0, 1])
 (.seq
 (.ops [⟨(some 8), .mv (.t 0), none⟩, ⟨(some 9), .mv (.t 0), none⟩, ⟨(some 10), .nilCheck (.t 9), none⟩, ⟨(some 11), .fieldA (.t 10) 1, none⟩, ⟨(some 12), .load none (.t 11), none⟩, ⟨(some 13), .mv (.t 1), none⟩, ⟨(some 14), .append 5 1 1 (.t 12) (.t 13), none⟩, ⟨(some 15), .nilCheck (.t 8), none⟩, ⟨(some 16), .fieldA (.t 15) 1, none⟩, ⟨none, .store 1 (.t 16) (.t 14), none⟩] [1])
 (.seq
 (.ops [⟨(some 17), .mv (.t 1), none⟩, ⟨(some 18), .lenS (.t 17), none⟩, ⟨(some 4), .mv (.t 18), none⟩, ⟨(some 5), .mv (.c .nilif), none⟩] [4, 5])
 .ret)))),
 (some [0])⟩
theorem c132 : cFunc Tryz.prog true (some [0]) [[0, 1], [0, 1], [1], [4, 5]] Tryz.f132 = some m132 := by kernel_rfl

/-- letterbox/lines.Text -/
def m135 : MFunc := ⟨21, 2, [.t 4],
 (.seq
 (.ops [⟨(some 3), .box 196 (.t 1), none⟩, ⟨(some 4), .mv (.c (.str [])), none⟩] [3, 0])
 (.seq
 (.seq
 (.ops [⟨(some 5), .fieldA (.t 3) 0, none⟩, ⟨(some 6), .load none (.t 5), none⟩, ⟨(some 7), .fieldA (.t 3) 1, none⟩, ⟨(some 8), .load none (.t 7), none⟩, ⟨(some 9), .build [(.int .i64 0), (.int .i64 0)] [(0, 1, (.t 6)), (1, 1, (.t 8))], none⟩, ⟨(some 10), .mv (.t 0), none⟩, ⟨(some 11), .lenL (.t 10), none⟩, ⟨(some 12), .call (.c (.func 185 [])) [(.t 9), (.t 11)], none⟩, ⟨(some 13), .un .not (.t 12), none⟩] [13, 0, 3])
 (.cond (.t 13)
  (.seq
  (.ops [⟨(some 4), .mv (.c (.str [])), none⟩] [4])
  .ret)
  .skip))
 (.seq
 (.ops [⟨(some 14), .mv (.t 0), none⟩, ⟨(some 15), .fieldA (.t 3) 0, none⟩, ⟨(some 16), .load none (.t 15), none⟩, ⟨(some 17), .fieldA (.t 3) 1, none⟩, ⟨(some 18), .load none (.t 17), none⟩, ⟨(some 19), .slice 1 (.t 14) (some (.t 16)) (some (.t 18)) none, none⟩, ⟨(some 20), .conv .bytesStr (.t 19), none⟩, ⟨(some 4), .mv (.t 20), none⟩] [4])
 .ret))),
 none⟩
theorem c135 : cFunc Tryz.prog true none [[3, 0], [13, 0, 3], [4], [4]] Tryz.f135 = some m135 := by kernel_rfl

/-- letterbox/chars.Trim -/
def m136 : MFunc := ⟨30, 1, [.t 2],
 (.seq
 (.ops [⟨(some 2), .mv (.c (.str [])), none⟩] [0])
 (.seq
 (.block 0
  (.loop [0]
   (.seq
   (.seq
   (.ops [⟨(some 3), .mv (.t 0), none⟩, ⟨(some 4), .lenS (.t 3), none⟩, ⟨(some 5), .bin .gtr (.t 4) (.c (.int .i64 0)), none⟩, ⟨(some 6), .mv (.t 5), none⟩, ⟨(some 7), .mv (.t 0), (some (6, true))⟩, ⟨(some 8), .idxStr (.t 7) (.c (.int .i64 0)), (some (6, true))⟩, ⟨(some 9), .call (.c (.func 173 [])) [(.t 8)], (some (6, true))⟩, ⟨(some 10), .pick (.t 6) (.t 9) (.c (.bool false)), none⟩] [10, 0])
   (.cond (.t 10)
    .skip
    (.exit 0)))
   (.block 1
    (.ops [⟨(some 11), .mv (.t 0), none⟩, ⟨(some 12), .sliceStr (.t 11) (some (.c (.int .i64 1))) none, none⟩, ⟨(some 0), .mv (.t 12), none⟩] [0])))))
 (.seq
 (.block 2
  (.loop [0]
   (.seq
   (.seq
   (.ops [⟨(some 13), .mv (.t 0), none⟩, ⟨(some 14), .lenS (.t 13), none⟩, ⟨(some 15), .bin .gtr (.t 14) (.c (.int .i64 0)), none⟩, ⟨(some 16), .mv (.t 15), none⟩, ⟨(some 17), .mv (.t 0), (some (16, true))⟩, ⟨(some 18), .mv (.t 0), (some (16, true))⟩, ⟨(some 19), .lenS (.t 18), (some (16, true))⟩, ⟨(some 20), .bin .sub (.t 19) (.c (.int .i64 1)), (some (16, true))⟩, ⟨(some 21), .idxStr (.t 17) (.t 20), (some (16, true))⟩, ⟨(some 22), .call (.c (.func 173 [])) [(.t 21)], (some (16, true))⟩, ⟨(some 23), .pick (.t 16) (.t 22) (.c (.bool false)), none⟩] [23, 0])
   (.cond (.t 23)
    .skip
    (.exit 2)))
   (.block 3
    (.ops [⟨(some 24), .mv (.t 0), none⟩, ⟨(some 25), .mv (.t 0), none⟩, ⟨(some 26), .lenS (.t 25), none⟩, ⟨(some 27), .bin .sub (.t 26) (.c (.int .i64 1)), none⟩, ⟨(some 28), .sliceStr (.t 24) none (some (.t 27)), none⟩, ⟨(some 0), .mv (.t 28), none⟩] [0])))))
 (.seq
 (.ops [⟨(some 29), .mv (.t 0), none⟩, ⟨(some 2), .mv (.t 29), none⟩] [2])
 .ret)))),
 none⟩
theorem c136 : cFunc Tryz.prog true none [[0], [0], [10, 0], [0], [0], [23, 0], [0], [2]] Tryz.f136 = some m136 := by kernel_rfl

/-- (*letterbox/tree.parser).entity -/
def m138 : MFunc := ⟨140, 4, [.cell 8 (some 9)],
 (.seq
 (.ops [⟨(some 5), .box 78 (.t 1), none⟩, ⟨(some 8), .alloc 82 [(.int .i64 0), (.int .i64 0), (.int .i64 0), (.int .i64 0), (.int .i64 0), .nilslice, .nilslice, (.int .i64 0), (.int .i64 0)], none⟩] [0, 5, 2, 8, 3])
 (.seq
 (.draw [⟨⟨(some 19), .mv (.t 0), none⟩, none⟩, ⟨⟨(some 20), .nilCheck (.t 19), none⟩, none⟩, ⟨⟨(some 21), .fieldA (.t 20) 0, none⟩, none⟩, ⟨⟨(some 22), .load none (.t 21), none⟩, none⟩, ⟨⟨(some 23), .load (some 2) (.t 5), none⟩, none⟩, ⟨⟨(some 24), .call (.c (.func 73 [])) [(.t 22), (.t 23)], none⟩, none⟩, ⟨⟨(some 18), .mv (.t 24), none⟩, none⟩, ⟨⟨(some 25), .extract (.t 18) 0, none⟩, none⟩, ⟨⟨(some 26), .extract (.t 18) 1, none⟩, none⟩, ⟨⟨(some 9), .mv (.t 25), none⟩, none⟩, ⟨⟨(some 10), .mv (.t 26), none⟩, none⟩] [] [5, 10, 2, 8, 0, 9, 3])
 (.seq
 (.ops [⟨(some 27), .fieldA (.t 5) 0, none⟩, ⟨(some 28), .load none (.t 27), none⟩, ⟨(some 29), .mv (.t 10), none⟩, ⟨(some 30), .build [(.int .i64 0), (.int .i64 0)] [(0, 1, (.t 28)), (1, 1, (.t 29))], none⟩, ⟨(some 31), .mv (.t 10), none⟩, ⟨(some 32), .fieldA (.t 5) 1, none⟩, ⟨(some 33), .load none (.t 32), none⟩, ⟨(some 34), .build [(.int .i64 0), (.int .i64 0)] [(0, 1, (.t 31)), (1, 1, (.t 33))], none⟩, ⟨(some 35), .build [(.int .i64 0), (.int .i64 0), (.int .i64 0), (.int .i64 0), (.int .i64 0), .nilslice, .nilslice, (.int .i64 0), (.int .i64 0)] [(1, 2, (.t 30)), (3, 2, (.t 34))], none⟩, ⟨(some 11), .alloc 82 [(.int .i64 0), (.int .i64 0), (.int .i64 0), (.int .i64 0), (.int .i64 0), .nilslice, .nilslice, (.int .i64 0), (.int .i64 0)], none⟩, ⟨none, .store 9 (.t 11) (.t 35), none⟩] [2, 11, 8, 0, 9, 3])
 (.seq
 (.seq
 (.ops [⟨(some 36), .mv (.t 2), none⟩, ⟨(some 37), .bin .eql (.t 36) (.c (.int .i64 32)), none⟩] [37, 11, 8, 0, 9, 3, 2])
 (.cond (.t 37)
  (.seq
  (.ops [⟨(some 38), .load (some 9) (.t 11), none⟩, ⟨none, .store 9 (.t 8) (.t 38), none⟩] [8])
  .ret)
  .skip))
 (.seq
 (.ops [⟨(some 39), .mv (.t 0), none⟩, ⟨(some 40), .mv (.t 9), none⟩, ⟨(some 41), .mv (.t 3), none⟩, ⟨(some 42), .call (.c (.func 192 [])) [(.t 39), (.t 40), (.t 41)], none⟩, ⟨(some 12), .alloc 243 [(.str []), (.str []), .nilslice], none⟩, ⟨none, .store 3 (.t 12) (.t 42), none⟩] [12, 0, 11, 2, 8, 9])
 (.seq
 (.seq
 (.ops [⟨(some 44), .load (some 3) (.t 12), none⟩, ⟨(some 45), .call (.c (.func 193 [])) [(.t 44), (.c (.str [98, 111, 117, 110, 100, 97, 114, 121]))], none⟩, ⟨(some 43), .mv (.t 45), none⟩, ⟨(some 46), .extract (.t 43) 0, none⟩, ⟨(some 47), .extract (.t 43) 1, none⟩, ⟨(some 13), .mv (.t 46), none⟩, ⟨(some 14), .mv (.t 47), none⟩] [12, 13, 0, 11, 2, 8, 9])
 (.block 0
  (.seq
  (.ops [⟨(some 49), .fieldA (.t 12) 0, none⟩, ⟨(some 50), .load none (.t 49), none⟩, ⟨(some 51), .bin .eql (.t 50) (.c (.str [109, 117, 108, 116, 105, 112, 97, 114, 116])), none⟩, ⟨(some 52), .mv (.t 51), none⟩, ⟨(some 53), .mv (.t 13), (some (52, true))⟩, ⟨(some 54), .bin .neq (.t 53) (.c (.str [])), (some (52, true))⟩, ⟨(some 55), .pick (.t 52) (.t 54) (.c (.bool false)), none⟩, ⟨(some 56), .mv (.t 55), none⟩, ⟨(some 57), .mv (.t 13), (some (56, true))⟩, ⟨(some 58), .lenS (.t 57), (some (56, true))⟩, ⟨(some 59), .bin .leq (.t 58) (.c (.int .i64 70)), (some (56, true))⟩, ⟨(some 60), .pick (.t 56) (.t 59) (.c (.bool false)), none⟩, ⟨(some 48), .mv (.t 60), none⟩] [48, 0, 11, 13, 2, 12, 8, 9])
  (.cond (.t 48)
   (.seq
   (.ops [⟨(some 62), .mv (.t 0), none⟩, ⟨(some 63), .fieldA (.t 11) 3, none⟩, ⟨(some 64), .load (some 2) (.t 63), none⟩, ⟨(some 65), .mv (.t 13), none⟩, ⟨(some 66), .call (.c (.func 194 [])) [(.t 62), (.t 64), (.t 65)], none⟩, ⟨(some 61), .mv (.t 66), none⟩, ⟨(some 67), .extract (.t 61) 0, none⟩, ⟨(some 68), .extract (.t 61) 1, none⟩, ⟨(some 69), .extract (.t 61) 2, none⟩, ⟨(some 16), .alloc 78 [(.int .i64 0), (.int .i64 0)], none⟩, ⟨(some 15), .mv (.t 67), none⟩, ⟨none, .store 2 (.t 16) (.t 68), none⟩, ⟨(some 17), .mv (.t 69), none⟩] [17, 0, 15, 16, 11, 2, 12, 8])
   (.seq
   (.ops [⟨(some 70), .mv (.t 17), none⟩, ⟨(some 71), .mv (.t 70), none⟩, ⟨(some 72), .mv (.t 0), (some (71, true))⟩, ⟨(some 73), .nilCheck (.t 72), (some (71, true))⟩, ⟨(some 74), .fieldA (.t 73) 1, (some (71, true))⟩, ⟨(some 75), .load none (.t 74), (some (71, true))⟩, ⟨(some 76), .mv (.t 15), (some (71, true))⟩, ⟨(some 77), .lenL (.t 76), (some (71, true))⟩, ⟨(some 78), .bin .add (.t 75) (.t 77), (some (71, true))⟩, ⟨(some 79), .bin .leq (.t 78) (.c (.int .i64 1000)), (some (71, true))⟩, ⟨(some 80), .pick (.t 71) (.t 79) (.c (.bool false)), none⟩] [80, 0, 15, 16, 11, 2, 12, 8])
   (.cond (.t 80)
    (.seq
    (.ops [⟨(some 81), .mv (.t 0), none⟩, ⟨(some 82), .nilCheck (.t 81), none⟩, ⟨(some 83), .fieldA (.t 82) 1, none⟩, ⟨(some 84), .load none (.t 83), none⟩, ⟨(some 85), .mv (.t 15), none⟩, ⟨(some 86), .lenL (.t 85), none⟩, ⟨(some 87), .bin .add (.t 84) (.t 86), none⟩, ⟨(some 88), .nilCheck (.t 81), none⟩, ⟨(some 89), .fieldA (.t 88) 1, none⟩, ⟨none, .store 1 (.t 89) (.t 87), none⟩] [15, 16, 11, 0, 2, 12, 8])
    (.seq
    (.draw [⟨⟨(some 90), .mv (.t 15), none⟩, none⟩, ⟨⟨(some 91), .load (some 2) (.t 16), none⟩, none⟩, ⟨⟨(some 92), .fieldA (.t 11) 0, none⟩, none⟩, ⟨⟨none, .store 1 (.t 92) (.c (.int .i64 1)), none⟩, (some [3])⟩, ⟨⟨(some 93), .fieldA (.t 11) 6, none⟩, none⟩, ⟨⟨none, .store 1 (.t 93) (.t 90), none⟩, (some [3, 5])⟩, ⟨⟨(some 94), .fieldA (.t 11) 7, none⟩, none⟩, ⟨⟨none, .store 2 (.t 94) (.t 91), none⟩, (some [3, 5, 7])⟩] [(0, [3], [3]), (1, [3], [3]), (1, [3, 5], [3, 5])] [0, 2, 12, 11, 8])
    (.ops [⟨(some 95), .mv (.t 0), none⟩, ⟨(some 96), .mv (.t 2), none⟩, ⟨(some 97), .bin .add (.t 96) (.c (.int .i64 1)), none⟩, ⟨(some 98), .fieldA (.t 12) 1, none⟩, ⟨(some 99), .load none (.t 98), none⟩, ⟨(some 100), .bin .eql (.t 99) (.c (.str [100, 105, 103, 101, 115, 116])), none⟩, ⟨(some 101), .call (.c (.func 195 [])) [(.t 95), (.t 11), (.t 97), (.t 100)], none⟩] [11, 8])))
    .skip)))
   (.seq
   (.ops [⟨(some 103), .fieldA (.t 12) 0, none⟩, ⟨(some 104), .load none (.t 103), none⟩, ⟨(some 105), .bin .eql (.t 104) (.c (.str [109, 101, 115, 115, 97, 103, 101])), none⟩, ⟨(some 106), .mv (.t 105), none⟩, ⟨(some 107), .fieldA (.t 12) 1, (some (106, true))⟩, ⟨(some 108), .load none (.t 107), (some (106, true))⟩, ⟨(some 109), .bin .eql (.t 108) (.c (.str [114, 102, 99, 56, 50, 50])), (some (106, true))⟩, ⟨(some 110), .pick (.t 106) (.t 109) (.c (.bool false)), none⟩, ⟨(some 111), .mv (.t 110), none⟩, ⟨(some 112), .mv (.t 0), (some (111, true))⟩, ⟨(some 113), .mv (.t 9), (some (111, true))⟩, ⟨(some 114), .call (.c (.func 196 [])) [(.t 112), (.t 113)], (some (111, true))⟩, ⟨(some 115), .pick (.t 111) (.t 114) (.c (.bool false)), none⟩, ⟨(some 116), .mv (.t 115), none⟩, ⟨(some 117), .mv (.t 0), (some (116, true))⟩, ⟨(some 118), .nilCheck (.t 117), (some (116, true))⟩, ⟨(some 119), .fieldA (.t 118) 1, (some (116, true))⟩, ⟨(some 120), .load none (.t 119), (some (116, true))⟩, ⟨(some 121), .bin .lss (.t 120) (.c (.int .i64 1000)), (some (116, true))⟩, ⟨(some 122), .pick (.t 116) (.t 121) (.c (.bool false)), none⟩, ⟨(some 102), .mv (.t 122), none⟩] [102, 0, 11, 2, 8])
   (.cond (.t 102)
    (.seq
    (.ops [⟨(some 123), .mv (.t 0), none⟩, ⟨(some 124), .nilCheck (.t 123), none⟩, ⟨(some 125), .fieldA (.t 124) 1, none⟩, ⟨(some 126), .load none (.t 125), none⟩, ⟨(some 127), .bin .add (.t 126) (.c (.int .i64 1)), none⟩, ⟨(some 128), .nilCheck (.t 123), none⟩, ⟨(some 129), .fieldA (.t 128) 1, none⟩, ⟨none, .store 1 (.t 129) (.t 127), none⟩] [11, 0, 2, 8])
    (.seq
    (.ops [⟨(some 130), .fieldA (.t 11) 0, none⟩, ⟨none, .store 1 (.t 130) (.c (.int .i64 2)), none⟩] [0, 11, 2, 8])
    (.ops [⟨(some 131), .mv (.t 0), none⟩, ⟨(some 132), .fieldA (.t 11) 3, none⟩, ⟨(some 133), .load (some 2) (.t 132), none⟩, ⟨(some 134), .mv (.t 2), none⟩, ⟨(some 135), .bin .add (.t 134) (.c (.int .i64 1)), none⟩, ⟨(some 136), .call (.c (.func 138 [])) [(.t 131), (.t 133), (.t 135), (.c (.bool false))], none⟩, ⟨(some 137), .mkSlice 9 (.agg [(.int .i64 0), (.int .i64 0), (.int .i64 0), (.int .i64 0), (.int .i64 0), .nilslice, .nilslice, (.int .i64 0), (.int .i64 0)]) 1 [(0, (.t 136))], none⟩, ⟨(some 138), .fieldA (.t 11) 5, none⟩, ⟨none, .store 1 (.t 138) (.t 137), none⟩] [11, 8])))
    .skip))))))
 (.seq
 (.ops [⟨(some 139), .load (some 9) (.t 11), none⟩, ⟨none, .store 9 (.t 8) (.t 139), none⟩] [8])
 .ret))))))),
 none⟩
theorem c138 : cFunc Tryz.prog true none [[0, 5, 2, 8, 3], [5, 10, 2, 8, 0, 9, 3], [], [2, 11, 8, 0, 9, 3], [37, 11, 8, 0, 9, 3, 2], [8], [12, 0, 11, 2, 8, 9], [12, 13, 0, 11, 2, 8, 9], [48, 0, 11, 13, 2, 12, 8, 9], [17, 0, 15, 16, 11, 2, 12, 8], [80, 0, 15, 16, 11, 2, 12, 8], [15, 16, 11, 0, 2, 12, 8], [0, 2, 12, 11, 8], [], [11, 8], [102, 0, 11, 2, 8], [11, 0, 2, 8], [0, 11, 2, 8], [11, 8], [8]] Tryz.f138 = some m138 := by kernel_rfl

/-- letterbox/lines.Empty -/
def m139 : MFunc := ⟨5, 1, [.t 2],
 (.seq
 (.ops [⟨(some 2), .mv (.c (.int .i64 0)), none⟩] [0])
 (.seq
 (.ops [⟨(some 3), .mv (.t 0), none⟩, ⟨(some 4), .call (.c (.func 197 [])) [(.t 3), (.c (.func 198 []))], none⟩, ⟨(some 2), .mv (.t 4), none⟩] [2])
 .ret)),
 none⟩
theorem c139 : cFunc Tryz.prog true none [[0], [2]] Tryz.f139 = some m139 := by kernel_rfl

/-- letterbox/header.goes -/
def m140 : MFunc := ⟨10, 1, [.t 2],
 (.seq
 (.ops [⟨(some 2), .mv (.c (.bool false)), none⟩] [0])
 (.seq
 (.ops [⟨(some 3), .mv (.t 0), none⟩, ⟨(some 4), .bin .neq (.t 3) (.c (.str [])), none⟩, ⟨(some 5), .mv (.t 4), none⟩, ⟨(some 6), .mv (.t 0), (some (5, true))⟩, ⟨(some 7), .idxStr (.t 6) (.c (.int .i64 0)), (some (5, true))⟩, ⟨(some 8), .call (.c (.func 173 [])) [(.t 7)], (some (5, true))⟩, ⟨(some 9), .pick (.t 5) (.t 8) (.c (.bool false)), none⟩, ⟨(some 2), .mv (.t 9), none⟩] [2])
 .ret)),
 none⟩
theorem c140 : cFunc Tryz.prog true none [[0], [2]] Tryz.f140 = some m140 := by kernel_rfl

/-- letterbox/header.named -/
def m141 : MFunc := ⟨46, 1, [.t 2, .t 3, .t 4],
 (.seq
 (.ops [⟨(some 2), .mv (.c (.str [])), none⟩, ⟨(some 3), .mv (.c (.int .i64 0)), none⟩, ⟨(some 4), .mv (.c (.bool false)), none⟩] [0])
 (.seq
 (.ops [⟨(some 8), .mv (.t 0), none⟩, ⟨(some 9), .call (.c (.func 199 [])) [(.t 8), (.c (.int .u8 58))], none⟩, ⟨(some 5), .mv (.t 9), none⟩] [5, 0])
 (.seq
 (.seq
 (.ops [⟨(some 10), .mv (.t 5), none⟩, ⟨(some 11), .bin .lss (.t 10) (.c (.int .i64 0)), none⟩] [11, 5, 0])
 (.cond (.t 11)
  (.seq
  (.ops [⟨(some 2), .mv (.c (.str [])), none⟩, ⟨(some 3), .mv (.c (.int .i64 0)), none⟩, ⟨(some 4), .mv (.c (.bool false)), none⟩] [2, 3, 4])
  .ret)
  .skip))
 (.seq
 (.ops [⟨(some 12), .mv (.t 5), none⟩, ⟨(some 6), .mv (.t 12), none⟩] [6, 0, 5])
 (.seq
 (.block 0
  (.loop [6, 0, 5]
   (.seq
   (.seq
   (.ops [⟨(some 13), .mv (.t 6), none⟩, ⟨(some 14), .bin .gtr (.t 13) (.c (.int .i64 0)), none⟩, ⟨(some 15), .mv (.t 14), none⟩, ⟨(some 16), .mv (.t 0), (some (15, true))⟩, ⟨(some 17), .mv (.t 6), (some (15, true))⟩, ⟨(some 18), .bin .sub (.t 17) (.c (.int .i64 1)), (some (15, true))⟩, ⟨(some 19), .idxStr (.t 16) (.t 18), (some (15, true))⟩, ⟨(some 20), .call (.c (.func 173 [])) [(.t 19)], (some (15, true))⟩, ⟨(some 21), .pick (.t 15) (.t 20) (.c (.bool false)), none⟩] [21, 6, 0, 5])
   (.cond (.t 21)
    .skip
    (.exit 0)))
   (.block 1
    (.ops [⟨(some 22), .mv (.t 6), none⟩, ⟨(some 23), .bin .sub (.t 22) (.c (.int .i64 1)), none⟩, ⟨(some 6), .mv (.t 23), none⟩] [6, 0, 5])))))
 (.seq
 (.seq
 (.ops [⟨(some 24), .mv (.t 6), none⟩, ⟨(some 25), .mv (.c (.int .i64 0)), none⟩] [25, 24, 0, 6, 5])
 (.block 2
  (.loop [25, 24, 0, 6, 5]
   (.seq
   (.ops [⟨(some 26), .bin .lss (.t 25) (.t 24), none⟩] [26, 25, 0, 24, 6, 5])
   (.seq
   (.cond (.t 26)
    .skip
    (.exit 2))
   (.seq
   (.block 3
    (.seq
    (.ops [⟨(some 27), .mv (.t 25), none⟩, ⟨(some 7), .mv (.t 27), none⟩] [0, 7, 25, 24, 6, 5])
    (.seq
    (.ops [⟨(some 28), .mv (.t 0), none⟩, ⟨(some 29), .mv (.t 7), none⟩, ⟨(some 30), .idxStr (.t 28) (.t 29), none⟩, ⟨(some 31), .bin .lss (.t 30) (.c (.int .u8 33)), none⟩, ⟨(some 32), .mv (.t 31), none⟩, ⟨(some 33), .mv (.t 0), (some (32, false))⟩, ⟨(some 34), .mv (.t 7), (some (32, false))⟩, ⟨(some 35), .idxStr (.t 33) (.t 34), (some (32, false))⟩, ⟨(some 36), .bin .gtr (.t 35) (.c (.int .u8 126)), (some (32, false))⟩, ⟨(some 37), .pick (.t 32) (.c (.bool true)) (.t 36), none⟩] [37, 25, 24, 0, 6, 5])
    (.cond (.t 37)
     (.seq
     (.ops [⟨(some 2), .mv (.c (.str [])), none⟩, ⟨(some 3), .mv (.c (.int .i64 0)), none⟩, ⟨(some 4), .mv (.c (.bool false)), none⟩] [2, 3, 4])
     .ret)
     .skip))))
   (.ops [⟨(some 38), .bin .add (.t 25) (.c (.int .i64 1)), none⟩, ⟨(some 25), .mv (.t 38), none⟩] [25, 24, 0, 6, 5])))))))
 (.seq
 (.ops [⟨(some 39), .mv (.t 0), none⟩, ⟨(some 40), .mv (.t 6), none⟩, ⟨(some 41), .sliceStr (.t 39) none (some (.t 40)), none⟩, ⟨(some 42), .mv (.t 5), none⟩, ⟨(some 43), .bin .add (.t 42) (.c (.int .i64 1)), none⟩, ⟨(some 44), .mv (.t 6), none⟩, ⟨(some 45), .bin .gtr (.t 44) (.c (.int .i64 0)), none⟩, ⟨(some 2), .mv (.t 41), none⟩, ⟨(some 3), .mv (.t 43), none⟩, ⟨(some 4), .mv (.t 45), none⟩] [2, 3, 4])
 .ret))))))),
 none⟩
theorem c141 : cFunc Tryz.prog true none [[0], [5, 0], [11, 5, 0], [2, 3, 4], [6, 0, 5], [6, 0, 5], [21, 6, 0, 5], [6, 0, 5], [25, 24, 0, 6, 5], [25, 24, 0, 6, 5], [26, 25, 0, 24, 6, 5], [0, 7, 25, 24, 6, 5], [37, 25, 24, 0, 6, 5], [2, 3, 4], [25, 24, 0, 6, 5], [2, 3, 4]] Tryz.f141 = some m141 := by kernel_rfl

/-- letterbox/section.Check -/
def m142 : MFunc := ⟨107, 1, [.t 2],
 (.seq
 (.ops [⟨(some 1), .box 88 (.t 0), none⟩, ⟨(some 2), .mv (.c (.int .i64 0)), none⟩] [1])
 (.seq
 (.ops [⟨(some 8), .fieldA (.t 1) 0, none⟩, ⟨(some 9), .load none (.t 8), none⟩, ⟨(some 10), .lenL (.t 9), none⟩, ⟨(some 11), .bin .leq (.t 10) (.c (.int .i64 64)), none⟩, ⟨(some 12), .mv (.t 11), none⟩, ⟨(some 13), .fieldA (.t 1) 1, (some (12, true))⟩, ⟨(some 14), .load none (.t 13), (some (12, true))⟩, ⟨(some 15), .bin .geq (.t 14) (.c (.int .i64 0)), (some (12, true))⟩, ⟨(some 16), .pick (.t 12) (.t 15) (.c (.bool false)), none⟩, ⟨(some 17), .mv (.t 16), none⟩, ⟨(some 18), .fieldA (.t 1) 1, (some (17, true))⟩, ⟨(some 19), .load none (.t 18), (some (17, true))⟩, ⟨(some 20), .bin .leq (.t 19) (.c (.int .i64 5)), (some (17, true))⟩, ⟨(some 21), .pick (.t 17) (.t 20) (.c (.bool false)), none⟩, ⟨(some 22), .mv (.t 21), none⟩, ⟨(some 23), .fieldA (.t 1) 1, (some (22, true))⟩, ⟨(some 24), .load none (.t 23), (some (22, true))⟩, ⟨(some 25), .bin .neq (.t 24) (.c (.int .i64 5)), (some (22, true))⟩, ⟨(some 26), .mv (.t 25), (some (22, true))⟩, ⟨(some 27), .fieldA (.t 1) 0, (some (26, false))⟩, ⟨(some 28), .load none (.t 27), (some (26, false))⟩, ⟨(some 29), .lenL (.t 28), (some (26, false))⟩, ⟨(some 30), .bin .gtr (.t 29) (.c (.int .i64 0)), (some (26, false))⟩, ⟨(some 31), .pick (.t 26) (.c (.bool true)) (.t 30), (some (22, true))⟩, ⟨(some 32), .pick (.t 22) (.t 31) (.c (.bool false)), none⟩, ⟨(some 3), .mv (.t 32), none⟩] [1, 3])
 (.seq
 (.seq
 (.ops [⟨(some 33), .fieldA (.t 1) 0, none⟩, ⟨(some 34), .load none (.t 33), none⟩, ⟨(some 35), .lenL (.t 34), none⟩, ⟨(some 36), .mv (.c (.int .i64 0)), none⟩] [36, 35, 34, 3, 1])
 (.block 0
  (.loop [36, 35, 34, 3, 1]
   (.seq
   (.ops [⟨(some 37), .bin .lss (.t 36) (.t 35), none⟩] [37, 34, 36, 3, 35, 1])
   (.seq
   (.cond (.t 37)
    .skip
    (.exit 0))
   (.seq
   (.block 1
    (.seq
    (.ops [⟨(some 38), .idxA 1 (.t 34) (.t 36), none⟩, ⟨(some 39), .load none (.t 38), none⟩, ⟨(some 5), .mv (.t 39), none⟩] [3, 5, 36, 35, 34, 1])
    (.ops [⟨(some 40), .mv (.t 3), none⟩, ⟨(some 41), .mv (.t 40), none⟩, ⟨(some 42), .mv (.t 5), (some (41, true))⟩, ⟨(some 43), .call (.c (.func 200 [])) [(.t 42), (.c (.int .i64 1))], (some (41, true))⟩, ⟨(some 44), .pick (.t 41) (.t 43) (.c (.bool false)), none⟩, ⟨(some 3), .mv (.t 44), none⟩] [36, 35, 34, 3, 1])))
   (.ops [⟨(some 45), .bin .add (.t 36) (.c (.int .i64 1)), none⟩, ⟨(some 36), .mv (.t 45), none⟩] [36, 35, 34, 3, 1])))))))
 (.seq
 (.seq
 (.ops [⟨(some 46), .fieldA (.t 1) 2, none⟩, ⟨(some 47), .load none (.t 46), none⟩, ⟨(some 48), .lenL (.t 47), none⟩, ⟨(some 49), .mv (.c (.int .i64 0)), none⟩] [49, 48, 47, 3, 1])
 (.block 2
  (.loop [49, 48, 47, 3, 1]
   (.seq
   (.ops [⟨(some 50), .bin .lss (.t 49) (.t 48), none⟩] [50, 47, 49, 3, 48, 1])
   (.seq
   (.cond (.t 50)
    .skip
    (.exit 2))
   (.seq
   (.block 3
    (.seq
    (.ops [⟨(some 51), .idxA 1 (.t 47) (.t 49), none⟩, ⟨(some 52), .load none (.t 51), none⟩, ⟨(some 7), .mv (.t 52), none⟩] [3, 7, 49, 48, 47, 1])
    (.ops [⟨(some 53), .mv (.t 3), none⟩, ⟨(some 54), .mv (.t 53), none⟩, ⟨(some 55), .mv (.t 7), (some (54, true))⟩, ⟨(some 56), .call (.c (.func 201 [])) [(.t 55)], (some (54, true))⟩, ⟨(some 57), .pick (.t 54) (.t 56) (.c (.bool false)), none⟩, ⟨(some 3), .mv (.t 57), none⟩] [49, 48, 47, 3, 1])))
   (.ops [⟨(some 58), .bin .add (.t 49) (.c (.int .i64 1)), none⟩, ⟨(some 49), .mv (.t 58), none⟩] [49, 48, 47, 3, 1])))))))
 (.seq
 (.seq
 (.ops [⟨(some 59), .load (some 6) (.t 1), none⟩, ⟨(some 60), .call (.c (.func 202 [])) [(.t 59)], none⟩] [60, 3, 1])
 (.cond (.t 60)
  (.ops [⟨(some 61), .mv (.t 3), none⟩, ⟨(some 62), .mv (.t 61), none⟩, ⟨(some 63), .fieldA (.t 1) 2, (some (62, true))⟩, ⟨(some 64), .load none (.t 63), (some (62, true))⟩, ⟨(some 65), .lenL (.t 64), (some (62, true))⟩, ⟨(some 66), .bin .geq (.t 65) (.c (.int .i64 1)), (some (62, true))⟩, ⟨(some 67), .pick (.t 62) (.t 66) (.c (.bool false)), none⟩, ⟨(some 68), .mv (.t 67), none⟩, ⟨(some 69), .fieldA (.t 1) 2, (some (68, true))⟩, ⟨(some 70), .load none (.t 69), (some (68, true))⟩, ⟨(some 71), .lenL (.t 70), (some (68, true))⟩, ⟨(some 72), .bin .leq (.t 71) (.c (.int .i64 100)), (some (68, true))⟩, ⟨(some 73), .pick (.t 68) (.t 72) (.c (.bool false)), none⟩, ⟨(some 3), .mv (.t 73), none⟩] [1, 3])
  (.ops [⟨(some 74), .mv (.t 3), none⟩, ⟨(some 75), .mv (.t 74), none⟩, ⟨(some 76), .fieldA (.t 1) 2, (some (75, true))⟩, ⟨(some 77), .load none (.t 76), (some (75, true))⟩, ⟨(some 78), .lenL (.t 77), (some (75, true))⟩, ⟨(some 79), .bin .eql (.t 78) (.c (.int .i64 0)), (some (75, true))⟩, ⟨(some 80), .pick (.t 75) (.t 79) (.c (.bool false)), none⟩, ⟨(some 3), .mv (.t 80), none⟩] [1, 3])))
 (.seq
 (.seq
 (.ops [⟨(some 81), .fieldA (.t 1) 3, none⟩, ⟨(some 82), .load none (.t 81), none⟩] [82, 3, 1])
 (.cond (.t 82)
  (.ops [⟨(some 83), .mv (.t 3), none⟩, ⟨(some 84), .mv (.t 83), none⟩, ⟨(some 85), .fieldA (.t 1) 4, (some (84, true))⟩, ⟨(some 86), .load none (.t 85), (some (84, true))⟩, ⟨(some 87), .call (.c (.func 200 [])) [(.t 86), (.c (.int .i64 0))], (some (84, true))⟩, ⟨(some 88), .pick (.t 84) (.t 87) (.c (.bool false)), none⟩, ⟨(some 89), .mv (.t 88), none⟩, ⟨(some 90), .fieldA (.t 1) 5, (some (89, true))⟩, ⟨(some 91), .load none (.t 90), (some (89, true))⟩, ⟨(some 92), .call (.c (.func 200 [])) [(.t 91), (.c (.int .i64 1))], (some (89, true))⟩, ⟨(some 93), .pick (.t 89) (.t 92) (.c (.bool false)), none⟩, ⟨(some 3), .mv (.t 93), none⟩] [3])
  (.ops [⟨(some 94), .mv (.t 3), none⟩, ⟨(some 95), .mv (.t 94), none⟩, ⟨(some 96), .fieldA (.t 1) 4, (some (95, true))⟩, ⟨(some 97), .load none (.t 96), (some (95, true))⟩, ⟨(some 98), .bin .eql (.t 97) (.c (.int .i64 0)), (some (95, true))⟩, ⟨(some 99), .pick (.t 95) (.t 98) (.c (.bool false)), none⟩, ⟨(some 100), .mv (.t 99), none⟩, ⟨(some 101), .fieldA (.t 1) 5, (some (100, true))⟩, ⟨(some 102), .load none (.t 101), (some (100, true))⟩, ⟨(some 103), .bin .eql (.t 102) (.c (.int .i64 0)), (some (100, true))⟩, ⟨(some 104), .pick (.t 100) (.t 103) (.c (.bool false)), none⟩, ⟨(some 3), .mv (.t 104), none⟩] [3])))
 (.seq
 (.seq
 (.ops [⟨(some 105), .mv (.t 3), none⟩, ⟨(some 106), .un .not (.t 105), none⟩] [106])
 (.cond (.t 106)
  (.seq
  (.ops [⟨(some 2), .mv (.c (.int .i64 1)), none⟩] [2])
  .ret)
  .skip))
 (.seq
 (.ops [⟨(some 2), .mv (.c (.int .i64 0)), none⟩] [2])
 .ret)))))))),
 none⟩
theorem c142 : cFunc Tryz.prog true none [[1], [1, 3], [36, 35, 34, 3, 1], [36, 35, 34, 3, 1], [37, 34, 36, 3, 35, 1], [3, 5, 36, 35, 34, 1], [36, 35, 34, 3, 1], [36, 35, 34, 3, 1], [49, 48, 47, 3, 1], [49, 48, 47, 3, 1], [50, 47, 49, 3, 48, 1], [3, 7, 49, 48, 47, 1], [49, 48, 47, 3, 1], [49, 48, 47, 3, 1], [60, 3, 1], [1, 3], [1, 3], [82, 3, 1], [3], [3], [106], [2], [2]] Tryz.f142 = some m142 := by kernel_rfl

/-- letterbox/fetch.message -/
def m143 : MFunc := ⟨52, 3, [.t 6],
 (.seq
 (.ops [⟨(some 4), .box 82 (.t 1), none⟩, ⟨(some 5), .box 88 (.t 2), none⟩, ⟨(some 6), .mv (.c .nilslice), none⟩] [5, 0, 4])
 (.seq
 (.ops [⟨(some 7), .mv (.c (.bool false)), none⟩] [5, 0, 4, 7])
 (.seq
 (.seq
 (.ops [⟨(some 10), .fieldA (.t 5) 1, none⟩, ⟨(some 11), .load none (.t 10), none⟩] [11, 0, 4, 5, 7])
 (.block 0
  (.seq
  (.block 5
   (.seq
   (.block 4
    (.seq
    (.block 3
     (.seq
     (.block 2
      (.seq
      (.block 1
       (.seq
       (.seq
       (.seq
       (.ops [⟨(some 13), .bin .eql (.t 11) (.c (.int .i64 0)), none⟩, ⟨(some 12), .mv (.t 13), none⟩] [12, 0, 4, 11, 5, 7])
       (.cond (.t 12)
        (.exit 1)
        .skip))
       (.seq
       (.seq
       (.ops [⟨(some 15), .bin .eql (.t 11) (.c (.int .i64 1)), none⟩, ⟨(some 14), .mv (.t 15), none⟩] [14, 0, 4, 11, 5, 7])
       (.cond (.t 14)
        (.exit 2)
        .skip))
       (.seq
       (.seq
       (.ops [⟨(some 17), .bin .eql (.t 11) (.c (.int .i64 4)), none⟩, ⟨(some 16), .mv (.t 17), none⟩] [16, 0, 4, 11, 5, 7])
       (.cond (.t 16)
        (.exit 3)
        .skip))
       (.seq
       (.seq
       (.ops [⟨(some 19), .bin .eql (.t 11) (.c (.int .i64 3)), none⟩, ⟨(some 18), .mv (.t 19), none⟩] [18, 0, 4, 5, 11, 7])
       (.cond (.t 18)
        (.exit 4)
        .skip))
       (.seq
       (.ops [⟨(some 21), .bin .eql (.t 11) (.c (.int .i64 2)), none⟩, ⟨(some 20), .mv (.t 21), none⟩] [20, 0, 4, 5, 7])
       (.cond (.t 20)
        (.exit 5)
        .skip))))))
       (.exit 0)))
      (.seq
      (.seq
      (.ops [⟨(some 22), .mv (.t 0), none⟩, ⟨(some 23), .fieldA (.t 4) 1, none⟩, ⟨(some 24), .fieldA (.t 23) 0, none⟩, ⟨(some 25), .load none (.t 24), none⟩, ⟨(some 26), .fieldA (.t 4) 3, none⟩, ⟨(some 27), .fieldA (.t 26) 1, none⟩, ⟨(some 28), .load none (.t 27), none⟩, ⟨(some 29), .build [(.int .i64 0), (.int .i64 0)] [(0, 1, (.t 25)), (1, 1, (.t 28))], none⟩, ⟨(some 30), .call (.c (.func 145 [])) [(.t 22), (.t 29)], none⟩, ⟨(some 6), .mv (.t 30), none⟩] [6])
      .ret)
      (.exit 0))))
     (.seq
     (.seq
     (.ops [⟨(some 31), .mv (.t 0), none⟩, ⟨(some 32), .fieldA (.t 4) 1, none⟩, ⟨(some 33), .load (some 2) (.t 32), none⟩, ⟨(some 34), .call (.c (.func 145 [])) [(.t 31), (.t 33)], none⟩, ⟨(some 6), .mv (.t 34), none⟩] [6])
     .ret)
     (.exit 0))))
    (.seq
    (.seq
    (.ops [⟨(some 35), .mv (.t 0), none⟩, ⟨(some 36), .fieldA (.t 4) 3, none⟩, ⟨(some 37), .load (some 2) (.t 36), none⟩, ⟨(some 38), .call (.c (.func 145 [])) [(.t 35), (.t 37)], none⟩, ⟨(some 6), .mv (.t 38), none⟩] [6])
    .ret)
    (.exit 0))))
   (.ops [⟨(some 7), .mv (.c (.bool true)), none⟩] [0, 4, 5, 7])))
  (.seq
  (.seq
  (.ops [⟨(some 40), .mv (.t 0), none⟩, ⟨(some 41), .fieldA (.t 4) 1, none⟩, ⟨(some 42), .load (some 2) (.t 41), none⟩, ⟨(some 43), .call (.c (.func 73 [])) [(.t 40), (.t 42)], none⟩, ⟨(some 39), .mv (.t 43), none⟩, ⟨(some 44), .extract (.t 39) 0, none⟩, ⟨(some 45), .extract (.t 39) 1, none⟩, ⟨(some 8), .mv (.t 44), none⟩, ⟨(some 9), .mv (.t 45), none⟩] [0, 8, 5, 7])
  (.seq
  (.ops [⟨(some 46), .mv (.t 0), none⟩, ⟨(some 47), .mv (.t 8), none⟩, ⟨(some 48), .fieldA (.t 5) 2, none⟩, ⟨(some 49), .load none (.t 48), none⟩, ⟨(some 50), .mv (.t 7), none⟩, ⟨(some 51), .call (.c (.func 203 [])) [(.t 46), (.t 47), (.t 49), (.t 50)], none⟩, ⟨(some 6), .mv (.t 51), none⟩] [6])
  .ret))
  (.exit 0)))))
 (.seq
 (.ops [⟨(some 6), .mv (.c .nilslice), none⟩] [6])
 .ret)))),
 none⟩
theorem c143 : cFunc Tryz.prog true none [[5, 0, 4], [5, 0, 4, 7], [11, 0, 4, 5, 7], [12, 0, 4, 11, 5, 7], [14, 0, 4, 11, 5, 7], [16, 0, 4, 11, 5, 7], [18, 0, 4, 5, 11, 7], [20, 0, 4, 5, 7], [6], [6], [6], [0, 4, 5, 7], [0, 8, 5, 7], [6], [6]] Tryz.f143 = some m143 := by kernel_rfl

/-- letterbox/fetch.Find -/
def m144 : MFunc := ⟨49, 2, [.cell 4 (some 9), .t 5],
 (.seq
 (.ops [⟨(some 2), .box 82 (.t 0), none⟩, ⟨(some 4), .alloc 82 [(.int .i64 0), (.int .i64 0), (.int .i64 0), (.int .i64 0), (.int .i64 0), .nilslice, .nilslice, (.int .i64 0), (.int .i64 0)], none⟩, ⟨(some 5), .mv (.c (.bool false)), none⟩] [1, 2, 4])
 (.scope
 (.seq
 (.ops [⟨(some 6), .mv (.c (.bool false)), none⟩] [1, 2, 4, 6])
 (.seq
 .skip
 (.seq
 (.seq
 (.ops [⟨(some 9), .mv (.t 1), none⟩, ⟨(some 10), .lenL (.t 9), none⟩, ⟨(some 11), .mv (.c (.int .i64 0)), none⟩] [11, 10, 9, 2, 4, 6])
 (.block 0
  (.loop [11, 10, 9, 2, 4, 6]
   (.seq
   (.ops [⟨(some 12), .bin .lss (.t 11) (.t 10), none⟩] [12, 11, 9, 2, 4, 10, 6])
   (.seq
   (.cond (.t 12)
    .skip
    (.exit 0))
   (.seq
   (.block 1
    (.seq
    (.ops [⟨(some 13), .mv (.t 11), none⟩, ⟨(some 14), .idxA 1 (.t 9) (.t 11), none⟩, ⟨(some 15), .load none (.t 14), none⟩, ⟨(some 7), .mv (.t 13), none⟩, ⟨(some 8), .mv (.t 15), none⟩] [7, 2, 8, 4, 11, 10, 9])
    (.seq
    (.seq
    (.ops [⟨(some 16), .mv (.t 7), none⟩, ⟨(some 17), .bin .gtr (.t 16) (.c (.int .i64 0)), none⟩] [17, 2, 8, 4, 11, 10, 9])
    (.cond (.t 17)
     (.block 2
      (.seq
      (.ops [⟨(some 19), .fieldA (.t 2) 0, none⟩, ⟨(some 20), .load none (.t 19), none⟩, ⟨(some 21), .bin .eql (.t 20) (.c (.int .i64 2)), none⟩, ⟨(some 22), .mv (.t 21), none⟩, ⟨(some 23), .fieldA (.t 2) 5, (some (22, true))⟩, ⟨(some 24), .load none (.t 23), (some (22, true))⟩, ⟨(some 25), .lenL (.t 24), (some (22, true))⟩, ⟨(some 26), .bin .gtr (.t 25) (.c (.int .i64 0)), (some (22, true))⟩, ⟨(some 27), .pick (.t 22) (.t 26) (.c (.bool false)), none⟩, ⟨(some 18), .mv (.t 27), none⟩] [18, 2, 8, 4, 11, 10, 9])
      (.cond (.t 18)
       (.ops [⟨(some 28), .fieldA (.t 2) 5, none⟩, ⟨(some 29), .load none (.t 28), none⟩, ⟨(some 30), .idxA 9 (.t 29) (.c (.int .i64 0)), none⟩, ⟨(some 31), .load (some 9) (.t 30), none⟩, ⟨none, .store 9 (.t 2) (.t 31), none⟩] [2, 8, 4, 11, 10, 9])
       (.seq
       (.ops [⟨(some 33), .fieldA (.t 2) 0, none⟩, ⟨(some 34), .load none (.t 33), none⟩, ⟨(some 35), .bin .neq (.t 34) (.c (.int .i64 1)), none⟩, ⟨(some 32), .mv (.t 35), none⟩] [32, 4, 2, 8, 11, 10, 9])
       (.cond (.t 32)
        (.seq
        (.ops [⟨(some 6), .mv (.c (.bool false)), none⟩] [6, 4, 2])
        (.exit 0))
        .skip)))))
     .skip))
    (.seq
    (.ops [⟨(some 37), .load (some 9) (.t 2), none⟩, ⟨(some 38), .mv (.t 8), none⟩, ⟨(some 39), .call (.c (.func 204 [])) [(.t 37), (.t 38)], none⟩, ⟨(some 36), .mv (.t 39), none⟩, ⟨(some 40), .extract (.t 36) 0, none⟩, ⟨(some 41), .extract (.t 36) 1, none⟩, ⟨none, .store 9 (.t 2) (.t 40), none⟩, ⟨(some 6), .mv (.t 41), none⟩] [6, 4, 2, 11, 10, 9])
    (.seq
    (.ops [⟨(some 42), .mv (.t 6), none⟩, ⟨(some 43), .un .not (.t 42), none⟩] [43, 6, 4, 2, 11, 10, 9])
    (.cond (.t 43)
     (.exit 0)
     .skip))))))
   (.ops [⟨(some 44), .bin .add (.t 11) (.c (.int .i64 1)), none⟩, ⟨(some 11), .mv (.t 44), none⟩] [11, 10, 9, 2, 4, 6])))))))
 (.seq
 (.seq
 (.ops [⟨(some 45), .mv (.t 6), none⟩, ⟨(some 46), .un .not (.t 45), none⟩] [46, 4, 2])
 (.cond (.t 46)
  (.seq
  (.ops [⟨(some 47), .build [(.int .i64 0), (.int .i64 0), (.int .i64 0), (.int .i64 0), (.int .i64 0), .nilslice, .nilslice, (.int .i64 0), (.int .i64 0)] [], none⟩, ⟨none, .store 9 (.t 4) (.t 47), none⟩, ⟨(some 5), .mv (.c (.bool false)), none⟩] [4, 5])
  .ret)
  .skip))
 (.seq
 (.ops [⟨(some 48), .load (some 9) (.t 2), none⟩, ⟨none, .store 9 (.t 4) (.t 48), none⟩, ⟨(some 5), .mv (.c (.bool true)), none⟩] [4, 5])
 .ret))))))),
 none⟩
theorem c144 : cFunc Tryz.prog true none [[1, 2, 4], [1, 2, 4, 6], [11, 10, 9, 2, 4, 6], [11, 10, 9, 2, 4, 6], [12, 11, 9, 2, 4, 10, 6], [7, 2, 8, 4, 11, 10, 9], [17, 2, 8, 4, 11, 10, 9], [18, 2, 8, 4, 11, 10, 9], [2, 8, 4, 11, 10, 9], [32, 4, 2, 8, 11, 10, 9], [6, 4, 2], [6, 4, 2, 11, 10, 9], [43, 6, 4, 2, 11, 10, 9], [11, 10, 9, 2, 4, 6], [46, 4, 2], [4, 5], [4, 5]] Tryz.f144 = some m144 := by kernel_rfl

/-- letterbox/fetch.bytes -/
def m145 : MFunc := ⟨17, 2, [.t 4],
 (.seq
 (.ops [⟨(some 3), .box 78 (.t 1), none⟩, ⟨(some 4), .mv (.c .nilslice), none⟩] [3, 0])
 (.seq
 (.seq
 (.ops [⟨(some 5), .load (some 2) (.t 3), none⟩, ⟨(some 6), .mv (.t 0), none⟩, ⟨(some 7), .lenL (.t 6), none⟩, ⟨(some 8), .call (.c (.func 185 [])) [(.t 5), (.t 7)], none⟩, ⟨(some 9), .un .not (.t 8), none⟩] [9, 0, 3])
 (.cond (.t 9)
  (.seq
  (.ops [⟨(some 4), .mv (.c .nilslice), none⟩] [4])
  .ret)
  .skip))
 (.seq
 (.ops [⟨(some 10), .mv (.t 0), none⟩, ⟨(some 11), .fieldA (.t 3) 0, none⟩, ⟨(some 12), .load none (.t 11), none⟩, ⟨(some 13), .fieldA (.t 3) 1, none⟩, ⟨(some 14), .load none (.t 13), none⟩, ⟨(some 15), .slice 1 (.t 10) (some (.t 12)) (some (.t 14)) none, none⟩, ⟨(some 16), .call (.c (.func 146 [])) [(.t 15)], none⟩, ⟨(some 4), .mv (.t 16), none⟩] [4])
 .ret))),
 none⟩
theorem c145 : cFunc Tryz.prog true none [[3, 0], [9, 0, 3], [4], [4]] Tryz.f145 = some m145 := by kernel_rfl

/-- slices.Clone[[]byte,byte] -/
def m146 : MFunc := ⟨8, 1, [.t 2],
 (.seq
 (.ops [⟨(some 2), .mv (.c .nilslice), none⟩] [0])
 (.seq
 (.seq
 (.ops [⟨(some 3), .mv (.t 0), none⟩, ⟨(some 4), .eqp false 2 (.t 3) (.c .nilslice), none⟩] [4, 0])
 (.cond (.t 4)
  (.seq
  (.ops [⟨(some 2), .mv (.c .nilslice), none⟩] [2])
  .ret)
  .skip))
 (.seq
 (.ops [⟨(some 5), .mkSlice 1 (.int .u8 0) 0 [], none⟩, ⟨(some 6), .mv (.t 0), none⟩, ⟨(some 7), .append 5 1 1 (.t 5) (.t 6), none⟩, ⟨(some 2), .mv (.t 7), none⟩] [2])
 .ret))),
 none⟩
theorem c146 : cFunc Tryz.prog true none [[0], [4, 0], [2], [2]] Tryz.f146 = some m146 := by kernel_rfl

/-- letterbox/wire.head -/
def m154 : MFunc := ⟨49, 1, [.t 2, .t 3, .t 4],
 (.seq
 (.ops [⟨(some 2), .mv (.c (.int .i64 0)), none⟩, ⟨(some 3), .mv (.c (.int .i64 0)), none⟩, ⟨(some 4), .mv (.c (.bool false)), none⟩] [0])
 (.seq
 (.ops [⟨(some 11), .mv (.t 0), none⟩, ⟨(some 12), .call (.c (.func 210 [])) [(.t 11), (.c (.str [126]))], none⟩, ⟨(some 5), .mv (.t 12), none⟩] [5, 0])
 (.seq
 (.seq
 (.ops [⟨(some 13), .mv (.t 5), none⟩, ⟨(some 14), .bin .eql (.t 13) (.c (.str [])), none⟩, ⟨(some 15), .mv (.t 14), none⟩, ⟨(some 16), .mv (.t 5), (some (15, false))⟩, ⟨(some 17), .idxStr (.t 16) (.c (.int .i64 0)), (some (15, false))⟩, ⟨(some 18), .bin .neq (.t 17) (.c (.int .u8 123)), (some (15, false))⟩, ⟨(some 19), .pick (.t 15) (.c (.bool true)) (.t 18), none⟩] [19, 5, 0])
 (.cond (.t 19)
  (.seq
  (.ops [⟨(some 2), .mv (.c (.int .i64 0)), none⟩, ⟨(some 3), .mv (.c (.int .i64 0)), none⟩, ⟨(some 4), .mv (.c (.bool false)), none⟩] [2, 3, 4])
  .ret)
  .skip))
 (.seq
 (.ops [⟨(some 20), .mv (.t 5), none⟩, ⟨(some 21), .call (.c (.func 199 [])) [(.t 20), (.c (.int .u8 125))], none⟩, ⟨(some 6), .mv (.t 21), none⟩] [6, 5, 0])
 (.seq
 (.seq
 (.ops [⟨(some 22), .mv (.t 6), none⟩, ⟨(some 23), .bin .lss (.t 22) (.c (.int .i64 0)), none⟩] [23, 5, 6, 0])
 (.cond (.t 23)
  (.seq
  (.ops [⟨(some 2), .mv (.c (.int .i64 0)), none⟩, ⟨(some 3), .mv (.c (.int .i64 0)), none⟩, ⟨(some 4), .mv (.c (.bool false)), none⟩] [2, 3, 4])
  .ret)
  .skip))
 (.seq
 (.ops [⟨(some 25), .mv (.t 5), none⟩, ⟨(some 26), .mv (.t 6), none⟩, ⟨(some 27), .sliceStr (.t 25) (some (.c (.int .i64 1))) (some (.t 26)), none⟩, ⟨(some 28), .call (.c (.func 211 [])) [(.t 27), (.c (.str [43]))], none⟩, ⟨(some 24), .mv (.t 28), none⟩, ⟨(some 29), .extract (.t 24) 0, none⟩, ⟨(some 30), .extract (.t 24) 1, none⟩, ⟨(some 7), .mv (.t 29), none⟩, ⟨(some 8), .mv (.t 30), none⟩] [7, 0, 5, 6, 8])
 (.seq
 (.ops [⟨(some 32), .mv (.t 7), none⟩, ⟨(some 33), .call (.c (.func 171 [])) [(.t 32)], none⟩, ⟨(some 31), .mv (.t 33), none⟩, ⟨(some 34), .extract (.t 31) 0, none⟩, ⟨(some 35), .extract (.t 31) 1, none⟩, ⟨(some 9), .mv (.t 34), none⟩, ⟨(some 10), .mv (.t 35), none⟩] [10, 0, 5, 6, 9, 8])
 (.seq
 (.seq
 (.ops [⟨(some 36), .mv (.t 10), none⟩, ⟨(some 37), .un .not (.t 36), none⟩] [37, 0, 5, 6, 9, 8])
 (.cond (.t 37)
  (.seq
  (.ops [⟨(some 2), .mv (.c (.int .i64 0)), none⟩, ⟨(some 3), .mv (.c (.int .i64 0)), none⟩, ⟨(some 4), .mv (.c (.bool false)), none⟩] [2, 3, 4])
  .ret)
  .skip))
 (.seq
 (.ops [⟨(some 38), .mv (.t 0), none⟩, ⟨(some 39), .lenS (.t 38), none⟩, ⟨(some 40), .mv (.t 5), none⟩, ⟨(some 41), .lenS (.t 40), none⟩, ⟨(some 42), .bin .sub (.t 39) (.t 41), none⟩, ⟨(some 43), .mv (.t 6), none⟩, ⟨(some 44), .bin .add (.t 42) (.t 43), none⟩, ⟨(some 45), .bin .add (.t 44) (.c (.int .i64 1)), none⟩, ⟨(some 46), .mv (.t 9), none⟩, ⟨(some 47), .mv (.t 8), none⟩, ⟨(some 48), .un .not (.t 47), none⟩, ⟨(some 2), .mv (.t 45), none⟩, ⟨(some 3), .mv (.t 46), none⟩, ⟨(some 4), .mv (.t 48), none⟩] [2, 3, 4])
 .ret))))))))),
 none⟩
theorem c154 : cFunc Tryz.prog true none [[0], [5, 0], [19, 5, 0], [2, 3, 4], [6, 5, 0], [23, 5, 6, 0], [2, 3, 4], [7, 0, 5, 6, 8], [10, 0, 5, 6, 9, 8], [37, 0, 5, 6, 9, 8], [2, 3, 4], [2, 3, 4]] Tryz.f154 = some m154 := by kernel_rfl

/-- strings.CutPrefix -/
def m155 : MFunc := ⟨11, 2, [.t 4, .t 5],
 (.seq
 (.ops [⟨(some 4), .mv (.c (.str [])), none⟩, ⟨(some 5), .mv (.c (.bool false)), none⟩] [0, 1])
 (.seq
 (.ops [⟨(some 6), .mv (.t 0), none⟩, ⟨(some 7), .mv (.t 1), none⟩, ⟨(some 8), .call (.c (.func 212 [])) [(.t 6), (.t 7)], none⟩, ⟨(some 9), .extract (.t 8) 0, none⟩, ⟨(some 10), .extract (.t 8) 1, none⟩, ⟨(some 4), .mv (.t 9), none⟩, ⟨(some 5), .mv (.t 10), none⟩] [4, 5])
 .ret)),
 none⟩
theorem c155 : cFunc Tryz.prog true none [[0, 1], [4, 5]] Tryz.f155 = some m155 := by kernel_rfl

/-- letterbox/wire.bracket -/
def m156 : MFunc := ⟨57, 1, [.t 2],
 (.seq
 (.ops [⟨(some 2), .mv (.c (.int .i64 0)), none⟩] [0])
 (.seq
 (.seq
 (.ops [⟨(some 3), .mv (.c (.int .i64 1)), none⟩] [3, 0])
 (.block 0
  (.loop [3, 0]
   (.seq
   (.seq
   (.ops [⟨(some 8), .mv (.t 3), none⟩, ⟨(some 9), .mv (.t 0), none⟩, ⟨(some 10), .lenS (.t 9), none⟩, ⟨(some 11), .bin .lss (.t 8) (.t 10), none⟩] [11, 0, 3])
   (.cond (.t 11)
    .skip
    (.exit 0)))
   (.seq
   (.block 1
    (.seq
    (.ops [⟨(some 14), .mv (.t 0), none⟩, ⟨(some 15), .mv (.t 3), none⟩, ⟨(some 16), .idxStr (.t 14) (.t 15), none⟩, ⟨(some 4), .mv (.t 16), none⟩] [4, 3, 0])
    (.block 2
     (.seq
     (.ops [⟨(some 18), .mv (.t 4), none⟩, ⟨(some 19), .bin .eql (.t 18) (.c (.int .u8 93)), none⟩, ⟨(some 17), .mv (.t 19), none⟩] [17, 3, 4, 0])
     (.cond (.t 17)
      (.seq
      (.ops [⟨(some 20), .mv (.t 3), none⟩, ⟨(some 21), .bin .add (.t 20) (.c (.int .i64 1)), none⟩, ⟨(some 2), .mv (.t 21), none⟩] [2])
      .ret)
      (.seq
      (.ops [⟨(some 23), .mv (.t 4), none⟩, ⟨(some 24), .bin .eql (.t 23) (.c (.int .u8 34)), none⟩, ⟨(some 22), .mv (.t 24), none⟩] [22, 0, 3, 4])
      (.cond (.t 22)
       (.seq
       (.ops [⟨(some 26), .mv (.t 0), none⟩, ⟨(some 27), .mv (.t 3), none⟩, ⟨(some 28), .sliceStr (.t 26) (some (.t 27)) none, none⟩, ⟨(some 29), .call (.c (.func 94 [])) [(.t 28)], none⟩, ⟨(some 25), .mv (.t 29), none⟩, ⟨(some 30), .extract (.t 25) 0, none⟩, ⟨(some 31), .extract (.t 25) 1, none⟩, ⟨(some 32), .extract (.t 25) 2, none⟩, ⟨(some 5), .mv (.t 30), none⟩, ⟨(some 6), .mv (.t 31), none⟩, ⟨(some 7), .mv (.t 32), none⟩] [7, 0, 3, 6])
       (.seq
       (.seq
       (.ops [⟨(some 33), .mv (.t 7), none⟩, ⟨(some 34), .un .not (.t 33), none⟩, ⟨(some 35), .mv (.t 34), none⟩, ⟨(some 36), .mv (.t 0), (some (35, false))⟩, ⟨(some 37), .mv (.t 3), (some (35, false))⟩, ⟨(some 38), .mv (.t 0), (some (35, false))⟩, ⟨(some 39), .lenS (.t 38), (some (35, false))⟩, ⟨(some 40), .mv (.t 6), (some (35, false))⟩, ⟨(some 41), .lenS (.t 40), (some (35, false))⟩, ⟨(some 42), .bin .sub (.t 39) (.t 41), (some (35, false))⟩, ⟨(some 43), .sliceStr (.t 36) (some (.t 37)) (some (.t 42)), (some (35, false))⟩, ⟨(some 44), .call (.c (.func 213 [])) [(.t 43), (.c (.func 214 []))], (some (35, false))⟩, ⟨(some 45), .un .not (.t 44), (some (35, false))⟩, ⟨(some 46), .pick (.t 35) (.c (.bool true)) (.t 45), none⟩] [46, 0, 6])
       (.cond (.t 46)
        (.seq
        (.ops [⟨(some 2), .mv (.c (.int .i64 0)), none⟩] [2])
        .ret)
        .skip))
       (.ops [⟨(some 47), .mv (.t 0), none⟩, ⟨(some 48), .lenS (.t 47), none⟩, ⟨(some 49), .mv (.t 6), none⟩, ⟨(some 50), .lenS (.t 49), none⟩, ⟨(some 51), .bin .sub (.t 48) (.t 50), none⟩, ⟨(some 52), .bin .sub (.t 51) (.c (.int .i64 1)), none⟩, ⟨(some 3), .mv (.t 52), none⟩] [3, 0])))
       (.seq
       (.ops [⟨(some 54), .mv (.t 4), none⟩, ⟨(some 55), .call (.c (.func 214 [])) [(.t 54)], none⟩, ⟨(some 56), .un .not (.t 55), none⟩, ⟨(some 53), .mv (.t 56), none⟩] [53, 3, 0])
       (.cond (.t 53)
        (.seq
        (.ops [⟨(some 2), .mv (.c (.int .i64 0)), none⟩] [2])
        .ret)
        .skip)))))))))
   (.ops [⟨(some 12), .mv (.t 3), none⟩, ⟨(some 13), .bin .add (.t 12) (.c (.int .i64 1)), none⟩, ⟨(some 3), .mv (.t 13), none⟩] [3, 0]))))))
 (.seq
 (.ops [⟨(some 2), .mv (.c (.int .i64 0)), none⟩] [2])
 .ret))),
 none⟩
theorem c156 : cFunc Tryz.prog true none [[0], [3, 0], [3, 0], [11, 0, 3], [4, 3, 0], [17, 3, 4, 0], [2], [22, 0, 3, 4], [7, 0, 3, 6], [46, 0, 6], [2], [3, 0], [53, 3, 0], [2], [3, 0], [2]] Tryz.f156 = some m156 := by kernel_rfl

/-- unicode/utf8.Valid -/
def m157 : MFunc := ⟨188, 1, [.t 2],
 (.seq
 (.ops [⟨(some 2), .mv (.c (.bool false)), none⟩] [0])
 (.seq
 (.ops [⟨(some 7), .mv (.t 0), none⟩, ⟨(some 8), .mv (.t 0), none⟩, ⟨(some 9), .lenL (.t 8), none⟩, ⟨(some 10), .mv (.t 0), none⟩, ⟨(some 11), .lenL (.t 10), none⟩, ⟨(some 12), .slice 1 (.t 7) none (some (.t 9)) (some (.t 11)), none⟩, ⟨(some 0), .mv (.t 12), none⟩] [0])
 (.seq
 (.block 0
  (.loop [0]
   (.seq
   (.seq
   (.ops [⟨(some 13), .mv (.t 0), none⟩, ⟨(some 14), .lenL (.t 13), none⟩, ⟨(some 15), .bin .gtr (.t 14) (.c (.int .i64 0)), none⟩] [15, 0])
   (.cond (.t 15)
    .skip
    (.exit 0)))
   (.block 1
    (.seq
    (.ops [⟨(some 16), .mv (.t 0), none⟩, ⟨(some 17), .idxA 1 (.t 16) (.c (.int .i64 0)), none⟩, ⟨(some 18), .load none (.t 17), none⟩, ⟨(some 3), .mv (.t 18), none⟩] [3, 0])
    (.seq
    (.seq
    (.ops [⟨(some 19), .mv (.t 3), none⟩, ⟨(some 20), .bin .lss (.t 19) (.c (.int .u8 128)), none⟩] [20, 0, 3])
    (.cond (.t 20)
     (.seq
     (.ops [⟨(some 21), .mv (.t 0), none⟩, ⟨(some 22), .slice 1 (.t 21) (some (.c (.int .i64 1))) none none, none⟩, ⟨(some 0), .mv (.t 22), none⟩] [0])
     (.seq
     (.seq
     (.ops [⟨(some 23), .mv (.t 0), none⟩, ⟨(some 24), .lenL (.t 23), none⟩, ⟨(some 25), .bin .gtr (.t 24) (.c (.int .i64 8)), none⟩, ⟨(some 26), .mv (.t 25), none⟩, ⟨(some 27), .mv (.t 0), (some (26, true))⟩, ⟨(some 28), .call (.c (.func 215 [])) [(.t 27)], (some (26, true))⟩, ⟨(some 29), .bin .and (.t 28) (.c (.int .u64 9259542123273814144)), (some (26, true))⟩, ⟨(some 30), .bin .eql (.t 29) (.c (.int .u64 0)), (some (26, true))⟩, ⟨(some 31), .pick (.t 26) (.t 30) (.c (.bool false)), none⟩] [31, 0])
     (.cond (.t 31)
      (.seq
      (.ops [⟨(some 32), .mv (.t 0), none⟩, ⟨(some 33), .slice 1 (.t 32) (some (.c (.int .i64 8))) none none, none⟩, ⟨(some 0), .mv (.t 33), none⟩] [0])
      (.seq
      (.draw [⟨⟨(some 34), .mv (.t 0), none⟩, none⟩, ⟨⟨(some 35), .lenL (.t 34), none⟩, none⟩, ⟨⟨(some 36), .bin .gtr (.t 35) (.c (.int .i64 16)), none⟩, none⟩, ⟨⟨(some 37), .mv (.t 36), none⟩, none⟩, ⟨⟨(some 38), .mv (.t 0), (some (37, true))⟩, none⟩, ⟨⟨(some 39), .call (.c (.func 215 [])) [(.t 38)], (some (37, true))⟩, none⟩, ⟨⟨(some 40), .mv (.t 0), (some (37, true))⟩, none⟩, ⟨⟨(some 41), .slice 1 (.t 40) (some (.c (.int .i64 8))) none none, (some (37, true))⟩, none⟩, ⟨⟨(some 42), .call (.c (.func 215 [])) [(.t 41)], (some (37, true))⟩, none⟩, ⟨⟨(some 43), .bin .or (.t 39) (.t 42), (some (37, true))⟩, none⟩, ⟨⟨(some 44), .bin .and (.t 43) (.c (.int .u64 9259542123273814144)), (some (37, true))⟩, none⟩, ⟨⟨(some 45), .bin .eql (.t 44) (.c (.int .u64 0)), (some (37, true))⟩, none⟩, ⟨⟨(some 46), .pick (.t 37) (.t 45) (.c (.bool false)), none⟩, none⟩] [] [46, 0])
      (.cond (.t 46)
       (.seq
       (.ops [⟨(some 47), .mv (.t 0), none⟩, ⟨(some 48), .slice 1 (.t 47) (some (.c (.int .i64 16))) none none, none⟩, ⟨(some 0), .mv (.t 48), none⟩] [0])
       (.block 2
        (.loop [0]
         (.seq
         (.seq
         (.draw [⟨⟨(some 49), .mv (.t 0), none⟩, none⟩, ⟨⟨(some 50), .lenL (.t 49), none⟩, none⟩, ⟨⟨(some 51), .bin .gtr (.t 50) (.c (.int .i64 32)), none⟩, none⟩, ⟨⟨(some 52), .mv (.t 51), none⟩, none⟩, ⟨⟨(some 53), .mv (.t 0), (some (52, true))⟩, none⟩, ⟨⟨(some 54), .call (.c (.func 215 [])) [(.t 53)], (some (52, true))⟩, none⟩, ⟨⟨(some 55), .mv (.t 0), (some (52, true))⟩, none⟩, ⟨⟨(some 56), .slice 1 (.t 55) (some (.c (.int .i64 8))) none none, (some (52, true))⟩, none⟩, ⟨⟨(some 57), .call (.c (.func 215 [])) [(.t 56)], (some (52, true))⟩, none⟩, ⟨⟨(some 58), .bin .or (.t 54) (.t 57), (some (52, true))⟩, none⟩, ⟨⟨(some 59), .mv (.t 0), (some (52, true))⟩, none⟩, ⟨⟨(some 60), .slice 1 (.t 59) (some (.c (.int .i64 16))) none none, (some (52, true))⟩, none⟩, ⟨⟨(some 61), .call (.c (.func 215 [])) [(.t 60)], (some (52, true))⟩, none⟩, ⟨⟨(some 62), .mv (.t 0), (some (52, true))⟩, none⟩, ⟨⟨(some 63), .slice 1 (.t 62) (some (.c (.int .i64 24))) none none, (some (52, true))⟩, none⟩, ⟨⟨(some 64), .call (.c (.func 215 [])) [(.t 63)], (some (52, true))⟩, none⟩, ⟨⟨(some 65), .bin .or (.t 61) (.t 64), (some (52, true))⟩, none⟩, ⟨⟨(some 66), .bin .or (.t 58) (.t 65), (some (52, true))⟩, none⟩, ⟨⟨(some 67), .bin .and (.t 66) (.c (.int .u64 9259542123273814144)), (some (52, true))⟩, none⟩, ⟨⟨(some 68), .bin .eql (.t 67) (.c (.int .u64 0)), (some (52, true))⟩, none⟩, ⟨⟨(some 69), .pick (.t 52) (.t 68) (.c (.bool false)), none⟩, none⟩] [] [69, 0])
         (.cond (.t 69)
          .skip
          (.exit 2)))
         (.block 3
          (.ops [⟨(some 70), .mv (.t 0), none⟩, ⟨(some 71), .slice 1 (.t 70) (some (.c (.int .i64 32))) none none, none⟩, ⟨(some 0), .mv (.t 71), none⟩] [0]))))))
       .skip)))
      .skip))
     (.exit 1)))
     .skip))
    (.seq
    (.ops [⟨(some 72), .mv (.t 3), none⟩, ⟨(some 73), .idxArrA 256 1 (.g 2) (.t 72), none⟩, ⟨(some 74), .load none (.t 73), none⟩, ⟨(some 4), .mv (.t 74), none⟩] [4, 0])
    (.seq
    (.ops [⟨(some 75), .mv (.t 4), none⟩, ⟨(some 76), .bin .and (.t 75) (.c (.int .u8 7)), none⟩, ⟨(some 77), .conv (.int .i64) (.t 76), none⟩, ⟨(some 5), .mv (.t 77), none⟩] [4, 5, 0])
    (.seq
    (.ops [⟨(some 78), .mv (.t 4), none⟩, ⟨(some 79), .bin .shr (.t 78) (.c (.int .u64 4)), none⟩, ⟨(some 80), .idxArrA 16 2 (.g 3) (.t 79), none⟩, ⟨(some 81), .load (some 2) (.t 80), none⟩, ⟨(some 6), .alloc 263 [(.int .u8 0), (.int .u8 0)], none⟩, ⟨none, .store 2 (.t 6) (.t 81), none⟩] [5, 0, 6])
    (.seq
    (.ops [⟨(some 82), .mv (.t 5), none⟩] [82, 0, 6])
    (.block 4
     (.seq
     (.ops [⟨(some 84), .bin .eql (.t 82) (.c (.int .i64 2)), none⟩, ⟨(some 83), .mv (.t 84), none⟩] [83, 0, 6, 82])
     (.cond (.t 83)
      (.seq
      (.seq
      (.draw [⟨⟨(some 85), .mv (.t 0), none⟩, none⟩, ⟨⟨(some 86), .lenL (.t 85), none⟩, none⟩, ⟨⟨(some 87), .bin .lss (.t 86) (.c (.int .i64 2)), none⟩, none⟩, ⟨⟨(some 88), .mv (.t 87), none⟩, none⟩, ⟨⟨(some 89), .mv (.t 0), (some (88, false))⟩, none⟩, ⟨⟨(some 90), .idxA 1 (.t 89) (.c (.int .i64 1)), (some (88, false))⟩, none⟩, ⟨⟨(some 91), .load none (.t 90), (some (88, false))⟩, none⟩, ⟨⟨(some 92), .fieldA (.t 6) 0, (some (88, false))⟩, none⟩, ⟨⟨(some 93), .load none (.t 92), (some (88, false))⟩, none⟩, ⟨⟨(some 94), .bin .lss (.t 91) (.t 93), (some (88, false))⟩, none⟩, ⟨⟨(some 95), .pick (.t 88) (.c (.bool true)) (.t 94), none⟩, none⟩, ⟨⟨(some 96), .mv (.t 95), none⟩, none⟩, ⟨⟨(some 97), .fieldA (.t 6) 1, (some (96, false))⟩, none⟩, ⟨⟨(some 98), .load none (.t 97), (some (96, false))⟩, none⟩, ⟨⟨(some 99), .mv (.t 0), (some (96, false))⟩, none⟩, ⟨⟨(some 100), .idxA 1 (.t 99) (.c (.int .i64 1)), (some (96, false))⟩, none⟩, ⟨⟨(some 101), .load none (.t 100), (some (96, false))⟩, none⟩, ⟨⟨(some 102), .bin .lss (.t 98) (.t 101), (some (96, false))⟩, none⟩, ⟨⟨(some 103), .pick (.t 96) (.c (.bool true)) (.t 102), none⟩, none⟩] [] [103, 0])
      (.cond (.t 103)
       (.seq
       (.ops [⟨(some 2), .mv (.c (.bool false)), none⟩] [2])
       .ret)
       .skip))
      (.ops [⟨(some 104), .mv (.t 0), none⟩, ⟨(some 105), .slice 1 (.t 104) (some (.c (.int .i64 2))) none none, none⟩, ⟨(some 0), .mv (.t 105), none⟩] [0]))
      (.seq
      (.ops [⟨(some 107), .bin .eql (.t 82) (.c (.int .i64 3)), none⟩, ⟨(some 106), .mv (.t 107), none⟩] [106, 0, 6, 82])
      (.cond (.t 106)
       (.seq
       (.seq
       (.draw [⟨⟨(some 108), .mv (.t 0), none⟩, none⟩, ⟨⟨(some 109), .lenL (.t 108), none⟩, none⟩, ⟨⟨(some 110), .bin .lss (.t 109) (.c (.int .i64 3)), none⟩, none⟩, ⟨⟨(some 111), .mv (.t 110), none⟩, none⟩, ⟨⟨(some 112), .mv (.t 0), (some (111, false))⟩, none⟩, ⟨⟨(some 113), .idxA 1 (.t 112) (.c (.int .i64 1)), (some (111, false))⟩, none⟩, ⟨⟨(some 114), .load none (.t 113), (some (111, false))⟩, none⟩, ⟨⟨(some 115), .fieldA (.t 6) 0, (some (111, false))⟩, none⟩, ⟨⟨(some 116), .load none (.t 115), (some (111, false))⟩, none⟩, ⟨⟨(some 117), .bin .lss (.t 114) (.t 116), (some (111, false))⟩, none⟩, ⟨⟨(some 118), .pick (.t 111) (.c (.bool true)) (.t 117), none⟩, none⟩, ⟨⟨(some 119), .mv (.t 118), none⟩, none⟩, ⟨⟨(some 120), .fieldA (.t 6) 1, (some (119, false))⟩, none⟩, ⟨⟨(some 121), .load none (.t 120), (some (119, false))⟩, none⟩, ⟨⟨(some 122), .mv (.t 0), (some (119, false))⟩, none⟩, ⟨⟨(some 123), .idxA 1 (.t 122) (.c (.int .i64 1)), (some (119, false))⟩, none⟩, ⟨⟨(some 124), .load none (.t 123), (some (119, false))⟩, none⟩, ⟨⟨(some 125), .bin .lss (.t 121) (.t 124), (some (119, false))⟩, none⟩, ⟨⟨(some 126), .pick (.t 119) (.c (.bool true)) (.t 125), none⟩, none⟩, ⟨⟨(some 127), .mv (.t 126), none⟩, none⟩, ⟨⟨(some 128), .mv (.t 0), (some (127, false))⟩, none⟩, ⟨⟨(some 129), .idxA 1 (.t 128) (.c (.int .i64 2)), (some (127, false))⟩, none⟩, ⟨⟨(some 130), .load none (.t 129), (some (127, false))⟩, none⟩, ⟨⟨(some 131), .bin .lss (.t 130) (.c (.int .u8 128)), (some (127, false))⟩, none⟩, ⟨⟨(some 132), .pick (.t 127) (.c (.bool true)) (.t 131), none⟩, none⟩, ⟨⟨(some 133), .mv (.t 132), none⟩, none⟩, ⟨⟨(some 134), .mv (.t 0), (some (133, false))⟩, none⟩, ⟨⟨(some 135), .idxA 1 (.t 134) (.c (.int .i64 2)), (some (133, false))⟩, none⟩, ⟨⟨(some 136), .load none (.t 135), (some (133, false))⟩, none⟩, ⟨⟨(some 137), .bin .lss (.c (.int .u8 191)) (.t 136), (some (133, false))⟩, none⟩, ⟨⟨(some 138), .pick (.t 133) (.c (.bool true)) (.t 137), none⟩, none⟩] [] [138, 0])
       (.cond (.t 138)
        (.seq
        (.ops [⟨(some 2), .mv (.c (.bool false)), none⟩] [2])
        .ret)
        .skip))
       (.ops [⟨(some 139), .mv (.t 0), none⟩, ⟨(some 140), .slice 1 (.t 139) (some (.c (.int .i64 3))) none none, none⟩, ⟨(some 0), .mv (.t 140), none⟩] [0]))
       (.seq
       (.ops [⟨(some 142), .bin .eql (.t 82) (.c (.int .i64 4)), none⟩, ⟨(some 141), .mv (.t 142), none⟩] [141, 0, 6])
       (.cond (.t 141)
        (.seq
        (.seq
        (.draw [⟨⟨(some 143), .mv (.t 0), none⟩, none⟩, ⟨⟨(some 144), .lenL (.t 143), none⟩, none⟩, ⟨⟨(some 145), .bin .lss (.t 144) (.c (.int .i64 4)), none⟩, none⟩, ⟨⟨(some 146), .mv (.t 145), none⟩, none⟩, ⟨⟨(some 147), .mv (.t 0), (some (146, false))⟩, none⟩, ⟨⟨(some 148), .idxA 1 (.t 147) (.c (.int .i64 1)), (some (146, false))⟩, none⟩, ⟨⟨(some 149), .load none (.t 148), (some (146, false))⟩, none⟩, ⟨⟨(some 150), .fieldA (.t 6) 0, (some (146, false))⟩, none⟩, ⟨⟨(some 151), .load none (.t 150), (some (146, false))⟩, none⟩, ⟨⟨(some 152), .bin .lss (.t 149) (.t 151), (some (146, false))⟩, none⟩, ⟨⟨(some 153), .pick (.t 146) (.c (.bool true)) (.t 152), none⟩, none⟩, ⟨⟨(some 154), .mv (.t 153), none⟩, none⟩, ⟨⟨(some 155), .fieldA (.t 6) 1, (some (154, false))⟩, none⟩, ⟨⟨(some 156), .load none (.t 155), (some (154, false))⟩, none⟩, ⟨⟨(some 157), .mv (.t 0), (some (154, false))⟩, none⟩, ⟨⟨(some 158), .idxA 1 (.t 157) (.c (.int .i64 1)), (some (154, false))⟩, none⟩, ⟨⟨(some 159), .load none (.t 158), (some (154, false))⟩, none⟩, ⟨⟨(some 160), .bin .lss (.t 156) (.t 159), (some (154, false))⟩, none⟩, ⟨⟨(some 161), .pick (.t 154) (.c (.bool true)) (.t 160), none⟩, none⟩, ⟨⟨(some 162), .mv (.t 161), none⟩, none⟩, ⟨⟨(some 163), .mv (.t 0), (some (162, false))⟩, none⟩, ⟨⟨(some 164), .idxA 1 (.t 163) (.c (.int .i64 2)), (some (162, false))⟩, none⟩, ⟨⟨(some 165), .load none (.t 164), (some (162, false))⟩, none⟩, ⟨⟨(some 166), .bin .lss (.t 165) (.c (.int .u8 128)), (some (162, false))⟩, none⟩, ⟨⟨(some 167), .pick (.t 162) (.c (.bool true)) (.t 166), none⟩, none⟩, ⟨⟨(some 168), .mv (.t 167), none⟩, none⟩, ⟨⟨(some 169), .mv (.t 0), (some (168, false))⟩, none⟩, ⟨⟨(some 170), .idxA 1 (.t 169) (.c (.int .i64 2)), (some (168, false))⟩, none⟩, ⟨⟨(some 171), .load none (.t 170), (some (168, false))⟩, none⟩, ⟨⟨(some 172), .bin .lss (.c (.int .u8 191)) (.t 171), (some (168, false))⟩, none⟩, ⟨⟨(some 173), .pick (.t 168) (.c (.bool true)) (.t 172), none⟩, none⟩, ⟨⟨(some 174), .mv (.t 173), none⟩, none⟩, ⟨⟨(some 175), .mv (.t 0), (some (174, false))⟩, none⟩, ⟨⟨(some 176), .idxA 1 (.t 175) (.c (.int .i64 3)), (some (174, false))⟩, none⟩, ⟨⟨(some 177), .load none (.t 176), (some (174, false))⟩, none⟩, ⟨⟨(some 178), .bin .lss (.t 177) (.c (.int .u8 128)), (some (174, false))⟩, none⟩, ⟨⟨(some 179), .pick (.t 174) (.c (.bool true)) (.t 178), none⟩, none⟩, ⟨⟨(some 180), .mv (.t 179), none⟩, none⟩, ⟨⟨(some 181), .mv (.t 0), (some (180, false))⟩, none⟩, ⟨⟨(some 182), .idxA 1 (.t 181) (.c (.int .i64 3)), (some (180, false))⟩, none⟩, ⟨⟨(some 183), .load none (.t 182), (some (180, false))⟩, none⟩, ⟨⟨(some 184), .bin .lss (.c (.int .u8 191)) (.t 183), (some (180, false))⟩, none⟩, ⟨⟨(some 185), .pick (.t 180) (.c (.bool true)) (.t 184), none⟩, none⟩] [] [185, 0])
        (.cond (.t 185)
         (.seq
         (.ops [⟨(some 2), .mv (.c (.bool false)), none⟩] [2])
         .ret)
         .skip))
        (.ops [⟨(some 186), .mv (.t 0), none⟩, ⟨(some 187), .slice 1 (.t 186) (some (.c (.int .i64 4))) none none, none⟩, ⟨(some 0), .mv (.t 187), none⟩] [0]))
        (.seq
        (.ops [⟨(some 2), .mv (.c (.bool false)), none⟩] [2])
        .ret))))))))))))))))))
 (.seq
 (.ops [⟨(some 2), .mv (.c (.bool true)), none⟩] [2])
 .ret)))),
 none⟩
theorem c157 : cFunc Tryz.prog true none [[0], [0], [0], [15, 0], [3, 0], [20, 0, 3], [0], [31, 0], [0], [46, 0], [], [0], [0], [69, 0], [], [0], [4, 0], [4, 5, 0], [5, 0, 6], [82, 0, 6], [83, 0, 6, 82], [103, 0], [], [2], [0], [106, 0, 6, 82], [138, 0], [], [2], [0], [141, 0, 6], [185, 0], [], [2], [0], [2], [2]] Tryz.f157 = some m157 := by kernel_rfl

/-- (*letterbox/search.reader).nothing -/
def m158 : MFunc := ⟨6, 3, [],
 .skip,
 none⟩
theorem c158 : cFunc Tryz.prog true none [] Tryz.f158 = some m158 := by kernel_rfl

/-- (*letterbox/search.reader).looked -/
def m159 : MFunc := ⟨11, 3, [],
 (.ops [⟨(some 6), .mv (.t 1), none⟩, ⟨(some 7), .mv (.t 0), none⟩, ⟨(some 8), .call (.c (.func 216 [])) [(.t 7)], none⟩, ⟨(some 9), .nilCheck (.t 6), none⟩, ⟨(some 10), .fieldA (.t 9) 1, none⟩, ⟨none, .store 1 (.t 10) (.t 8), none⟩] []),
 none⟩
theorem c159 : cFunc Tryz.prog true none [[]] Tryz.f159 = some m159 := by kernel_rfl

/-- (*letterbox/search.reader).keyword -/
def m160 : MFunc := ⟨12, 3, [],
 (.ops [⟨(some 6), .mv (.t 1), none⟩, ⟨(some 7), .mv (.t 0), none⟩, ⟨(some 8), .call (.c (.func 217 [])) [(.t 7)], none⟩, ⟨(some 9), .call (.c (.func 34 [])) [(.t 8)], none⟩, ⟨(some 10), .nilCheck (.t 6), none⟩, ⟨(some 11), .fieldA (.t 10) 1, none⟩, ⟨none, .store 1 (.t 11) (.t 9), none⟩] []),
 none⟩
theorem c160 : cFunc Tryz.prog true none [[]] Tryz.f160 = some m160 := by kernel_rfl

/-- (*letterbox/search.reader).named -/
def m161 : MFunc := ⟨17, 3, [],
 (.seq
 (.ops [⟨(some 6), .mv (.t 1), none⟩, ⟨(some 7), .mv (.t 0), none⟩, ⟨(some 8), .call (.c (.func 218 [])) [(.t 7)], none⟩, ⟨(some 9), .call (.c (.func 34 [])) [(.t 8)], none⟩, ⟨(some 10), .nilCheck (.t 6), none⟩, ⟨(some 11), .fieldA (.t 10) 2, none⟩, ⟨none, .store 1 (.t 11) (.t 9), none⟩] [1, 0])
 (.ops [⟨(some 12), .mv (.t 1), none⟩, ⟨(some 13), .mv (.t 0), none⟩, ⟨(some 14), .call (.c (.func 216 [])) [(.t 13)], none⟩, ⟨(some 15), .nilCheck (.t 12), none⟩, ⟨(some 16), .fieldA (.t 15) 1, none⟩, ⟨none, .store 1 (.t 16) (.t 14), none⟩] [])),
 none⟩
theorem c161 : cFunc Tryz.prog true none [[1, 0], []] Tryz.f161 = some m161 := by kernel_rfl

/-- (*letterbox/search.reader).dated -/
def m162 : MFunc := ⟨22, 3, [],
 (.seq
 (.ops [⟨(some 9), .mv (.t 0), none⟩, ⟨(some 10), .call (.c (.func 218 [])) [(.t 9)], none⟩, ⟨(some 11), .call (.c (.func 219 [])) [(.t 10)], none⟩, ⟨(some 8), .mv (.t 11), none⟩, ⟨(some 12), .extract (.t 8) 0, none⟩, ⟨(some 13), .extract (.t 8) 1, none⟩, ⟨(some 6), .mv (.t 12), none⟩, ⟨(some 7), .mv (.t 13), none⟩] [7, 0, 1, 6])
 (.seq
 (.seq
 (.ops [⟨(some 14), .mv (.t 7), none⟩, ⟨(some 15), .un .not (.t 14), none⟩] [15, 0, 1, 6])
 (.cond (.t 15)
  (.ops [⟨(some 16), .mv (.t 0), none⟩, ⟨(some 17), .call (.c (.func 21 [])) [(.t 16), (.c (.int .i64 50))], none⟩] [1, 6])
  .skip))
 (.ops [⟨(some 18), .mv (.t 1), none⟩, ⟨(some 19), .mv (.t 6), none⟩, ⟨(some 20), .nilCheck (.t 18), none⟩, ⟨(some 21), .fieldA (.t 20) 3, none⟩, ⟨none, .store 1 (.t 21) (.t 19), none⟩] []))),
 none⟩
theorem c162 : cFunc Tryz.prog true none [[7, 0, 1, 6], [15, 0, 1, 6], [1, 6], []] Tryz.f162 = some m162 := by kernel_rfl

/-- (*letterbox/search.reader).sized -/
def m163 : MFunc := ⟨22, 3, [],
 (.seq
 (.ops [⟨(some 9), .mv (.t 0), none⟩, ⟨(some 10), .call (.c (.func 217 [])) [(.t 9)], none⟩, ⟨(some 11), .call (.c (.func 171 [])) [(.t 10)], none⟩, ⟨(some 8), .mv (.t 11), none⟩, ⟨(some 12), .extract (.t 8) 0, none⟩, ⟨(some 13), .extract (.t 8) 1, none⟩, ⟨(some 6), .mv (.t 12), none⟩, ⟨(some 7), .mv (.t 13), none⟩] [7, 0, 1, 6])
 (.seq
 (.seq
 (.ops [⟨(some 14), .mv (.t 7), none⟩, ⟨(some 15), .un .not (.t 14), none⟩] [15, 0, 1, 6])
 (.cond (.t 15)
  (.ops [⟨(some 16), .mv (.t 0), none⟩, ⟨(some 17), .call (.c (.func 21 [])) [(.t 16), (.c (.int .i64 50))], none⟩] [1, 6])
  .skip))
 (.ops [⟨(some 18), .mv (.t 1), none⟩, ⟨(some 19), .mv (.t 6), none⟩, ⟨(some 20), .nilCheck (.t 18), none⟩, ⟨(some 21), .fieldA (.t 20) 3, none⟩, ⟨none, .store 1 (.t 21) (.t 19), none⟩] []))),
 none⟩
theorem c163 : cFunc Tryz.prog true none [[7, 0, 1, 6], [15, 0, 1, 6], [1, 6], []] Tryz.f163 = some m163 := by kernel_rfl

/-- (*letterbox/search.reader).one -/
def m164 : MFunc := ⟨22, 3, [],
 (.seq
 (.ops [⟨(some 6), .mv (.t 0), none⟩, ⟨(some 7), .mkSlice 1 (.int .i64 0) 1 [(0, (.c (.int .i64 5)))], none⟩, ⟨(some 8), .call (.c (.func 53 [])) [(.t 6), (.t 7)], none⟩] [1, 0, 2])
 (.draw [⟨⟨(some 9), .mv (.t 1), none⟩, none⟩, ⟨⟨(some 10), .nilCheck (.t 9), none⟩, none⟩, ⟨⟨(some 11), .fieldA (.t 10) 4, none⟩, none⟩, ⟨⟨(some 12), .load none (.t 11), none⟩, none⟩, ⟨⟨(some 13), .mv (.t 0), none⟩, none⟩, ⟨⟨(some 14), .mv (.t 2), none⟩, none⟩, ⟨⟨(some 15), .call (.c (.func 51 [])) [(.t 13), (.t 14)], none⟩, (some [6])⟩, ⟨⟨(some 16), .lenL (.t 12), none⟩, none⟩, ⟨⟨(some 17), .mkSlice 5 (.agg [(.str []), (.str []), (.str []), (.int .i64 0), .nilslice]) 1 [(0, (.c (.agg [(.str []), (.str []), (.str []), (.int .i64 0), .nilslice])))], none⟩, none⟩, ⟨⟨(some 18), .append 30 5 80 (.t 12) (.t 17), none⟩, (some [6, 9])⟩, ⟨⟨(some 19), .idxA 5 (.t 18) (.t 16), none⟩, none⟩, ⟨⟨none, .store 5 (.t 19) (.t 15), none⟩, (some [6, 9, 11])⟩, ⟨⟨(some 20), .nilCheck (.t 9), none⟩, none⟩, ⟨⟨(some 21), .fieldA (.t 20) 4, none⟩, none⟩, ⟨⟨none, .store 1 (.t 21) (.t 18), none⟩, (some [6, 9, 11, 14])⟩] [(7, [], []), (8, [], []), (0, [6], [6]), (1, [6], [6]), (2, [6], [6]), (3, [6], [6]), (12, [6, 9], [6, 9]), (13, [6, 9], [6, 9]), (14, [6, 9], [6, 9, 14]), (10, [6, 9, 14], [6, 9, 14]), (11, [6, 9, 14], [6, 9, 11, 14])] [])),
 (some [1])⟩
theorem c164 : cFunc Tryz.prog true (some [1]) [[1, 0, 2], [], [6]] Tryz.f164 = some m164 := by kernel_rfl

/-- (*letterbox/search.reader).two -/
def m165 : MFunc := ⟨14, 3, [],
 (.seq
 (.ops [⟨(some 6), .mv (.t 0), none⟩, ⟨(some 7), .mv (.t 1), none⟩, ⟨(some 8), .mv (.t 2), none⟩, ⟨(some 9), .call (.c (.func 164 [])) [(.t 6), (.t 7), (.t 8)], none⟩] [0, 1, 2])
 (.ops [⟨(some 10), .mv (.t 0), none⟩, ⟨(some 11), .mv (.t 1), none⟩, ⟨(some 12), .mv (.t 2), none⟩, ⟨(some 13), .call (.c (.func 164 [])) [(.t 10), (.t 11), (.t 12)], none⟩] [])),
 (some [1])⟩
theorem c165 : cFunc Tryz.prog true (some [1]) [[0, 1, 2], []] Tryz.f165 = some m165 := by kernel_rfl

/-- (*letterbox/search.reader).uids -/
def m166 : MFunc := ⟨25, 3, [],
 (.seq
 (.ops [⟨(some 8), .mv (.t 1), none⟩, ⟨(some 9), .mv (.t 0), none⟩, ⟨(some 10), .call (.c (.func 217 [])) [(.t 9)], none⟩, ⟨(some 11), .nilCheck (.t 8), none⟩, ⟨(some 12), .fieldA (.t 11) 1, none⟩, ⟨none, .store 1 (.t 12) (.t 10), none⟩] [1, 0])
 (.seq
 (.ops [⟨(some 14), .mv (.t 1), none⟩, ⟨(some 15), .nilCheck (.t 14), none⟩, ⟨(some 16), .fieldA (.t 15) 1, none⟩, ⟨(some 17), .load none (.t 16), none⟩, ⟨(some 18), .call (.c (.func 58 [])) [(.t 17)], none⟩, ⟨(some 13), .mv (.t 18), none⟩, ⟨(some 19), .extract (.t 13) 0, none⟩, ⟨(some 20), .extract (.t 13) 1, none⟩, ⟨(some 6), .mv (.t 19), none⟩, ⟨(some 7), .mv (.t 20), none⟩] [7, 0])
 (.seq
 (.ops [⟨(some 21), .mv (.t 7), none⟩, ⟨(some 22), .bin .neq (.t 21) (.c (.int .i64 0)), none⟩] [22, 0])
 (.cond (.t 22)
  (.ops [⟨(some 23), .mv (.t 0), none⟩, ⟨(some 24), .call (.c (.func 21 [])) [(.t 23), (.c (.int .i64 50))], none⟩] [])
  .skip)))),
 none⟩
theorem c166 : cFunc Tryz.prog true none [[1, 0], [7, 0], [22, 0], []] Tryz.f166 = some m166 := by kernel_rfl

/-- slices.Index[[]int,int] -/
def m167 : MFunc := ⟨19, 2, [.t 4],
 (.seq
 (.ops [⟨(some 4), .mv (.c (.int .i64 0)), none⟩] [0, 1])
 (.seq
 (.seq
 (.ops [⟨(some 6), .mv (.t 0), none⟩, ⟨(some 7), .lenL (.t 6), none⟩, ⟨(some 8), .mv (.c (.int .i64 0)), none⟩] [8, 7, 1, 0])
 (.block 0
  (.loop [8, 7, 1, 0]
   (.seq
   (.ops [⟨(some 9), .bin .lss (.t 8) (.t 7), none⟩] [9, 8, 1, 0, 7])
   (.seq
   (.cond (.t 9)
    .skip
    (.exit 0))
   (.seq
   (.block 1
    (.seq
    (.ops [⟨(some 10), .mv (.t 8), none⟩, ⟨(some 5), .mv (.t 10), none⟩] [1, 0, 5, 8, 7])
    (.seq
    (.ops [⟨(some 11), .mv (.t 1), none⟩, ⟨(some 12), .mv (.t 0), none⟩, ⟨(some 13), .mv (.t 5), none⟩, ⟨(some 14), .idxA 1 (.t 12) (.t 13), none⟩, ⟨(some 15), .load none (.t 14), none⟩, ⟨(some 16), .bin .eql (.t 11) (.t 15), none⟩] [16, 5, 8, 7, 1, 0])
    (.cond (.t 16)
     (.seq
     (.ops [⟨(some 17), .mv (.t 5), none⟩, ⟨(some 4), .mv (.t 17), none⟩] [4])
     .ret)
     .skip))))
   (.ops [⟨(some 18), .bin .add (.t 8) (.c (.int .i64 1)), none⟩, ⟨(some 8), .mv (.t 18), none⟩] [8, 7, 1, 0])))))))
 (.seq
 (.ops [⟨(some 4), .mv (.c (.int .i64 (-1))), none⟩] [4])
 .ret))),
 none⟩
theorem c167 : cFunc Tryz.prog true none [[0, 1], [8, 7, 1, 0], [8, 7, 1, 0], [9, 8, 1, 0, 7], [1, 0, 5, 8, 7], [16, 5, 8, 7, 1, 0], [4], [8, 7, 1, 0], [4]] Tryz.f167 = some m167 := by kernel_rfl

/-- internal/stringslite.Cut -/
def m170 : MFunc := ⟨23, 2, [.t 4, .t 5, .t 6],
 (.seq
 (.ops [⟨(some 4), .mv (.c (.str [])), none⟩, ⟨(some 5), .mv (.c (.str [])), none⟩, ⟨(some 6), .mv (.c (.bool false)), none⟩] [0, 1])
 (.seq
 (.seq
 (.ops [⟨(some 8), .mv (.t 0), none⟩, ⟨(some 9), .mv (.t 1), none⟩, ⟨(some 10), .call (.c (.func 137 [])) [(.t 8), (.t 9)], none⟩, ⟨(some 7), .mv (.t 10), none⟩] [7, 0, 1])
 (.seq
 (.ops [⟨(some 11), .mv (.t 7), none⟩, ⟨(some 12), .bin .geq (.t 11) (.c (.int .i64 0)), none⟩] [12, 0, 7, 1])
 (.cond (.t 12)
  (.seq
  (.draw [⟨⟨(some 13), .mv (.t 0), none⟩, none⟩, ⟨⟨(some 14), .mv (.t 7), none⟩, none⟩, ⟨⟨(some 15), .sliceStr (.t 13) none (some (.t 14)), none⟩, none⟩, ⟨⟨(some 16), .mv (.t 0), none⟩, none⟩, ⟨⟨(some 17), .mv (.t 7), none⟩, none⟩, ⟨⟨(some 18), .mv (.t 1), none⟩, none⟩, ⟨⟨(some 19), .lenS (.t 18), none⟩, none⟩, ⟨⟨(some 20), .bin .add (.t 17) (.t 19), none⟩, none⟩, ⟨⟨(some 21), .sliceStr (.t 16) (some (.t 20)) none, none⟩, none⟩, ⟨⟨(some 4), .mv (.t 15), none⟩, none⟩, ⟨⟨(some 5), .mv (.t 21), none⟩, none⟩, ⟨⟨(some 6), .mv (.c (.bool true)), none⟩, none⟩] [] [4, 5, 6])
  .ret)
  .skip)))
 (.seq
 (.ops [⟨(some 22), .mv (.t 0), none⟩, ⟨(some 4), .mv (.t 22), none⟩, ⟨(some 5), .mv (.c (.str [])), none⟩, ⟨(some 6), .mv (.c (.bool false)), none⟩] [4, 5, 6])
 .ret))),
 none⟩
theorem c170 : cFunc Tryz.prog true none [[0, 1], [7, 0, 1], [12, 0, 7, 1], [4, 5, 6], [], [4, 5, 6]] Tryz.f170 = some m170 := by kernel_rfl

/-- letterbox/chars.Number -/
def m171 : MFunc := ⟨51, 1, [.t 2, .t 3],
 (.seq
 (.ops [⟨(some 2), .mv (.c (.int .i64 0)), none⟩, ⟨(some 3), .mv (.c (.bool false)), none⟩] [0])
 (.seq
 (.seq
 (.ops [⟨(some 6), .mv (.t 0), none⟩, ⟨(some 7), .lenS (.t 6), none⟩, ⟨(some 8), .bin .lss (.t 7) (.c (.int .i64 1)), none⟩, ⟨(some 9), .mv (.t 8), none⟩, ⟨(some 10), .mv (.t 0), (some (9, false))⟩, ⟨(some 11), .lenS (.t 10), (some (9, false))⟩, ⟨(some 12), .bin .gtr (.t 11) (.c (.int .i64 10)), (some (9, false))⟩, ⟨(some 13), .pick (.t 9) (.c (.bool true)) (.t 12), none⟩, ⟨(some 14), .mv (.t 13), none⟩, ⟨(some 15), .mv (.t 0), (some (14, false))⟩, ⟨(some 16), .lenS (.t 15), (some (14, false))⟩, ⟨(some 17), .bin .gtr (.t 16) (.c (.int .i64 1)), (some (14, false))⟩, ⟨(some 18), .mv (.t 17), (some (14, false))⟩, ⟨(some 19), .mv (.t 0), (some (18, true))⟩, ⟨(some 20), .idxStr (.t 19) (.c (.int .i64 0)), (some (18, true))⟩, ⟨(some 21), .bin .eql (.t 20) (.c (.int .u8 48)), (some (18, true))⟩, ⟨(some 22), .pick (.t 18) (.t 21) (.c (.bool false)), (some (14, false))⟩, ⟨(some 23), .pick (.t 14) (.c (.bool true)) (.t 22), none⟩] [23, 0])
 (.cond (.t 23)
  (.seq
  (.ops [⟨(some 2), .mv (.c (.int .i64 0)), none⟩, ⟨(some 3), .mv (.c (.bool false)), none⟩] [2, 3])
  .ret)
  .skip))
 (.seq
 (.ops [⟨(some 4), .mv (.c (.int .i64 0)), none⟩] [0, 4])
 (.seq
 (.seq
 (.ops [⟨(some 24), .mv (.t 0), none⟩, ⟨(some 25), .lenS (.t 24), none⟩, ⟨(some 26), .mv (.c (.int .i64 0)), none⟩] [26, 25, 0, 4])
 (.block 0
  (.loop [26, 25, 0, 4]
   (.seq
   (.ops [⟨(some 27), .bin .lss (.t 26) (.t 25), none⟩] [27, 26, 0, 4, 25])
   (.seq
   (.cond (.t 27)
    .skip
    (.exit 0))
   (.seq
   (.block 1
    (.seq
    (.ops [⟨(some 28), .mv (.t 26), none⟩, ⟨(some 5), .mv (.t 28), none⟩] [0, 5, 4, 26, 25])
    (.seq
    (.seq
    (.ops [⟨(some 29), .mv (.t 0), none⟩, ⟨(some 30), .mv (.t 5), none⟩, ⟨(some 31), .idxStr (.t 29) (.t 30), none⟩, ⟨(some 32), .bin .lss (.t 31) (.c (.int .u8 48)), none⟩, ⟨(some 33), .mv (.t 32), none⟩, ⟨(some 34), .mv (.t 0), (some (33, false))⟩, ⟨(some 35), .mv (.t 5), (some (33, false))⟩, ⟨(some 36), .idxStr (.t 34) (.t 35), (some (33, false))⟩, ⟨(some 37), .bin .gtr (.t 36) (.c (.int .u8 57)), (some (33, false))⟩, ⟨(some 38), .pick (.t 33) (.c (.bool true)) (.t 37), none⟩] [38, 4, 0, 5, 26, 25])
    (.cond (.t 38)
     (.seq
     (.ops [⟨(some 2), .mv (.c (.int .i64 0)), none⟩, ⟨(some 3), .mv (.c (.bool false)), none⟩] [2, 3])
     .ret)
     .skip))
    (.ops [⟨(some 39), .mv (.t 4), none⟩, ⟨(some 40), .bin .mul (.c (.int .i64 10)) (.t 39), none⟩, ⟨(some 41), .mv (.t 0), none⟩, ⟨(some 42), .mv (.t 5), none⟩, ⟨(some 43), .idxStr (.t 41) (.t 42), none⟩, ⟨(some 44), .bin .sub (.t 43) (.c (.int .u8 48)), none⟩, ⟨(some 45), .conv (.int .i64) (.t 44), none⟩, ⟨(some 46), .bin .add (.t 40) (.t 45), none⟩, ⟨(some 4), .mv (.t 46), none⟩] [26, 25, 0, 4]))))
   (.ops [⟨(some 47), .bin .add (.t 26) (.c (.int .i64 1)), none⟩, ⟨(some 26), .mv (.t 47), none⟩] [26, 25, 0, 4])))))))
 (.seq
 (.seq
 (.ops [⟨(some 48), .mv (.t 4), none⟩, ⟨(some 49), .bin .gtr (.t 48) (.c (.int .i64 4294967295)), none⟩] [49, 4])
 (.cond (.t 49)
  (.seq
  (.ops [⟨(some 2), .mv (.c (.int .i64 0)), none⟩, ⟨(some 3), .mv (.c (.bool false)), none⟩] [2, 3])
  .ret)
  .skip))
 (.seq
 (.ops [⟨(some 50), .mv (.t 4), none⟩, ⟨(some 2), .mv (.t 50), none⟩, ⟨(some 3), .mv (.c (.bool true)), none⟩] [2, 3])
 .ret)))))),
 none⟩
theorem c171 : cFunc Tryz.prog true none [[0], [23, 0], [2, 3], [0, 4], [26, 25, 0, 4], [26, 25, 0, 4], [27, 26, 0, 4, 25], [0, 5, 4, 26, 25], [38, 4, 0, 5, 26, 25], [2, 3], [26, 25, 0, 4], [26, 25, 0, 4], [49, 4], [2, 3], [2, 3]] Tryz.f171 = some m171 := by kernel_rfl

/-- slices.IndexFunc[[]letterbox/seqset.Range,letterbox/seqset.Range] -/
def m172 : MFunc := ⟨19, 2, [.t 4],
 (.seq
 (.ops [⟨(some 4), .mv (.c (.int .i64 0)), none⟩] [0, 1])
 (.seq
 (.seq
 (.ops [⟨(some 6), .mv (.t 0), none⟩, ⟨(some 7), .lenL (.t 6), none⟩, ⟨(some 8), .mv (.c (.int .i64 0)), none⟩] [8, 7, 1, 0])
 (.block 0
  (.loop [8, 7, 1, 0]
   (.seq
   (.ops [⟨(some 9), .bin .lss (.t 8) (.t 7), none⟩] [9, 8, 1, 0, 7])
   (.seq
   (.cond (.t 9)
    .skip
    (.exit 0))
   (.seq
   (.block 1
    (.seq
    (.ops [⟨(some 10), .mv (.t 8), none⟩, ⟨(some 5), .mv (.t 10), none⟩] [1, 0, 5, 8, 7])
    (.seq
    (.ops [⟨(some 11), .mv (.t 1), none⟩, ⟨(some 12), .mv (.t 0), none⟩, ⟨(some 13), .mv (.t 5), none⟩, ⟨(some 14), .idxA 2 (.t 12) (.t 13), none⟩, ⟨(some 15), .load (some 2) (.t 14), none⟩, ⟨(some 16), .call (.t 11) [(.t 15)], none⟩] [16, 5, 8, 7, 1, 0])
    (.cond (.t 16)
     (.seq
     (.ops [⟨(some 17), .mv (.t 5), none⟩, ⟨(some 4), .mv (.t 17), none⟩] [4])
     .ret)
     .skip))))
   (.ops [⟨(some 18), .bin .add (.t 8) (.c (.int .i64 1)), none⟩, ⟨(some 8), .mv (.t 18), none⟩] [8, 7, 1, 0])))))))
 (.seq
 (.ops [⟨(some 4), .mv (.c (.int .i64 (-1))), none⟩] [4])
 .ret))),
 none⟩
theorem c172 : cFunc Tryz.prog true none [[0, 1], [8, 7, 1, 0], [8, 7, 1, 0], [9, 8, 1, 0, 7], [1, 0, 5, 8, 7], [16, 5, 8, 7, 1, 0], [4], [8, 7, 1, 0], [4]] Tryz.f172 = some m172 := by kernel_rfl

/-- letterbox/chars.Blank -/
def m173 : MFunc := ⟨9, 1, [.t 2],
 (.seq
 (.ops [⟨(some 2), .mv (.c (.bool false)), none⟩] [0])
 (.seq
 (.ops [⟨(some 3), .mv (.t 0), none⟩, ⟨(some 4), .bin .eql (.t 3) (.c (.int .u8 32)), none⟩, ⟨(some 5), .mv (.t 4), none⟩, ⟨(some 6), .mv (.t 0), (some (5, false))⟩, ⟨(some 7), .bin .eql (.t 6) (.c (.int .u8 9)), (some (5, false))⟩, ⟨(some 8), .pick (.t 5) (.c (.bool true)) (.t 7), none⟩, ⟨(some 2), .mv (.t 8), none⟩] [2])
 .ret)),
 none⟩
theorem c173 : cFunc Tryz.prog true none [[0], [2]] Tryz.f173 = some m173 := by kernel_rfl

/-- letterbox/date.offset -/
def m174 : MFunc := ⟨52, 1, [.t 2, .t 3],
 (.seq
 (.ops [⟨(some 2), .mv (.c (.int .i64 0)), none⟩, ⟨(some 3), .mv (.c (.bool false)), none⟩] [0])
 (.seq
 (.seq
 (.ops [⟨(some 6), .mv (.t 0), none⟩, ⟨(some 7), .lenS (.t 6), none⟩, ⟨(some 8), .bin .neq (.t 7) (.c (.int .i64 5)), none⟩, ⟨(some 9), .mv (.t 8), none⟩, ⟨(some 10), .mv (.t 0), (some (9, false))⟩, ⟨(some 11), .idxStr (.t 10) (.c (.int .i64 0)), (some (9, false))⟩, ⟨(some 12), .bin .neq (.t 11) (.c (.int .u8 43)), (some (9, false))⟩, ⟨(some 13), .mv (.t 12), (some (9, false))⟩, ⟨(some 14), .mv (.t 0), (some (13, true))⟩, ⟨(some 15), .idxStr (.t 14) (.c (.int .i64 0)), (some (13, true))⟩, ⟨(some 16), .bin .neq (.t 15) (.c (.int .u8 45)), (some (13, true))⟩, ⟨(some 17), .pick (.t 13) (.t 16) (.c (.bool false)), (some (9, false))⟩, ⟨(some 18), .pick (.t 9) (.c (.bool true)) (.t 17), none⟩] [18, 0])
 (.cond (.t 18)
  (.seq
  (.ops [⟨(some 2), .mv (.c (.int .i64 0)), none⟩, ⟨(some 3), .mv (.c (.bool false)), none⟩] [2, 3])
  .ret)
  .skip))
 (.seq
 (.draw [⟨⟨(some 19), .mv (.t 0), none⟩, none⟩, ⟨⟨(some 20), .sliceStr (.t 19) (some (.c (.int .i64 1))) (some (.c (.int .i64 3))), none⟩, none⟩, ⟨⟨(some 21), .mkSlice 1 (.int .i64 0) 1 [(0, (.c (.int .i64 2)))], none⟩, none⟩, ⟨⟨(some 22), .call (.c (.func 125 [])) [(.t 20), (.t 21)], none⟩, none⟩, ⟨⟨(some 23), .mv (.t 0), none⟩, none⟩, ⟨⟨(some 24), .sliceStr (.t 23) (some (.c (.int .i64 3))) none, none⟩, none⟩, ⟨⟨(some 25), .mkSlice 1 (.int .i64 0) 1 [(0, (.c (.int .i64 2)))], none⟩, none⟩, ⟨⟨(some 26), .call (.c (.func 125 [])) [(.t 24), (.t 25)], none⟩, none⟩, ⟨⟨(some 4), .mv (.t 22), none⟩, none⟩, ⟨⟨(some 5), .mv (.t 26), none⟩, none⟩] [] [4, 5, 0])
 (.seq
 (.seq
 (.ops [⟨(some 27), .mv (.t 4), none⟩, ⟨(some 28), .bin .lss (.t 27) (.c (.int .i64 0)), none⟩, ⟨(some 29), .mv (.t 28), none⟩, ⟨(some 30), .mv (.t 4), (some (29, false))⟩, ⟨(some 31), .bin .gtr (.t 30) (.c (.int .i64 23)), (some (29, false))⟩, ⟨(some 32), .pick (.t 29) (.c (.bool true)) (.t 31), none⟩, ⟨(some 33), .mv (.t 32), none⟩, ⟨(some 34), .mv (.t 5), (some (33, false))⟩, ⟨(some 35), .bin .lss (.t 34) (.c (.int .i64 0)), (some (33, false))⟩, ⟨(some 36), .pick (.t 33) (.c (.bool true)) (.t 35), none⟩, ⟨(some 37), .mv (.t 36), none⟩, ⟨(some 38), .mv (.t 5), (some (37, false))⟩, ⟨(some 39), .bin .gtr (.t 38) (.c (.int .i64 59)), (some (37, false))⟩, ⟨(some 40), .pick (.t 37) (.c (.bool true)) (.t 39), none⟩] [40, 0, 4, 5])
 (.cond (.t 40)
  (.seq
  (.ops [⟨(some 2), .mv (.c (.int .i64 0)), none⟩, ⟨(some 3), .mv (.c (.bool false)), none⟩] [2, 3])
  .ret)
  .skip))
 (.seq
 (.seq
 (.ops [⟨(some 41), .mv (.t 0), none⟩, ⟨(some 42), .idxStr (.t 41) (.c (.int .i64 0)), none⟩, ⟨(some 43), .bin .eql (.t 42) (.c (.int .u8 45)), none⟩] [43, 4, 5])
 (.cond (.t 43)
  (.seq
  (.ops [⟨(some 44), .mv (.t 4), none⟩, ⟨(some 45), .bin .mul (.c (.int .i64 (-60))) (.t 44), none⟩, ⟨(some 46), .mv (.t 5), none⟩, ⟨(some 47), .bin .sub (.t 45) (.t 46), none⟩, ⟨(some 2), .mv (.t 47), none⟩, ⟨(some 3), .mv (.c (.bool true)), none⟩] [2, 3])
  .ret)
  .skip))
 (.seq
 (.ops [⟨(some 48), .mv (.t 4), none⟩, ⟨(some 49), .bin .mul (.c (.int .i64 60)) (.t 48), none⟩, ⟨(some 50), .mv (.t 5), none⟩, ⟨(some 51), .bin .add (.t 49) (.t 50), none⟩, ⟨(some 2), .mv (.t 51), none⟩, ⟨(some 3), .mv (.c (.bool true)), none⟩] [2, 3])
 .ret)))))),
 none⟩
theorem c174 : cFunc Tryz.prog true none [[0], [18, 0], [2, 3], [4, 5, 0], [], [40, 0, 4, 5], [2, 3], [43, 4, 5], [2, 3], [2, 3]] Tryz.f174 = some m174 := by kernel_rfl

/-- letterbox/date.length -/
def m175 : MFunc := ⟨15, 2, [.t 4],
 (.seq
 (.ops [⟨(some 4), .mv (.c (.int .i64 0)), none⟩] [1, 0])
 (.seq
 (.seq
 (.ops [⟨(some 5), .mv (.t 1), none⟩] [5, 0])
 (.block 0
  (.seq
  (.ops [⟨(some 7), .bin .eql (.t 5) (.c (.int .i64 1)), none⟩, ⟨(some 6), .mv (.t 7), none⟩] [6, 0, 5])
  (.cond (.t 6)
   (.seq
   (.seq
   (.ops [⟨(some 8), .mv (.t 0), none⟩, ⟨(some 9), .call (.c (.func 221 [])) [(.t 8)], none⟩] [9])
   (.cond (.t 9)
    (.seq
    (.ops [⟨(some 4), .mv (.c (.int .i64 29)), none⟩] [4])
    .ret)
    .skip))
   (.seq
   (.ops [⟨(some 4), .mv (.c (.int .i64 28)), none⟩] [4])
   .ret))
   (.seq
   (.seq
   (.ops [⟨(some 11), .bin .eql (.t 5) (.c (.int .i64 3)), none⟩, ⟨(some 10), .mv (.t 11), none⟩] [10, 5])
   (.cond (.t 10)
    .skip
    (.seq
    (.ops [⟨(some 12), .bin .eql (.t 5) (.c (.int .i64 5)), none⟩, ⟨(some 10), .mv (.t 12), none⟩] [10, 5])
    (.cond (.t 10)
     .skip
     (.seq
     (.ops [⟨(some 13), .bin .eql (.t 5) (.c (.int .i64 8)), none⟩, ⟨(some 10), .mv (.t 13), none⟩] [10, 5])
     (.cond (.t 10)
      .skip
      (.ops [⟨(some 14), .bin .eql (.t 5) (.c (.int .i64 10)), none⟩, ⟨(some 10), .mv (.t 14), none⟩] [10])))))))
   (.cond (.t 10)
    (.seq
    (.ops [⟨(some 4), .mv (.c (.int .i64 30)), none⟩] [4])
    .ret)
    .skip))))))
 (.seq
 (.ops [⟨(some 4), .mv (.c (.int .i64 31)), none⟩] [4])
 .ret))),
 none⟩
theorem c175 : cFunc Tryz.prog true none [[1, 0], [5, 0], [6, 0, 5], [9], [4], [4], [10, 5], [10, 5], [10, 5], [10], [4], [4]] Tryz.f175 = some m175 := by kernel_rfl

/-- letterbox/date.ahead -/
def m176 : MFunc := ⟨16, 1, [.t 2],
 (.seq
 (.ops [⟨(some 2), .mv (.c (.int .i64 0)), none⟩] [0])
 (.seq
 (.ops [⟨(some 3), .mv (.t 0), none⟩, ⟨(some 4), .bin .sub (.t 3) (.c (.int .i64 1)), none⟩, ⟨(some 0), .mv (.t 4), none⟩] [0])
 (.seq
 (.ops [⟨(some 5), .mv (.t 0), none⟩, ⟨(some 6), .bin .mul (.c (.int .i64 365)) (.t 5), none⟩, ⟨(some 7), .mv (.t 0), none⟩, ⟨(some 8), .bin .quo (.t 7) (.c (.int .i64 4)), none⟩, ⟨(some 9), .bin .add (.t 6) (.t 8), none⟩, ⟨(some 10), .mv (.t 0), none⟩, ⟨(some 11), .bin .quo (.t 10) (.c (.int .i64 100)), none⟩, ⟨(some 12), .bin .sub (.t 9) (.t 11), none⟩, ⟨(some 13), .mv (.t 0), none⟩, ⟨(some 14), .bin .quo (.t 13) (.c (.int .i64 400)), none⟩, ⟨(some 15), .bin .add (.t 12) (.t 14), none⟩, ⟨(some 2), .mv (.t 15), none⟩] [2])
 .ret))),
 none⟩
theorem c176 : cFunc Tryz.prog true none [[0], [0], [2]] Tryz.f176 = some m176 := by kernel_rfl

/-- letterbox/header.Find$1 -/
def m177 : MFunc := ⟨8, 2, [.t 3],
 (.seq
 (.ops [⟨(some 2), .box 131 (.t 0), none⟩, ⟨(some 3), .mv (.c (.bool false)), none⟩] [2, 1])
 (.seq
 (.ops [⟨(some 4), .fieldA (.t 2) 0, none⟩, ⟨(some 5), .load none (.t 4), none⟩, ⟨(some 6), .load none (.t 1), none⟩, ⟨(some 7), .call (.c (.func 62 [])) [(.t 5), (.t 6)], none⟩, ⟨(some 3), .mv (.t 7), none⟩] [3])
 .ret)),
 none⟩
theorem c177 : cFunc Tryz.prog true none [[2, 1], [3]] Tryz.f177 = some m177 := by kernel_rfl

/-- strings.HasPrefix -/
def m178 : MFunc := ⟨8, 2, [.t 4],
 (.seq
 (.ops [⟨(some 4), .mv (.c (.bool false)), none⟩] [0, 1])
 (.seq
 (.ops [⟨(some 5), .mv (.t 0), none⟩, ⟨(some 6), .mv (.t 1), none⟩, ⟨(some 7), .call (.c (.func 222 [])) [(.t 5), (.t 6)], none⟩, ⟨(some 4), .mv (.t 7), none⟩] [4])
 .ret)),
 none⟩
theorem c178 : cFunc Tryz.prog true none [[0, 1], [4]] Tryz.f178 = some m178 := by kernel_rfl

/-- strings.ContainsAny -/
def m179 : MFunc := ⟨9, 2, [.t 4],
 (.seq
 (.ops [⟨(some 4), .mv (.c (.bool false)), none⟩] [0, 1])
 (.seq
 (.ops [⟨(some 5), .mv (.t 0), none⟩, ⟨(some 6), .mv (.t 1), none⟩, ⟨(some 7), .call (.c (.func 223 [])) [(.t 5), (.t 6)], none⟩, ⟨(some 8), .bin .geq (.t 7) (.c (.int .i64 0)), none⟩, ⟨(some 4), .mv (.t 8), none⟩] [4])
 .ret)),
 none⟩
theorem c179 : cFunc Tryz.prog true none [[0, 1], [4]] Tryz.f179 = some m179 := by kernel_rfl

/-- letterbox/words.Word$1 -/
def m180 : MFunc := ⟨9, 1, [.t 2, .t 3],
 (.seq
 (.ops [⟨(some 2), .mv (.c .nilslice), none⟩, ⟨(some 3), .mv (.c (.bool false)), none⟩] [0])
 (.seq
 (.ops [⟨(some 4), .mv (.t 0), none⟩, ⟨(some 5), .conv .frozen (.t 4), none⟩, ⟨(some 6), .call (.c (.func 181 [])) [(.t 5)], none⟩, ⟨(some 7), .extract (.t 6) 0, none⟩, ⟨(some 8), .extract (.t 6) 1, none⟩, ⟨(some 2), .mv (.t 7), none⟩, ⟨(some 3), .mv (.t 8), none⟩] [2, 3])
 .ret)),
 none⟩
theorem c180 : cFunc Tryz.prog true none [[0], [2, 3]] Tryz.f180 = some m180 := by kernel_rfl

/-- letterbox/b64.Decode -/
def m181 : MFunc := ⟨33, 1, [.t 2, .t 3],
 (.seq
 (.ops [⟨(some 2), .mv (.c .nilslice), none⟩, ⟨(some 3), .mv (.c (.bool false)), none⟩] [0])
 (.seq
 (.ops [⟨(some 7), .mv (.t 0), none⟩, ⟨(some 8), .call (.c (.func 224 [])) [(.t 7)], none⟩, ⟨(some 0), .mv (.t 8), none⟩] [0])
 (.seq
 (.seq
 (.ops [⟨(some 9), .mv (.t 0), none⟩, ⟨(some 10), .lenL (.t 9), none⟩, ⟨(some 11), .bin .rem (.t 10) (.c (.int .i64 4)), none⟩, ⟨(some 12), .bin .neq (.t 11) (.c (.int .i64 0)), none⟩] [12, 0])
 (.cond (.t 12)
  (.seq
  (.ops [⟨(some 2), .mv (.c .nilslice), none⟩, ⟨(some 3), .mv (.c (.bool false)), none⟩] [2, 3])
  .ret)
  .skip))
 (.seq
 (.ops [⟨(some 4), .mv (.c .nilslice), none⟩] [0, 4])
 (.seq
 (.block 0
  (.loop [0, 4]
   (.seq
   (.seq
   (.ops [⟨(some 13), .mv (.t 0), none⟩, ⟨(some 14), .lenL (.t 13), none⟩, ⟨(some 15), .bin .gtr (.t 14) (.c (.int .i64 0)), none⟩] [15, 0, 4])
   (.cond (.t 15)
    .skip
    (.exit 0)))
   (.seq
   (.block 1
    (.seq
    (.ops [⟨(some 19), .mv (.t 0), none⟩, ⟨(some 20), .slice 1 (.t 19) none (some (.c (.int .i64 4))) none, none⟩, ⟨(some 21), .mv (.t 0), none⟩, ⟨(some 22), .lenL (.t 21), none⟩, ⟨(some 23), .bin .eql (.t 22) (.c (.int .i64 4)), none⟩, ⟨(some 24), .call (.c (.func 225 [])) [(.t 20), (.t 23)], none⟩, ⟨(some 18), .mv (.t 24), none⟩, ⟨(some 25), .extract (.t 18) 0, none⟩, ⟨(some 26), .extract (.t 18) 1, none⟩, ⟨(some 5), .mv (.t 25), none⟩, ⟨(some 6), .mv (.t 26), none⟩] [6, 4, 5, 0])
    (.seq
    (.seq
    (.ops [⟨(some 27), .mv (.t 6), none⟩, ⟨(some 28), .un .not (.t 27), none⟩] [28, 4, 5, 0])
    (.cond (.t 28)
     (.seq
     (.ops [⟨(some 2), .mv (.c .nilslice), none⟩, ⟨(some 3), .mv (.c (.bool false)), none⟩] [2, 3])
     .ret)
     .skip))
    (.ops [⟨(some 29), .mv (.t 4), none⟩, ⟨(some 30), .mv (.t 5), none⟩, ⟨(some 31), .append 5 1 1 (.t 29) (.t 30), none⟩, ⟨(some 4), .mv (.t 31), none⟩] [0, 4]))))
   (.ops [⟨(some 16), .mv (.t 0), none⟩, ⟨(some 17), .slice 1 (.t 16) (some (.c (.int .i64 4))) none none, none⟩, ⟨(some 0), .mv (.t 17), none⟩] [0, 4])))))
 (.seq
 (.ops [⟨(some 32), .mv (.t 4), none⟩, ⟨(some 2), .mv (.t 32), none⟩, ⟨(some 3), .mv (.c (.bool true)), none⟩] [2, 3])
 .ret)))))),
 none⟩
theorem c181 : cFunc Tryz.prog true none [[0], [0], [12, 0], [2, 3], [0, 4], [0, 4], [15, 0, 4], [6, 4, 5, 0], [28, 4, 5, 0], [2, 3], [0, 4], [0, 4], [2, 3]] Tryz.f181 = some m181 := by kernel_rfl

/-- letterbox/words.quoted -/
def m182 : MFunc := ⟨69, 1, [.t 2, .t 3],
 (.seq
 (.ops [⟨(some 2), .mv (.c .nilslice), none⟩, ⟨(some 3), .mv (.c (.bool false)), none⟩] [0])
 (.seq
 (.ops [⟨(some 4), .mv (.c .nilslice), none⟩] [0, 4])
 (.seq
 (.seq
 (.ops [⟨(some 5), .mv (.c (.int .i64 0)), none⟩] [5, 0, 4])
 (.block 0
  (.loop [5, 0, 4]
   (.seq
   (.seq
   (.ops [⟨(some 10), .mv (.t 5), none⟩, ⟨(some 11), .mv (.t 0), none⟩, ⟨(some 12), .lenS (.t 11), none⟩, ⟨(some 13), .bin .lss (.t 10) (.t 12), none⟩] [13, 0, 5, 4])
   (.cond (.t 13)
    .skip
    (.exit 0)))
   (.seq
   (.block 1
    (.seq
    (.ops [⟨(some 16), .mv (.t 0), none⟩, ⟨(some 17), .mv (.t 5), none⟩, ⟨(some 18), .idxStr (.t 16) (.t 17), none⟩] [18, 4, 5, 0])
    (.block 2
     (.seq
     (.ops [⟨(some 26), .bin .eql (.t 18) (.c (.int .u8 95)), none⟩, ⟨(some 25), .mv (.t 26), none⟩] [25, 4, 5, 0, 18])
     (.cond (.t 25)
      (.ops [⟨(some 27), .mv (.t 4), none⟩, ⟨(some 28), .mkSlice 1 (.int .u8 0) 1 [(0, (.c (.int .u8 32)))], none⟩, ⟨(some 29), .append 5 1 1 (.t 27) (.t 28), none⟩, ⟨(some 4), .mv (.t 29), none⟩] [5, 0, 4])
      (.seq
      (.ops [⟨(some 31), .bin .eql (.t 18) (.c (.int .u8 61)), none⟩, ⟨(some 30), .mv (.t 31), none⟩] [30, 5, 0, 4])
      (.cond (.t 30)
       (.seq
       (.seq
       (.ops [⟨(some 32), .mv (.t 5), none⟩, ⟨(some 33), .bin .add (.t 32) (.c (.int .i64 2)), none⟩, ⟨(some 34), .mv (.t 0), none⟩, ⟨(some 35), .lenS (.t 34), none⟩, ⟨(some 36), .bin .geq (.t 33) (.t 35), none⟩] [36, 0, 5, 4])
       (.cond (.t 36)
        (.seq
        (.ops [⟨(some 2), .mv (.c .nilslice), none⟩, ⟨(some 3), .mv (.c (.bool false)), none⟩] [2, 3])
        .ret)
        .skip))
       (.seq
       (.ops [⟨(some 38), .mv (.t 0), none⟩, ⟨(some 39), .mv (.t 5), none⟩, ⟨(some 40), .bin .add (.t 39) (.c (.int .i64 1)), none⟩, ⟨(some 41), .idxStr (.t 38) (.t 40), none⟩, ⟨(some 42), .call (.c (.func 226 [])) [(.t 41)], none⟩, ⟨(some 37), .mv (.t 42), none⟩, ⟨(some 43), .extract (.t 37) 0, none⟩, ⟨(some 44), .extract (.t 37) 1, none⟩, ⟨(some 6), .mv (.t 43), none⟩, ⟨(some 7), .mv (.t 44), none⟩] [0, 5, 7, 4, 6])
       (.seq
       (.ops [⟨(some 46), .mv (.t 0), none⟩, ⟨(some 47), .mv (.t 5), none⟩, ⟨(some 48), .bin .add (.t 47) (.c (.int .i64 2)), none⟩, ⟨(some 49), .idxStr (.t 46) (.t 48), none⟩, ⟨(some 50), .call (.c (.func 226 [])) [(.t 49)], none⟩, ⟨(some 45), .mv (.t 50), none⟩, ⟨(some 51), .extract (.t 45) 0, none⟩, ⟨(some 52), .extract (.t 45) 1, none⟩, ⟨(some 8), .mv (.t 51), none⟩, ⟨(some 9), .mv (.t 52), none⟩] [7, 9, 4, 6, 8, 5, 0])
       (.seq
       (.seq
       (.ops [⟨(some 53), .mv (.t 7), none⟩, ⟨(some 54), .un .not (.t 53), none⟩, ⟨(some 55), .mv (.t 54), none⟩, ⟨(some 56), .mv (.t 9), (some (55, false))⟩, ⟨(some 57), .un .not (.t 56), (some (55, false))⟩, ⟨(some 58), .pick (.t 55) (.c (.bool true)) (.t 57), none⟩] [58, 4, 6, 8, 5, 0])
       (.cond (.t 58)
        (.seq
        (.ops [⟨(some 2), .mv (.c .nilslice), none⟩, ⟨(some 3), .mv (.c (.bool false)), none⟩] [2, 3])
        .ret)
        .skip))
       (.seq
       (.ops [⟨(some 59), .mv (.t 4), none⟩, ⟨(some 60), .mv (.t 6), none⟩, ⟨(some 61), .bin .shl (.t 60) (.c (.int .u64 4)), none⟩, ⟨(some 62), .mv (.t 8), none⟩, ⟨(some 63), .bin .or (.t 61) (.t 62), none⟩, ⟨(some 64), .mkSlice 1 (.int .u8 0) 1 [(0, (.t 63))], none⟩, ⟨(some 65), .append 5 1 1 (.t 59) (.t 64), none⟩, ⟨(some 4), .mv (.t 65), none⟩] [5, 0, 4])
       (.ops [⟨(some 66), .mv (.t 5), none⟩, ⟨(some 67), .bin .add (.t 66) (.c (.int .i64 2)), none⟩, ⟨(some 5), .mv (.t 67), none⟩] [5, 0, 4]))))))
       (.ops [⟨(some 19), .mv (.t 4), none⟩, ⟨(some 20), .mv (.t 0), none⟩, ⟨(some 21), .mv (.t 5), none⟩, ⟨(some 22), .idxStr (.t 20) (.t 21), none⟩, ⟨(some 23), .mkSlice 1 (.int .u8 0) 1 [(0, (.t 22))], none⟩, ⟨(some 24), .append 5 1 1 (.t 19) (.t 23), none⟩, ⟨(some 4), .mv (.t 24), none⟩] [5, 0, 4]))))))))
   (.ops [⟨(some 14), .mv (.t 5), none⟩, ⟨(some 15), .bin .add (.t 14) (.c (.int .i64 1)), none⟩, ⟨(some 5), .mv (.t 15), none⟩] [5, 0, 4]))))))
 (.seq
 (.ops [⟨(some 68), .mv (.t 4), none⟩, ⟨(some 2), .mv (.t 68), none⟩, ⟨(some 3), .mv (.c (.bool true)), none⟩] [2, 3])
 .ret)))),
 none⟩
theorem c182 : cFunc Tryz.prog true none [[0], [0, 4], [5, 0, 4], [5, 0, 4], [13, 0, 5, 4], [18, 4, 5, 0], [25, 4, 5, 0, 18], [5, 0, 4], [30, 5, 0, 4], [36, 0, 5, 4], [2, 3], [0, 5, 7, 4, 6], [7, 9, 4, 6, 8, 5, 0], [58, 4, 6, 8, 5, 0], [2, 3], [5, 0, 4], [5, 0, 4], [5, 0, 4], [5, 0, 4], [2, 3]] Tryz.f182 = some m182 := by kernel_rfl

/-- letterbox/charset.Text -/
def m183 : MFunc := ⟨29, 2, [.t 4, .t 5],
 (.seq
 (.ops [⟨(some 4), .mv (.c (.str [])), none⟩, ⟨(some 5), .mv (.c (.int .i64 0)), none⟩] [0, 1])
 (.seq
 (.ops [⟨(some 11), .mv (.t 0), none⟩, ⟨(some 12), .call (.c (.func 50 [])) [(.t 11)], none⟩, ⟨(some 10), .mv (.t 12), none⟩, ⟨(some 13), .extract (.t 10) 0, none⟩, ⟨(some 14), .extract (.t 10) 1, none⟩, ⟨(some 6), .alloc 112 [(.int .i32 0), .nilfunc, .nilfunc], none⟩, ⟨none, .store 3 (.t 6) (.t 13), none⟩, ⟨(some 7), .mv (.t 14), none⟩] [7, 6, 1])
 (.seq
 (.seq
 (.ops [⟨(some 15), .mv (.t 7), none⟩, ⟨(some 16), .un .not (.t 15), none⟩] [16, 6, 1])
 (.cond (.t 16)
  (.seq
  (.ops [⟨(some 4), .mv (.c (.str [])), none⟩, ⟨(some 5), .mv (.c (.int .i64 21)), none⟩] [4, 5])
  .ret)
  .skip))
 (.seq
 (.ops [⟨(some 18), .fieldA (.t 6) 1, none⟩, ⟨(some 19), .load none (.t 18), none⟩, ⟨(some 20), .fieldA (.t 6) 0, none⟩, ⟨(some 21), .load (some 1) (.t 20), none⟩, ⟨(some 22), .mv (.t 1), none⟩, ⟨(some 23), .call (.t 19) [(.t 21), (.t 22)], none⟩, ⟨(some 17), .mv (.t 23), none⟩, ⟨(some 24), .extract (.t 17) 0, none⟩, ⟨(some 25), .extract (.t 17) 1, none⟩, ⟨(some 8), .mv (.t 24), none⟩, ⟨(some 9), .mv (.t 25), none⟩] [9, 8])
 (.seq
 (.seq
 (.ops [⟨(some 26), .mv (.t 9), none⟩, ⟨(some 27), .un .not (.t 26), none⟩] [27, 8])
 (.cond (.t 27)
  (.seq
  (.ops [⟨(some 4), .mv (.c (.str [])), none⟩, ⟨(some 5), .mv (.c (.int .i64 21)), none⟩] [4, 5])
  .ret)
  .skip))
 (.seq
 (.ops [⟨(some 28), .mv (.t 8), none⟩, ⟨(some 4), .mv (.t 28), none⟩, ⟨(some 5), .mv (.c (.int .i64 0)), none⟩] [4, 5])
 .ret)))))),
 none⟩
theorem c183 : cFunc Tryz.prog true none [[0, 1], [7, 6, 1], [16, 6, 1], [4, 5], [9, 8], [27, 8], [4, 5], [4, 5]] Tryz.f183 = some m183 := by kernel_rfl

/-- letterbox/lines.Within -/
def m185 : MFunc := ⟨21, 2, [.t 4],
 (.seq
 (.ops [⟨(some 2), .box 78 (.t 0), none⟩, ⟨(some 4), .mv (.c (.bool false)), none⟩] [2, 1])
 (.seq
 (.ops [⟨(some 5), .fieldA (.t 2) 0, none⟩, ⟨(some 6), .load none (.t 5), none⟩, ⟨(some 7), .bin .geq (.t 6) (.c (.int .i64 0)), none⟩, ⟨(some 8), .mv (.t 7), none⟩, ⟨(some 9), .fieldA (.t 2) 0, (some (8, true))⟩, ⟨(some 10), .load none (.t 9), (some (8, true))⟩, ⟨(some 11), .fieldA (.t 2) 1, (some (8, true))⟩, ⟨(some 12), .load none (.t 11), (some (8, true))⟩, ⟨(some 13), .bin .leq (.t 10) (.t 12), (some (8, true))⟩, ⟨(some 14), .pick (.t 8) (.t 13) (.c (.bool false)), none⟩, ⟨(some 15), .mv (.t 14), none⟩, ⟨(some 16), .fieldA (.t 2) 1, (some (15, true))⟩, ⟨(some 17), .load none (.t 16), (some (15, true))⟩, ⟨(some 18), .mv (.t 1), (some (15, true))⟩, ⟨(some 19), .bin .leq (.t 17) (.t 18), (some (15, true))⟩, ⟨(some 20), .pick (.t 15) (.t 19) (.c (.bool false)), none⟩, ⟨(some 4), .mv (.t 20), none⟩] [4])
 .ret)),
 none⟩
theorem c185 : cFunc Tryz.prog true none [[2, 1], [4]] Tryz.f185 = some m185 := by kernel_rfl
end Go.Proofs.YtnnclgadfbaldaaGreatDoor
