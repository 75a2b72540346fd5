/-
  The functions of the given program as the evaluator has them.
-/
import Derived.Test.YtnnclgadfbaldaaGreatDoorAvD
import Derived.KernelRfl
import Derived.Test.YtnnclgadfbaldaaGreatDoorProg
namespace Go.Proofs.YtnnclgadfbaldaaGreatDoor
open Go.Av

/-- (*letterbox/tree.parser).kind -/
def m192 : MFunc := ⟨26, 3, [.cell 6 (some 3)],
 (.seq
 (.ops [⟨(some 6), .alloc 243 [(.str []), (.str []), .nilslice], none⟩] [0, 1, 6, 2])
 (.seq
 (.ops [⟨(some 10), .mv (.t 0), none⟩, ⟨(some 11), .nilCheck (.t 10), none⟩, ⟨(some 12), .fieldA (.t 11) 0, none⟩, ⟨(some 13), .load none (.t 12), none⟩, ⟨(some 14), .mv (.t 1), none⟩, ⟨(some 15), .call (.c (.func 64 [])) [(.t 13), (.t 14), (.c (.str [99, 111, 110, 116, 101, 110, 116, 45, 116, 121, 112, 101]))], none⟩, ⟨(some 16), .call (.c (.func 233 [])) [(.t 15), (.c (.bool true))], none⟩, ⟨(some 9), .mv (.t 16), none⟩, ⟨(some 17), .extract (.t 9) 0, none⟩, ⟨(some 18), .extract (.t 9) 1, none⟩, ⟨(some 7), .alloc 243 [(.str []), (.str []), .nilslice], none⟩, ⟨none, .store 3 (.t 7) (.t 17), none⟩, ⟨(some 8), .mv (.t 18), none⟩] [8, 7, 6, 2])
 (.seq
 (.block 0
  (.seq
  (.ops [⟨(some 20), .mv (.t 8), none⟩, ⟨(some 19), .mv (.t 20), none⟩] [19, 7, 6, 2])
  (.cond (.t 19)
   (.seq
   (.ops [⟨(some 21), .load (some 3) (.t 7), none⟩, ⟨none, .store 3 (.t 6) (.t 21), none⟩] [6])
   .ret)
   (.seq
   (.ops [⟨(some 23), .mv (.t 2), none⟩, ⟨(some 22), .mv (.t 23), none⟩] [22, 6])
   (.cond (.t 22)
    (.seq
    (.ops [⟨(some 24), .build [(.str []), (.str []), .nilslice] [(0, 1, (.c (.str [109, 101, 115, 115, 97, 103, 101]))), (1, 1, (.c (.str [114, 102, 99, 56, 50, 50])))], none⟩, ⟨none, .store 3 (.t 6) (.t 24), none⟩] [6])
    .ret)
    .skip)))))
 (.seq
 (.ops [⟨(some 25), .build [(.str []), (.str []), .nilslice] [(0, 1, (.c (.str [116, 101, 120, 116]))), (1, 1, (.c (.str [112, 108, 97, 105, 110])))], none⟩, ⟨none, .store 3 (.t 6) (.t 25), none⟩] [6])
 .ret)))),
 none⟩
theorem c192 : cFunc Tryz.prog true none [[0, 1, 6, 2], [8, 7, 6, 2], [19, 7, 6, 2], [6], [22, 6], [6], [6]] Tryz.f192 = some m192 := by kernel_rfl

/-- letterbox/params.Get -/
def m193 : MFunc := ⟨22, 2, [.t 4, .t 5],
 (.seq
 (.ops [⟨(some 2), .box 243 (.t 0), none⟩, ⟨(some 4), .mv (.c (.str [])), none⟩, ⟨(some 5), .mv (.c (.bool false)), none⟩] [2, 1])
 (.seq
 (.seq
 (.ops [⟨(some 8), .fieldA (.t 2) 2, none⟩, ⟨(some 9), .load none (.t 8), none⟩, ⟨(some 10), .lenL (.t 9), none⟩, ⟨(some 11), .mv (.c (.int .i64 0)), none⟩] [11, 10, 9, 1])
 (.block 0
  (.loop [11, 10, 9, 1]
   (.seq
   (.ops [⟨(some 12), .bin .lss (.t 11) (.t 10), none⟩] [12, 9, 11, 1, 10])
   (.seq
   (.cond (.t 12)
    .skip
    (.exit 0))
   (.seq
   (.block 1
    (.seq
    (.ops [⟨(some 13), .idxA 2 (.t 9) (.t 11), none⟩, ⟨(some 14), .load (some 2) (.t 13), none⟩, ⟨(some 7), .alloc 278 [(.str []), (.str [])], none⟩, ⟨none, .store 2 (.t 7) (.t 14), none⟩] [7, 1, 11, 10, 9])
    (.seq
    (.ops [⟨(some 15), .fieldA (.t 7) 0, none⟩, ⟨(some 16), .load none (.t 15), none⟩, ⟨(some 17), .mv (.t 1), none⟩, ⟨(some 18), .call (.c (.func 62 [])) [(.t 16), (.t 17)], none⟩] [18, 7, 11, 10, 9, 1])
    (.cond (.t 18)
     (.seq
     (.ops [⟨(some 19), .fieldA (.t 7) 1, none⟩, ⟨(some 20), .load none (.t 19), none⟩, ⟨(some 4), .mv (.t 20), none⟩, ⟨(some 5), .mv (.c (.bool true)), none⟩] [4, 5])
     .ret)
     .skip))))
   (.ops [⟨(some 21), .bin .add (.t 11) (.c (.int .i64 1)), none⟩, ⟨(some 11), .mv (.t 21), none⟩] [11, 10, 9, 1])))))))
 (.seq
 (.ops [⟨(some 4), .mv (.c (.str [])), none⟩, ⟨(some 5), .mv (.c (.bool false)), none⟩] [4, 5])
 .ret))),
 none⟩
theorem c193 : cFunc Tryz.prog true none [[2, 1], [11, 10, 9, 1], [11, 10, 9, 1], [12, 9, 11, 1, 10], [7, 1, 11, 10, 9], [18, 7, 11, 10, 9, 1], [4, 5], [11, 10, 9, 1], [4, 5]] Tryz.f193 = some m193 := by kernel_rfl

/-- (*letterbox/tree.parser).cuts -/
def m194 : MFunc := ⟨74, 3, [.t 6, .cell 7 (some 2), .t 8],
 (.seq
 (.ops [⟨(some 4), .box 78 (.t 1), none⟩, ⟨(some 6), .mv (.c .nilslice), none⟩, ⟨(some 7), .alloc 78 [(.int .i64 0), (.int .i64 0)], none⟩, ⟨(some 8), .mv (.c (.bool false)), none⟩] [4, 0, 2, 7])
 (.seq
 (.ops [⟨(some 9), .mv (.c .nilslice), none⟩] [4, 0, 2, 9, 7])
 (.seq
 (.ops [⟨(some 17), .fieldA (.t 4) 1, none⟩, ⟨(some 18), .load none (.t 17), none⟩, ⟨(some 19), .fieldA (.t 4) 1, none⟩, ⟨(some 20), .load none (.t 19), none⟩, ⟨(some 21), .build [(.int .i64 0), (.int .i64 0)] [(0, 1, (.t 18)), (1, 1, (.t 20))], none⟩, ⟨(some 10), .alloc 78 [(.int .i64 0), (.int .i64 0)], none⟩, ⟨none, .store 2 (.t 10) (.t 21), none⟩] [4, 0, 2, 9, 7, 10])
 (.seq
 (.ops [⟨(some 22), .fieldA (.t 4) 0, none⟩, ⟨(some 23), .load none (.t 22), none⟩, ⟨(some 11), .mv (.t 23), none⟩] [0, 4, 2, 11, 9, 7, 10])
 (.seq
 (.seq
 (.draw [⟨⟨(some 24), .mv (.t 0), none⟩, none⟩, ⟨⟨(some 25), .nilCheck (.t 24), none⟩, none⟩, ⟨⟨(some 26), .fieldA (.t 25) 0, none⟩, none⟩, ⟨⟨(some 27), .load none (.t 26), none⟩, none⟩, ⟨⟨(some 28), .load (some 2) (.t 4), none⟩, none⟩, ⟨⟨(some 29), .call (.c (.func 134 [])) [(.t 27), (.t 28)], none⟩, none⟩, ⟨⟨(some 30), .lenL (.t 29), none⟩, none⟩, ⟨⟨(some 31), .mv (.c (.int .i64 0)), none⟩, none⟩] [] [31, 30, 29, 0, 2, 11, 9, 7, 10])
 (.block 0
  (.loop [31, 30, 29, 0, 2, 11, 9, 7, 10]
   (.seq
   (.ops [⟨(some 32), .bin .lss (.t 31) (.t 30), none⟩] [32, 29, 31, 0, 2, 11, 30, 9, 7, 10])
   (.seq
   (.cond (.t 32)
    .skip
    (.exit 0))
   (.seq
   (.block 1
    (.seq
    (.ops [⟨(some 33), .idxA 3 (.t 29) (.t 31), none⟩, ⟨(some 34), .load (some 3) (.t 33), none⟩, ⟨(some 13), .alloc 196 [(.int .i64 0), (.int .i64 0), (.int .i64 0)], none⟩, ⟨none, .store 3 (.t 13) (.t 34), none⟩] [0, 13, 2, 11, 31, 30, 29, 9, 7, 10])
    (.seq
    (.draw [⟨⟨(some 36), .mv (.t 0), none⟩, none⟩, ⟨⟨(some 37), .nilCheck (.t 36), none⟩, none⟩, ⟨⟨(some 38), .fieldA (.t 37) 0, none⟩, none⟩, ⟨⟨(some 39), .load none (.t 38), none⟩, none⟩, ⟨⟨(some 40), .load (some 3) (.t 13), none⟩, none⟩, ⟨⟨(some 41), .call (.c (.func 135 [])) [(.t 39), (.t 40)], none⟩, none⟩, ⟨⟨(some 42), .mv (.t 2), none⟩, none⟩, ⟨⟨(some 43), .call (.c (.func 234 [])) [(.t 41), (.t 42)], none⟩, none⟩, ⟨⟨(some 35), .mv (.t 43), none⟩, none⟩, ⟨⟨(some 44), .extract (.t 35) 0, none⟩, none⟩, ⟨⟨(some 45), .extract (.t 35) 1, none⟩, none⟩, ⟨⟨(some 14), .mv (.t 44), none⟩, none⟩, ⟨⟨(some 15), .mv (.t 45), none⟩, none⟩] [] [11, 13, 14, 31, 30, 29, 0, 2, 9, 7, 10, 15])
    (.seq
    (.ops [⟨(some 46), .mv (.t 11), none⟩, ⟨(some 47), .fieldA (.t 13) 2, none⟩, ⟨(some 48), .load none (.t 47), none⟩, ⟨(some 49), .build [(.int .i64 0), (.int .i64 0)] [(0, 1, (.t 46)), (1, 1, (.t 48))], none⟩, ⟨(some 16), .alloc 78 [(.int .i64 0), (.int .i64 0)], none⟩, ⟨none, .store 2 (.t 16) (.t 49), none⟩] [14, 13, 31, 30, 29, 0, 2, 9, 7, 10, 15, 16])
    (.seq
    (.block 2
     (.seq
     (.ops [⟨(some 51), .mv (.t 14), none⟩, ⟨(some 52), .un .not (.t 51), none⟩, ⟨(some 50), .mv (.t 52), none⟩] [50, 13, 31, 30, 29, 0, 2, 9, 7, 10, 15, 16])
     (.cond (.t 50)
      (.seq
      (.ops [⟨(some 53), .fieldA (.t 13) 1, none⟩, ⟨(some 54), .load none (.t 53), none⟩, ⟨(some 11), .mv (.t 54), none⟩] [31, 30, 29, 0, 2, 11, 9, 7, 10])
      (.exit 1))
      (.seq
      (.ops [⟨(some 56), .mv (.t 15), none⟩, ⟨(some 55), .mv (.t 56), none⟩] [55, 9, 16, 7, 13, 31, 30, 29, 0, 2, 10])
      (.cond (.t 55)
       (.seq
       (.draw [⟨⟨(some 57), .mv (.t 9), none⟩, none⟩, ⟨⟨(some 58), .load (some 2) (.t 16), none⟩, none⟩, ⟨⟨(some 59), .mv (.t 9), none⟩, none⟩, ⟨⟨(some 60), .lenL (.t 59), none⟩, none⟩, ⟨⟨(some 61), .bin .gtr (.t 60) (.c (.int .i64 0)), none⟩, none⟩, ⟨⟨(some 6), .mv (.t 57), none⟩, none⟩, ⟨⟨none, .store 2 (.t 7) (.t 58), none⟩, (some [6])⟩, ⟨⟨(some 8), .mv (.t 61), none⟩, none⟩] [(2, [6], [6]), (3, [6], [6]), (4, [6], [6])] [6, 7, 8])
       .ret)
       .skip)))))
    (.seq
    (.ops [⟨(some 62), .mv (.t 9), none⟩, ⟨(some 63), .load (some 2) (.t 16), none⟩, ⟨(some 64), .mkSlice 2 (.agg [(.int .i64 0), (.int .i64 0)]) 1 [(0, (.t 63))], none⟩, ⟨(some 65), .append 78 2 16 (.t 62) (.t 64), none⟩, ⟨(some 9), .mv (.t 65), none⟩] [13, 31, 30, 29, 0, 2, 9, 7, 10])
    (.ops [⟨(some 66), .fieldA (.t 13) 2, none⟩, ⟨(some 67), .load none (.t 66), none⟩, ⟨(some 11), .mv (.t 67), none⟩] [31, 30, 29, 0, 2, 11, 9, 7, 10])))))))
   (.ops [⟨(some 68), .bin .add (.t 31) (.c (.int .i64 1)), none⟩, ⟨(some 31), .mv (.t 68), none⟩] [31, 30, 29, 0, 2, 11, 9, 7, 10])))))))
 (.seq
 (.draw [⟨⟨(some 69), .mv (.t 9), none⟩, none⟩, ⟨⟨(some 70), .load (some 2) (.t 10), none⟩, none⟩, ⟨⟨(some 71), .mv (.t 9), none⟩, none⟩, ⟨⟨(some 72), .lenL (.t 71), none⟩, none⟩, ⟨⟨(some 73), .bin .gtr (.t 72) (.c (.int .i64 0)), none⟩, none⟩, ⟨⟨(some 6), .mv (.t 69), none⟩, none⟩, ⟨⟨none, .store 2 (.t 7) (.t 70), none⟩, (some [6])⟩, ⟨⟨(some 8), .mv (.t 73), none⟩, none⟩] [(2, [6], [6]), (3, [6], [6]), (4, [6], [6])] [6, 7, 8])
 .ret)))))),
 none⟩
theorem c194 : cFunc Tryz.prog true none [[4, 0, 2, 7], [4, 0, 2, 9, 7], [4, 0, 2, 9, 7, 10], [0, 4, 2, 11, 9, 7, 10], [31, 30, 29, 0, 2, 11, 9, 7, 10], [], [31, 30, 29, 0, 2, 11, 9, 7, 10], [32, 29, 31, 0, 2, 11, 30, 9, 7, 10], [0, 13, 2, 11, 31, 30, 29, 9, 7, 10], [11, 13, 14, 31, 30, 29, 0, 2, 9, 7, 10, 15], [], [14, 13, 31, 30, 29, 0, 2, 9, 7, 10, 15, 16], [50, 13, 31, 30, 29, 0, 2, 9, 7, 10, 15, 16], [31, 30, 29, 0, 2, 11, 9, 7, 10], [55, 9, 16, 7, 13, 31, 30, 29, 0, 2, 10], [6, 7, 8], [], [13, 31, 30, 29, 0, 2, 9, 7, 10], [31, 30, 29, 0, 2, 11, 9, 7, 10], [31, 30, 29, 0, 2, 11, 9, 7, 10], [6, 7, 8], []] Tryz.f194 = some m194 := by kernel_rfl

/-- (*letterbox/tree.parser).kids -/
def m195 : MFunc := ⟨65, 4, [],
 (.seq
 (.ops [⟨(some 11), .mv (.t 1), none⟩, ⟨(some 12), .nilCheck (.t 11), none⟩, ⟨(some 13), .fieldA (.t 12) 6, none⟩, ⟨(some 14), .load none (.t 13), none⟩, ⟨(some 15), .lenL (.t 14), none⟩, ⟨(some 16), .mv (.c (.int .i64 0)), none⟩] [16, 15, 14, 1, 0, 2, 3])
 (.block 0
  (.loop [16, 15, 14, 1, 0, 2, 3]
   (.seq
   (.ops [⟨(some 17), .bin .lss (.t 16) (.t 15), none⟩] [17, 16, 14, 1, 0, 2, 3, 15])
   (.seq
   (.cond (.t 17)
    .skip
    (.exit 0))
   (.seq
   (.block 1
    (.seq
    (.ops [⟨(some 18), .mv (.t 16), none⟩, ⟨(some 19), .idxA 2 (.t 14) (.t 16), none⟩, ⟨(some 20), .load (some 2) (.t 19), none⟩, ⟨(some 9), .alloc 78 [(.int .i64 0), (.int .i64 0)], none⟩, ⟨(some 8), .mv (.t 18), none⟩, ⟨none, .store 2 (.t 9) (.t 20), none⟩] [1, 8, 0, 9, 2, 3, 16, 15, 14])
    (.seq
    (.ops [⟨(some 21), .mv (.t 1), none⟩, ⟨(some 22), .nilCheck (.t 21), none⟩, ⟨(some 23), .fieldA (.t 22) 7, none⟩, ⟨(some 24), .fieldA (.t 23) 0, none⟩, ⟨(some 25), .load none (.t 24), none⟩, ⟨(some 10), .mv (.t 25), none⟩] [8, 1, 0, 9, 2, 3, 16, 15, 14, 10])
    (.seq
    (.seq
    (.ops [⟨(some 26), .mv (.t 8), none⟩, ⟨(some 27), .bin .add (.t 26) (.c (.int .i64 1)), none⟩, ⟨(some 28), .mv (.t 1), none⟩, ⟨(some 29), .nilCheck (.t 28), none⟩, ⟨(some 30), .fieldA (.t 29) 6, none⟩, ⟨(some 31), .load none (.t 30), none⟩, ⟨(some 32), .lenL (.t 31), none⟩, ⟨(some 33), .bin .lss (.t 27) (.t 32), none⟩] [33, 1, 8, 0, 9, 2, 3, 16, 15, 14, 10])
    (.cond (.t 33)
     (.ops [⟨(some 34), .mv (.t 1), none⟩, ⟨(some 35), .nilCheck (.t 34), none⟩, ⟨(some 36), .fieldA (.t 35) 6, none⟩, ⟨(some 37), .load none (.t 36), none⟩, ⟨(some 38), .mv (.t 8), none⟩, ⟨(some 39), .bin .add (.t 38) (.c (.int .i64 1)), none⟩, ⟨(some 40), .idxA 2 (.t 37) (.t 39), none⟩, ⟨(some 41), .fieldA (.t 40) 0, none⟩, ⟨(some 42), .load none (.t 41), none⟩, ⟨(some 10), .mv (.t 42), none⟩] [1, 0, 9, 10, 2, 3, 16, 15, 14])
     .skip))
    (.draw [⟨⟨(some 43), .mv (.t 1), none⟩, none⟩, ⟨⟨(some 44), .nilCheck (.t 43), none⟩, none⟩, ⟨⟨(some 45), .fieldA (.t 44) 5, none⟩, none⟩, ⟨⟨(some 46), .load none (.t 45), none⟩, none⟩, ⟨⟨(some 47), .mv (.t 0), none⟩, none⟩, ⟨⟨(some 48), .fieldA (.t 9) 1, none⟩, none⟩, ⟨⟨(some 49), .load none (.t 48), none⟩, none⟩, ⟨⟨(some 50), .mv (.t 10), none⟩, none⟩, ⟨⟨(some 51), .fieldA (.t 9) 1, none⟩, none⟩, ⟨⟨(some 52), .load none (.t 51), none⟩, none⟩, ⟨⟨(some 53), .minmax true (.t 50) (.t 52), none⟩, none⟩, ⟨⟨(some 54), .build [(.int .i64 0), (.int .i64 0)] [(0, 1, (.t 49)), (1, 1, (.t 53))], none⟩, none⟩, ⟨⟨(some 55), .mv (.t 2), none⟩, none⟩, ⟨⟨(some 56), .mv (.t 3), none⟩, none⟩, ⟨⟨(some 57), .call (.c (.func 138 [])) [(.t 47), (.t 54), (.t 55), (.t 56)], none⟩, (some [14])⟩, ⟨⟨(some 58), .lenL (.t 46), none⟩, none⟩, ⟨⟨(some 59), .mkSlice 9 (.agg [(.int .i64 0), (.int .i64 0), (.int .i64 0), (.int .i64 0), (.int .i64 0), .nilslice, .nilslice, (.int .i64 0), (.int .i64 0)]) 1 [(0, (.c (.agg [(.int .i64 0), (.int .i64 0), (.int .i64 0), (.int .i64 0), (.int .i64 0), .nilslice, .nilslice, (.int .i64 0), (.int .i64 0)])))], none⟩, none⟩, ⟨⟨(some 60), .append 82 9 104 (.t 46) (.t 59), none⟩, (some [14, 17])⟩, ⟨⟨(some 61), .idxA 9 (.t 60) (.t 58), none⟩, none⟩, ⟨⟨none, .store 9 (.t 61) (.t 57), none⟩, (some [14, 17, 19])⟩, ⟨⟨(some 62), .nilCheck (.t 43), none⟩, none⟩, ⟨⟨(some 63), .fieldA (.t 62) 5, none⟩, none⟩, ⟨⟨none, .store 1 (.t 63) (.t 60), none⟩, (some [14, 17, 19, 22])⟩] [(15, [], []), (16, [], []), (0, [14], [14]), (1, [14], [14]), (2, [14], [14]), (3, [14], [14]), (20, [14, 17], [14, 17]), (21, [14, 17], [14, 17]), (22, [14, 17], [14, 17, 22]), (18, [14, 17, 22], [14, 17, 22]), (19, [14, 17, 22], [14, 17, 19, 22])] [16, 15, 14, 1, 0, 2, 3])))))
   (.ops [⟨(some 64), .bin .add (.t 16) (.c (.int .i64 1)), none⟩, ⟨(some 16), .mv (.t 64), none⟩] [16, 15, 14, 1, 0, 2, 3]))))))),
 none⟩
theorem c195 : cFunc Tryz.prog true none [[16, 15, 14, 1, 0, 2, 3], [16, 15, 14, 1, 0, 2, 3], [17, 16, 14, 1, 0, 2, 3, 15], [1, 8, 0, 9, 2, 3, 16, 15, 14], [8, 1, 0, 9, 2, 3, 16, 15, 14, 10], [33, 1, 8, 0, 9, 2, 3, 16, 15, 14, 10], [1, 0, 9, 10, 2, 3, 16, 15, 14], [16, 15, 14, 1, 0, 2, 3], [14], [16, 15, 14, 1, 0, 2, 3]] Tryz.f195 = some m195 := by kernel_rfl

/-- (*letterbox/tree.parser).none -/
def m196 : MFunc := ⟨25, 2, [.t 4],
 (.seq
 (.ops [⟨(some 4), .mv (.c (.bool false)), none⟩] [1, 0])
 (.seq
 (.ops [⟨(some 8), .mv (.t 1), none⟩, ⟨(some 9), .call (.c (.func 127 [])) [(.t 8), (.c (.str [99, 111, 110, 116, 101, 110, 116, 45, 116, 114, 97, 110, 115, 102, 101, 114, 45, 101, 110, 99, 111, 100, 105, 110, 103]))], none⟩, ⟨(some 7), .mv (.t 9), none⟩, ⟨(some 10), .extract (.t 7) 0, none⟩, ⟨(some 11), .extract (.t 7) 1, none⟩, ⟨(some 5), .alloc 131 [(.str []), (.int .i64 0), (.int .i64 0), (.int .i64 0)], none⟩, ⟨none, .store 4 (.t 5) (.t 10), none⟩, ⟨(some 6), .mv (.t 11), none⟩] [6, 0, 5])
 (.seq
 (.seq
 (.ops [⟨(some 12), .mv (.t 6), none⟩, ⟨(some 13), .un .not (.t 12), none⟩] [13, 0, 5])
 (.cond (.t 13)
  (.seq
  (.ops [⟨(some 4), .mv (.c (.bool true)), none⟩] [4])
  .ret)
  .skip))
 (.seq
 (.seq
 (.draw [⟨⟨(some 14), .mv (.t 0), none⟩, none⟩, ⟨⟨(some 15), .nilCheck (.t 14), none⟩, none⟩, ⟨⟨(some 16), .fieldA (.t 15) 0, none⟩, none⟩, ⟨⟨(some 17), .load none (.t 16), none⟩, none⟩, ⟨⟨(some 18), .load (some 4) (.t 5), none⟩, none⟩, ⟨⟨(some 19), .call (.c (.func 69 [])) [(.t 17), (.t 18)], none⟩, none⟩, ⟨⟨(some 20), .call (.c (.func 34 [])) [(.t 19)], none⟩, none⟩] [] [20])
 (.block 0
  (.seq
  (.seq
  (.ops [⟨(some 22), .bin .eql (.t 20) (.c (.str [55, 98, 105, 116])), none⟩, ⟨(some 21), .mv (.t 22), none⟩] [21, 20])
  (.cond (.t 21)
   .skip
   (.seq
   (.ops [⟨(some 23), .bin .eql (.t 20) (.c (.str [56, 98, 105, 116])), none⟩, ⟨(some 21), .mv (.t 23), none⟩] [21, 20])
   (.cond (.t 21)
    .skip
    (.ops [⟨(some 24), .bin .eql (.t 20) (.c (.str [98, 105, 110, 97, 114, 121])), none⟩, ⟨(some 21), .mv (.t 24), none⟩] [21])))))
  (.cond (.t 21)
   (.seq
   (.ops [⟨(some 4), .mv (.c (.bool true)), none⟩] [4])
   .ret)
   .skip))))
 (.seq
 (.ops [⟨(some 4), .mv (.c (.bool false)), none⟩] [4])
 .ret))))),
 none⟩
theorem c196 : cFunc Tryz.prog true none [[1, 0], [6, 0, 5], [13, 0, 5], [4], [20], [], [21, 20], [21, 20], [21], [4], [4]] Tryz.f196 = some m196 := by kernel_rfl

/-- slices.IndexFunc[[]letterbox/lines.Line,letterbox/lines.Line] -/
def m197 : MFunc := ⟨19, 2, [.t 4],
 (.seq
 (.ops [⟨(some 4), .mv (.c (.int .i64 0)), none⟩] [0, 1])
 (.seq
 (.seq
 (.ops [⟨(some 6), .mv (.t 0), none⟩, ⟨(some 7), .lenL (.t 6), none⟩, ⟨(some 8), .mv (.c (.int .i64 0)), none⟩] [8, 7, 1, 0])
 (.block 0
  (.loop [8, 7, 1, 0]
   (.seq
   (.ops [⟨(some 9), .bin .lss (.t 8) (.t 7), none⟩] [9, 8, 1, 0, 7])
   (.seq
   (.cond (.t 9)
    .skip
    (.exit 0))
   (.seq
   (.block 1
    (.seq
    (.ops [⟨(some 10), .mv (.t 8), none⟩, ⟨(some 5), .mv (.t 10), none⟩] [1, 0, 5, 8, 7])
    (.seq
    (.ops [⟨(some 11), .mv (.t 1), none⟩, ⟨(some 12), .mv (.t 0), none⟩, ⟨(some 13), .mv (.t 5), none⟩, ⟨(some 14), .idxA 3 (.t 12) (.t 13), none⟩, ⟨(some 15), .load (some 3) (.t 14), none⟩, ⟨(some 16), .call (.t 11) [(.t 15)], none⟩] [16, 5, 8, 7, 1, 0])
    (.cond (.t 16)
     (.seq
     (.ops [⟨(some 17), .mv (.t 5), none⟩, ⟨(some 4), .mv (.t 17), none⟩] [4])
     .ret)
     .skip))))
   (.ops [⟨(some 18), .bin .add (.t 8) (.c (.int .i64 1)), none⟩, ⟨(some 8), .mv (.t 18), none⟩] [8, 7, 1, 0])))))))
 (.seq
 (.ops [⟨(some 4), .mv (.c (.int .i64 (-1))), none⟩] [4])
 .ret))),
 none⟩
theorem c197 : cFunc Tryz.prog true none [[0, 1], [8, 7, 1, 0], [8, 7, 1, 0], [9, 8, 1, 0, 7], [1, 0, 5, 8, 7], [16, 5, 8, 7, 1, 0], [4], [8, 7, 1, 0], [4]] Tryz.f197 = some m197 := by kernel_rfl

/-- letterbox/lines.Empty$1 -/
def m198 : MFunc := ⟨8, 1, [.t 2],
 (.seq
 (.ops [⟨(some 1), .box 196 (.t 0), none⟩, ⟨(some 2), .mv (.c (.bool false)), none⟩] [1])
 (.seq
 (.ops [⟨(some 3), .fieldA (.t 1) 0, none⟩, ⟨(some 4), .load none (.t 3), none⟩, ⟨(some 5), .fieldA (.t 1) 1, none⟩, ⟨(some 6), .load none (.t 5), none⟩, ⟨(some 7), .bin .eql (.t 4) (.t 6), none⟩, ⟨(some 2), .mv (.t 7), none⟩] [2])
 .ret)),
 none⟩
theorem c198 : cFunc Tryz.prog true none [[1], [2]] Tryz.f198 = some m198 := by kernel_rfl

/-- strings.IndexByte -/
def m199 : MFunc := ⟨8, 2, [.t 4],
 (.seq
 (.ops [⟨(some 4), .mv (.c (.int .i64 0)), none⟩] [0, 1])
 (.seq
 (.ops [⟨(some 5), .mv (.t 0), none⟩, ⟨(some 6), .mv (.t 1), none⟩, ⟨(some 7), .call (.c (.func 188 [])) [(.t 5), (.t 6)], none⟩, ⟨(some 4), .mv (.t 7), none⟩] [4])
 .ret)),
 none⟩
theorem c199 : cFunc Tryz.prog true none [[0, 1], [4]] Tryz.f199 = some m199 := by kernel_rfl

/-- letterbox/section.within -/
def m200 : MFunc := ⟨12, 2, [.t 4],
 (.seq
 (.ops [⟨(some 4), .mv (.c (.bool false)), none⟩] [0, 1])
 (.seq
 (.ops [⟨(some 5), .mv (.t 0), none⟩, ⟨(some 6), .mv (.t 1), none⟩, ⟨(some 7), .bin .geq (.t 5) (.t 6), none⟩, ⟨(some 8), .mv (.t 7), none⟩, ⟨(some 9), .mv (.t 0), (some (8, true))⟩, ⟨(some 10), .bin .leq (.t 9) (.c (.int .i64 4294967295)), (some (8, true))⟩, ⟨(some 11), .pick (.t 8) (.t 10) (.c (.bool false)), none⟩, ⟨(some 4), .mv (.t 11), none⟩] [4])
 .ret)),
 none⟩
theorem c200 : cFunc Tryz.prog true none [[0, 1], [4]] Tryz.f200 = some m200 := by kernel_rfl

/-- letterbox/section.printed -/
def m201 : MFunc := ⟨20, 1, [.t 2],
 (.seq
 (.ops [⟨(some 2), .mv (.c (.bool false)), none⟩] [0])
 (.seq
 (.seq
 (.ops [⟨(some 4), .mv (.t 0), none⟩, ⟨(some 5), .lenS (.t 4), none⟩, ⟨(some 6), .mv (.c (.int .i64 0)), none⟩] [6, 5, 0])
 (.block 0
  (.loop [6, 5, 0]
   (.seq
   (.ops [⟨(some 7), .bin .lss (.t 6) (.t 5), none⟩] [7, 6, 0, 5])
   (.seq
   (.cond (.t 7)
    .skip
    (.exit 0))
   (.seq
   (.block 1
    (.seq
    (.ops [⟨(some 8), .mv (.t 6), none⟩, ⟨(some 3), .mv (.t 8), none⟩] [0, 3, 6, 5])
    (.seq
    (.ops [⟨(some 9), .mv (.t 0), none⟩, ⟨(some 10), .mv (.t 3), none⟩, ⟨(some 11), .idxStr (.t 9) (.t 10), none⟩, ⟨(some 12), .bin .lss (.t 11) (.c (.int .u8 32)), none⟩, ⟨(some 13), .mv (.t 12), none⟩, ⟨(some 14), .mv (.t 0), (some (13, false))⟩, ⟨(some 15), .mv (.t 3), (some (13, false))⟩, ⟨(some 16), .idxStr (.t 14) (.t 15), (some (13, false))⟩, ⟨(some 17), .bin .geq (.t 16) (.c (.int .u8 127)), (some (13, false))⟩, ⟨(some 18), .pick (.t 13) (.c (.bool true)) (.t 17), none⟩] [18, 6, 5, 0])
    (.cond (.t 18)
     (.seq
     (.ops [⟨(some 2), .mv (.c (.bool false)), none⟩] [2])
     .ret)
     .skip))))
   (.ops [⟨(some 19), .bin .add (.t 6) (.c (.int .i64 1)), none⟩, ⟨(some 6), .mv (.t 19), none⟩] [6, 5, 0])))))))
 (.seq
 (.ops [⟨(some 2), .mv (.c (.bool true)), none⟩] [2])
 .ret))),
 none⟩
theorem c201 : cFunc Tryz.prog true none [[0], [6, 5, 0], [6, 5, 0], [7, 6, 0, 5], [0, 3, 6, 5], [18, 6, 5, 0], [2], [6, 5, 0], [2]] Tryz.f201 = some m201 := by kernel_rfl

/-- (letterbox/section.Spec).listed -/
def m202 : MFunc := ⟨11, 1, [.t 2],
 (.seq
 (.ops [⟨(some 1), .box 88 (.t 0), none⟩, ⟨(some 2), .mv (.c (.bool false)), none⟩] [1])
 (.seq
 (.ops [⟨(some 3), .fieldA (.t 1) 1, none⟩, ⟨(some 4), .load none (.t 3), none⟩, ⟨(some 5), .bin .eql (.t 4) (.c (.int .i64 2)), none⟩, ⟨(some 6), .mv (.t 5), none⟩, ⟨(some 7), .fieldA (.t 1) 1, (some (6, false))⟩, ⟨(some 8), .load none (.t 7), (some (6, false))⟩, ⟨(some 9), .bin .eql (.t 8) (.c (.int .i64 3)), (some (6, false))⟩, ⟨(some 10), .pick (.t 6) (.c (.bool true)) (.t 9), none⟩, ⟨(some 2), .mv (.t 10), none⟩] [2])
 .ret)),
 none⟩
theorem c202 : cFunc Tryz.prog true none [[1], [2]] Tryz.f202 = some m202 := by kernel_rfl

/-- letterbox/header.Some -/
def m203 : MFunc := ⟨63, 4, [.t 8],
 (.seq
 (.ops [⟨(some 8), .mv (.c .nilslice), none⟩] [1, 2, 3, 0])
 (.seq
 (.ops [⟨(some 9), .mv (.c .nilslice), none⟩] [1, 2, 3, 0, 9])
 (.seq
 (.seq
 (.ops [⟨(some 13), .mv (.t 1), none⟩, ⟨(some 14), .lenL (.t 13), none⟩, ⟨(some 15), .mv (.c (.int .i64 0)), none⟩] [15, 14, 13, 2, 3, 0, 9])
 (.block 0
  (.loop [15, 14, 13, 2, 3, 0, 9]
   (.seq
   (.ops [⟨(some 16), .bin .lss (.t 15) (.t 14), none⟩] [16, 13, 15, 2, 3, 0, 14, 9])
   (.seq
   (.cond (.t 16)
    .skip
    (.exit 0))
   (.seq
   (.block 1
    (.seq
    (.ops [⟨(some 17), .idxA 4 (.t 13) (.t 15), none⟩, ⟨(some 18), .load (some 4) (.t 17), none⟩, ⟨(some 11), .alloc 131 [(.str []), (.int .i64 0), (.int .i64 0), (.int .i64 0)], none⟩, ⟨none, .store 4 (.t 11) (.t 18), none⟩] [2, 11, 3, 0, 15, 14, 13, 9])
    (.seq
    (.ops [⟨(some 19), .mv (.t 2), none⟩, ⟨(some 20), .func 235 [(.t 11)], none⟩, ⟨(some 21), .call (.c (.func 60 [])) [(.t 19), (.t 20)], none⟩, ⟨(some 12), .mv (.t 21), none⟩] [12, 3, 11, 0, 15, 14, 13, 2, 9])
    (.seq
    (.seq
    (.ops [⟨(some 22), .mv (.t 12), none⟩, ⟨(some 23), .mv (.t 3), none⟩, ⟨(some 24), .eqp false 6 (.t 22) (.t 23), none⟩, ⟨(some 25), .mv (.t 24), none⟩, ⟨(some 26), .fieldA (.t 11) 1, (some (25, false))⟩, ⟨(some 27), .load none (.t 26), (some (25, false))⟩, ⟨(some 28), .fieldA (.t 11) 3, (some (25, false))⟩, ⟨(some 29), .load none (.t 28), (some (25, false))⟩, ⟨(some 30), .build [(.int .i64 0), (.int .i64 0)] [(0, 1, (.t 27)), (1, 1, (.t 29))], (some (25, false))⟩, ⟨(some 31), .mv (.t 0), (some (25, false))⟩, ⟨(some 32), .lenL (.t 31), (some (25, false))⟩, ⟨(some 33), .call (.c (.func 185 [])) [(.t 30), (.t 32)], (some (25, false))⟩, ⟨(some 34), .un .not (.t 33), (some (25, false))⟩, ⟨(some 35), .pick (.t 25) (.c (.bool true)) (.t 34), none⟩] [35, 15, 14, 13, 2, 3, 0, 9, 11])
    (.cond (.t 35)
     (.exit 1)
     .skip))
    (.seq
    (.ops [⟨(some 36), .mv (.t 9), none⟩, ⟨(some 37), .mv (.t 0), none⟩, ⟨(some 38), .fieldA (.t 11) 1, none⟩, ⟨(some 39), .load none (.t 38), none⟩, ⟨(some 40), .fieldA (.t 11) 3, none⟩, ⟨(some 41), .load none (.t 40), none⟩, ⟨(some 42), .slice 1 (.t 37) (some (.t 39)) (some (.t 41)) none, none⟩, ⟨(some 43), .append 5 1 1 (.t 36) (.t 42), none⟩, ⟨(some 9), .mv (.t 43), none⟩] [11, 0, 9, 15, 14, 13, 2, 3])
    (.seq
    (.ops [⟨(some 44), .fieldA (.t 11) 3, none⟩, ⟨(some 45), .load none (.t 44), none⟩, ⟨(some 46), .fieldA (.t 11) 1, none⟩, ⟨(some 47), .load none (.t 46), none⟩, ⟨(some 48), .bin .eql (.t 45) (.t 47), none⟩, ⟨(some 49), .mv (.t 48), none⟩, ⟨(some 50), .mv (.t 0), (some (49, false))⟩, ⟨(some 51), .fieldA (.t 11) 3, (some (49, false))⟩, ⟨(some 52), .load none (.t 51), (some (49, false))⟩, ⟨(some 53), .bin .sub (.t 52) (.c (.int .i64 1)), (some (49, false))⟩, ⟨(some 54), .idxA 1 (.t 50) (.t 53), (some (49, false))⟩, ⟨(some 55), .load none (.t 54), (some (49, false))⟩, ⟨(some 56), .bin .neq (.t 55) (.c (.int .u8 10)), (some (49, false))⟩, ⟨(some 57), .pick (.t 49) (.c (.bool true)) (.t 56), none⟩] [57, 9, 15, 14, 13, 2, 3, 0])
    (.cond (.t 57)
     (.ops [⟨(some 58), .mv (.t 9), none⟩, ⟨(some 59), .append 5 1 1 (.t 58) (.c (.str [13, 10])), none⟩, ⟨(some 9), .mv (.t 59), none⟩] [15, 14, 13, 2, 3, 0, 9])
     .skip)))))))
   (.ops [⟨(some 60), .bin .add (.t 15) (.c (.int .i64 1)), none⟩, ⟨(some 15), .mv (.t 60), none⟩] [15, 14, 13, 2, 3, 0, 9])))))))
 (.seq
 (.ops [⟨(some 61), .mv (.t 9), none⟩, ⟨(some 62), .append 5 1 1 (.t 61) (.c (.str [13, 10])), none⟩, ⟨(some 8), .mv (.t 62), none⟩] [8])
 .ret)))),
 none⟩
theorem c203 : cFunc Tryz.prog true none [[1, 2, 3, 0], [1, 2, 3, 0, 9], [15, 14, 13, 2, 3, 0, 9], [15, 14, 13, 2, 3, 0, 9], [16, 13, 15, 2, 3, 0, 14, 9], [2, 11, 3, 0, 15, 14, 13, 9], [12, 3, 11, 0, 15, 14, 13, 2, 9], [35, 15, 14, 13, 2, 3, 0, 9, 11], [11, 0, 9, 15, 14, 13, 2, 3], [57, 9, 15, 14, 13, 2, 3, 0], [15, 14, 13, 2, 3, 0, 9], [15, 14, 13, 2, 3, 0, 9], [8]] Tryz.f203 = some m203 := by kernel_rfl

/-- letterbox/fetch.below -/
def m204 : MFunc := ⟨31, 2, [.cell 4 (some 9), .t 5],
 (.seq
 (.ops [⟨(some 2), .box 82 (.t 0), none⟩, ⟨(some 4), .alloc 82 [(.int .i64 0), (.int .i64 0), (.int .i64 0), (.int .i64 0), (.int .i64 0), .nilslice, .nilslice, (.int .i64 0), (.int .i64 0)], none⟩, ⟨(some 5), .mv (.c (.bool false)), none⟩] [2, 1, 4])
 (.seq
 (.block 0
  (.seq
  (.ops [⟨(some 7), .fieldA (.t 2) 0, none⟩, ⟨(some 8), .load none (.t 7), none⟩, ⟨(some 9), .bin .eql (.t 8) (.c (.int .i64 1)), none⟩, ⟨(some 6), .mv (.t 9), none⟩] [6, 1, 2, 4])
  (.cond (.t 6)
   (.seq
   (.seq
   (.ops [⟨(some 10), .mv (.t 1), none⟩, ⟨(some 11), .bin .lss (.t 10) (.c (.int .i64 1)), none⟩, ⟨(some 12), .mv (.t 11), none⟩, ⟨(some 13), .mv (.t 1), (some (12, false))⟩, ⟨(some 14), .fieldA (.t 2) 5, (some (12, false))⟩, ⟨(some 15), .load none (.t 14), (some (12, false))⟩, ⟨(some 16), .lenL (.t 15), (some (12, false))⟩, ⟨(some 17), .bin .gtr (.t 13) (.t 16), (some (12, false))⟩, ⟨(some 18), .pick (.t 12) (.c (.bool true)) (.t 17), none⟩] [18, 4, 2, 1])
   (.cond (.t 18)
    (.seq
    (.ops [⟨(some 19), .build [(.int .i64 0), (.int .i64 0), (.int .i64 0), (.int .i64 0), (.int .i64 0), .nilslice, .nilslice, (.int .i64 0), (.int .i64 0)] [], none⟩, ⟨none, .store 9 (.t 4) (.t 19), none⟩, ⟨(some 5), .mv (.c (.bool false)), none⟩] [4, 5])
    .ret)
    .skip))
   (.seq
   (.ops [⟨(some 20), .fieldA (.t 2) 5, none⟩, ⟨(some 21), .load none (.t 20), none⟩, ⟨(some 22), .mv (.t 1), none⟩, ⟨(some 23), .bin .sub (.t 22) (.c (.int .i64 1)), none⟩, ⟨(some 24), .idxA 9 (.t 21) (.t 23), none⟩, ⟨(some 25), .load (some 9) (.t 24), none⟩, ⟨none, .store 9 (.t 4) (.t 25), none⟩, ⟨(some 5), .mv (.c (.bool true)), none⟩] [4, 5])
   .ret))
   (.seq
   (.ops [⟨(some 27), .mv (.t 1), none⟩, ⟨(some 28), .bin .eql (.t 27) (.c (.int .i64 1)), none⟩, ⟨(some 26), .mv (.t 28), none⟩] [26, 2, 4])
   (.cond (.t 26)
    (.seq
    (.ops [⟨(some 29), .load (some 9) (.t 2), none⟩, ⟨none, .store 9 (.t 4) (.t 29), none⟩, ⟨(some 5), .mv (.c (.bool true)), none⟩] [4, 5])
    .ret)
    .skip)))))
 (.seq
 (.ops [⟨(some 30), .build [(.int .i64 0), (.int .i64 0), (.int .i64 0), (.int .i64 0), (.int .i64 0), .nilslice, .nilslice, (.int .i64 0), (.int .i64 0)] [], none⟩, ⟨none, .store 9 (.t 4) (.t 30), none⟩, ⟨(some 5), .mv (.c (.bool false)), none⟩] [4, 5])
 .ret))),
 none⟩
theorem c204 : cFunc Tryz.prog true none [[2, 1, 4], [6, 1, 2, 4], [18, 4, 2, 1], [4, 5], [4, 5], [26, 2, 4], [4, 5], [4, 5]] Tryz.f204 = some m204 := by kernel_rfl

/-- strings.TrimPrefix -/
def m210 : MFunc := ⟨8, 2, [.t 4],
 (.seq
 (.ops [⟨(some 4), .mv (.c (.str [])), none⟩] [0, 1])
 (.seq
 (.ops [⟨(some 5), .mv (.t 0), none⟩, ⟨(some 6), .mv (.t 1), none⟩, ⟨(some 7), .call (.c (.func 240 [])) [(.t 5), (.t 6)], none⟩, ⟨(some 4), .mv (.t 7), none⟩] [4])
 .ret)),
 none⟩
theorem c210 : cFunc Tryz.prog true none [[0, 1], [4]] Tryz.f210 = some m210 := by kernel_rfl

/-- strings.CutSuffix -/
def m211 : MFunc := ⟨11, 2, [.t 4, .t 5],
 (.seq
 (.ops [⟨(some 4), .mv (.c (.str [])), none⟩, ⟨(some 5), .mv (.c (.bool false)), none⟩] [0, 1])
 (.seq
 (.ops [⟨(some 6), .mv (.t 0), none⟩, ⟨(some 7), .mv (.t 1), none⟩, ⟨(some 8), .call (.c (.func 241 [])) [(.t 6), (.t 7)], none⟩, ⟨(some 9), .extract (.t 8) 0, none⟩, ⟨(some 10), .extract (.t 8) 1, none⟩, ⟨(some 4), .mv (.t 9), none⟩, ⟨(some 5), .mv (.t 10), none⟩] [4, 5])
 .ret)),
 none⟩
theorem c211 : cFunc Tryz.prog true none [[0, 1], [4, 5]] Tryz.f211 = some m211 := by kernel_rfl

/-- internal/stringslite.CutPrefix -/
def m212 : MFunc := ⟨15, 2, [.t 4, .t 5],
 (.seq
 (.ops [⟨(some 4), .mv (.c (.str [])), none⟩, ⟨(some 5), .mv (.c (.bool false)), none⟩] [0, 1])
 (.seq
 (.seq
 (.ops [⟨(some 6), .mv (.t 0), none⟩, ⟨(some 7), .mv (.t 1), none⟩, ⟨(some 8), .call (.c (.func 222 [])) [(.t 6), (.t 7)], none⟩, ⟨(some 9), .un .not (.t 8), none⟩] [9, 0, 1])
 (.cond (.t 9)
  (.seq
  (.ops [⟨(some 10), .mv (.t 0), none⟩, ⟨(some 4), .mv (.t 10), none⟩, ⟨(some 5), .mv (.c (.bool false)), none⟩] [4, 5])
  .ret)
  .skip))
 (.seq
 (.ops [⟨(some 11), .mv (.t 0), none⟩, ⟨(some 12), .mv (.t 1), none⟩, ⟨(some 13), .lenS (.t 12), none⟩, ⟨(some 14), .sliceStr (.t 11) (some (.t 13)) none, none⟩, ⟨(some 4), .mv (.t 14), none⟩, ⟨(some 5), .mv (.c (.bool true)), none⟩] [4, 5])
 .ret))),
 none⟩
theorem c212 : cFunc Tryz.prog true none [[0, 1], [9, 0, 1], [4, 5], [4, 5]] Tryz.f212 = some m212 := by kernel_rfl

/-- letterbox/wire.all -/
def m213 : MFunc := ⟨18, 2, [.t 4],
 (.seq
 (.ops [⟨(some 4), .mv (.c (.bool false)), none⟩] [0, 1])
 (.seq
 (.seq
 (.ops [⟨(some 6), .mv (.t 0), none⟩, ⟨(some 7), .lenS (.t 6), none⟩, ⟨(some 8), .mv (.c (.int .i64 0)), none⟩] [8, 7, 1, 0])
 (.block 0
  (.loop [8, 7, 1, 0]
   (.seq
   (.ops [⟨(some 9), .bin .lss (.t 8) (.t 7), none⟩] [9, 8, 1, 0, 7])
   (.seq
   (.cond (.t 9)
    .skip
    (.exit 0))
   (.seq
   (.block 1
    (.seq
    (.ops [⟨(some 10), .mv (.t 8), none⟩, ⟨(some 5), .mv (.t 10), none⟩] [1, 0, 5, 8, 7])
    (.seq
    (.ops [⟨(some 11), .mv (.t 1), none⟩, ⟨(some 12), .mv (.t 0), none⟩, ⟨(some 13), .mv (.t 5), none⟩, ⟨(some 14), .idxStr (.t 12) (.t 13), none⟩, ⟨(some 15), .call (.t 11) [(.t 14)], none⟩, ⟨(some 16), .un .not (.t 15), none⟩] [16, 8, 7, 1, 0])
    (.cond (.t 16)
     (.seq
     (.ops [⟨(some 4), .mv (.c (.bool false)), none⟩] [4])
     .ret)
     .skip))))
   (.ops [⟨(some 17), .bin .add (.t 8) (.c (.int .i64 1)), none⟩, ⟨(some 8), .mv (.t 17), none⟩] [8, 7, 1, 0])))))))
 (.seq
 (.ops [⟨(some 4), .mv (.c (.bool true)), none⟩] [4])
 .ret))),
 none⟩
theorem c213 : cFunc Tryz.prog true none [[0, 1], [8, 7, 1, 0], [8, 7, 1, 0], [9, 8, 1, 0, 7], [1, 0, 5, 8, 7], [16, 8, 7, 1, 0], [4], [8, 7, 1, 0], [4]] Tryz.f213 = some m213 := by kernel_rfl

/-- letterbox/wire.printed -/
def m214 : MFunc := ⟨9, 1, [.t 2],
 (.seq
 (.ops [⟨(some 2), .mv (.c (.bool false)), none⟩] [0])
 (.seq
 (.ops [⟨(some 3), .mv (.t 0), none⟩, ⟨(some 4), .bin .geq (.t 3) (.c (.int .u8 32)), none⟩, ⟨(some 5), .mv (.t 4), none⟩, ⟨(some 6), .mv (.t 0), (some (5, true))⟩, ⟨(some 7), .bin .lss (.t 6) (.c (.int .u8 127)), (some (5, true))⟩, ⟨(some 8), .pick (.t 5) (.t 7) (.c (.bool false)), none⟩, ⟨(some 2), .mv (.t 8), none⟩] [2])
 .ret)),
 none⟩
theorem c214 : cFunc Tryz.prog true none [[0], [2]] Tryz.f214 = some m214 := by kernel_rfl

/-- unicode/utf8.word[[]byte] -/
def m215 : MFunc := ⟨71, 1, [.t 2],
 (.seq
 (.ops [⟨(some 2), .mv (.c (.int .u64 0)), none⟩] [0])
 (.seq
 (.cond (.c (.bool false))
  (.seq
  (.draw [⟨⟨(some 3), .mv (.t 0), none⟩, none⟩, ⟨⟨(some 4), .idxA 1 (.t 3) (.c (.int .i64 0)), none⟩, none⟩, ⟨⟨(some 5), .load none (.t 4), none⟩, none⟩, ⟨⟨(some 6), .conv (.int .u64) (.t 5), none⟩, none⟩, ⟨⟨(some 7), .mv (.t 0), none⟩, none⟩, ⟨⟨(some 8), .idxA 1 (.t 7) (.c (.int .i64 1)), none⟩, none⟩, ⟨⟨(some 9), .load none (.t 8), none⟩, none⟩, ⟨⟨(some 10), .conv (.int .u64) (.t 9), none⟩, none⟩, ⟨⟨(some 11), .bin .shl (.t 10) (.c (.int .u64 8)), none⟩, none⟩, ⟨⟨(some 12), .bin .or (.t 6) (.t 11), none⟩, none⟩, ⟨⟨(some 13), .mv (.t 0), none⟩, none⟩, ⟨⟨(some 14), .idxA 1 (.t 13) (.c (.int .i64 2)), none⟩, none⟩, ⟨⟨(some 15), .load none (.t 14), none⟩, none⟩, ⟨⟨(some 16), .conv (.int .u64) (.t 15), none⟩, none⟩, ⟨⟨(some 17), .bin .shl (.t 16) (.c (.int .u64 16)), none⟩, none⟩, ⟨⟨(some 18), .bin .or (.t 12) (.t 17), none⟩, none⟩, ⟨⟨(some 19), .mv (.t 0), none⟩, none⟩, ⟨⟨(some 20), .idxA 1 (.t 19) (.c (.int .i64 3)), none⟩, none⟩, ⟨⟨(some 21), .load none (.t 20), none⟩, none⟩, ⟨⟨(some 22), .conv (.int .u64) (.t 21), none⟩, none⟩, ⟨⟨(some 23), .bin .shl (.t 22) (.c (.int .u64 24)), none⟩, none⟩, ⟨⟨(some 24), .bin .or (.t 18) (.t 23), none⟩, none⟩, ⟨⟨(some 2), .mv (.t 24), none⟩, none⟩] [] [2])
  .ret)
  .skip)
 (.seq
 (.draw [⟨⟨(some 25), .mv (.t 0), none⟩, none⟩, ⟨⟨(some 26), .idxA 1 (.t 25) (.c (.int .i64 0)), none⟩, none⟩, ⟨⟨(some 27), .load none (.t 26), none⟩, none⟩, ⟨⟨(some 28), .conv (.int .u64) (.t 27), none⟩, none⟩, ⟨⟨(some 29), .mv (.t 0), none⟩, none⟩, ⟨⟨(some 30), .idxA 1 (.t 29) (.c (.int .i64 1)), none⟩, none⟩, ⟨⟨(some 31), .load none (.t 30), none⟩, none⟩, ⟨⟨(some 32), .conv (.int .u64) (.t 31), none⟩, none⟩, ⟨⟨(some 33), .bin .shl (.t 32) (.c (.int .u64 8)), none⟩, none⟩, ⟨⟨(some 34), .bin .or (.t 28) (.t 33), none⟩, none⟩, ⟨⟨(some 35), .mv (.t 0), none⟩, none⟩, ⟨⟨(some 36), .idxA 1 (.t 35) (.c (.int .i64 2)), none⟩, none⟩, ⟨⟨(some 37), .load none (.t 36), none⟩, none⟩, ⟨⟨(some 38), .conv (.int .u64) (.t 37), none⟩, none⟩, ⟨⟨(some 39), .bin .shl (.t 38) (.c (.int .u64 16)), none⟩, none⟩, ⟨⟨(some 40), .bin .or (.t 34) (.t 39), none⟩, none⟩, ⟨⟨(some 41), .mv (.t 0), none⟩, none⟩, ⟨⟨(some 42), .idxA 1 (.t 41) (.c (.int .i64 3)), none⟩, none⟩, ⟨⟨(some 43), .load none (.t 42), none⟩, none⟩, ⟨⟨(some 44), .conv (.int .u64) (.t 43), none⟩, none⟩, ⟨⟨(some 45), .bin .shl (.t 44) (.c (.int .u64 24)), none⟩, none⟩, ⟨⟨(some 46), .bin .or (.t 40) (.t 45), none⟩, none⟩, ⟨⟨(some 47), .mv (.t 0), none⟩, none⟩, ⟨⟨(some 48), .idxA 1 (.t 47) (.c (.int .i64 4)), none⟩, none⟩, ⟨⟨(some 49), .load none (.t 48), none⟩, none⟩, ⟨⟨(some 50), .conv (.int .u64) (.t 49), none⟩, none⟩, ⟨⟨(some 51), .bin .shl (.t 50) (.c (.int .u64 32)), none⟩, none⟩, ⟨⟨(some 52), .bin .or (.t 46) (.t 51), none⟩, none⟩, ⟨⟨(some 53), .mv (.t 0), none⟩, none⟩, ⟨⟨(some 54), .idxA 1 (.t 53) (.c (.int .i64 5)), none⟩, none⟩, ⟨⟨(some 55), .load none (.t 54), none⟩, none⟩, ⟨⟨(some 56), .conv (.int .u64) (.t 55), none⟩, none⟩, ⟨⟨(some 57), .bin .shl (.t 56) (.c (.int .u64 40)), none⟩, none⟩, ⟨⟨(some 58), .bin .or (.t 52) (.t 57), none⟩, none⟩, ⟨⟨(some 59), .mv (.t 0), none⟩, none⟩, ⟨⟨(some 60), .idxA 1 (.t 59) (.c (.int .i64 6)), none⟩, none⟩, ⟨⟨(some 61), .load none (.t 60), none⟩, none⟩, ⟨⟨(some 62), .conv (.int .u64) (.t 61), none⟩, none⟩, ⟨⟨(some 63), .bin .shl (.t 62) (.c (.int .u64 48)), none⟩, none⟩, ⟨⟨(some 64), .bin .or (.t 58) (.t 63), none⟩, none⟩, ⟨⟨(some 65), .mv (.t 0), none⟩, none⟩, ⟨⟨(some 66), .idxA 1 (.t 65) (.c (.int .i64 7)), none⟩, none⟩, ⟨⟨(some 67), .load none (.t 66), none⟩, none⟩, ⟨⟨(some 68), .conv (.int .u64) (.t 67), none⟩, none⟩, ⟨⟨(some 69), .bin .shl (.t 68) (.c (.int .u64 56)), none⟩, none⟩, ⟨⟨(some 70), .bin .or (.t 64) (.t 69), none⟩, none⟩, ⟨⟨(some 2), .mv (.t 70), none⟩, none⟩] [] [2])
 .ret))),
 none⟩
theorem c215 : cFunc Tryz.prog true none [[0], [2], [], [2], []] Tryz.f215 = some m215 := by kernel_rfl

/-- (*letterbox/search.reader).text -/
def m216 : MFunc := ⟨24, 1, [.t 2],
 (.seq
 (.ops [⟨(some 2), .mv (.c (.str [])), none⟩] [0])
 (.seq
 (.ops [⟨(some 6), .mv (.t 0), none⟩, ⟨(some 7), .call (.c (.func 218 [])) [(.t 6)], none⟩, ⟨(some 3), .mv (.t 7), none⟩] [0, 3])
 (.seq
 (.ops [⟨(some 9), .mv (.t 0), none⟩, ⟨(some 10), .nilCheck (.t 9), none⟩, ⟨(some 11), .fieldA (.t 10) 1, none⟩, ⟨(some 12), .load none (.t 11), none⟩, ⟨(some 13), .mv (.t 3), none⟩, ⟨(some 14), .conv .frozen (.t 13), none⟩, ⟨(some 15), .call (.c (.func 183 [])) [(.t 12), (.t 14)], none⟩, ⟨(some 8), .mv (.t 15), none⟩, ⟨(some 16), .extract (.t 8) 0, none⟩, ⟨(some 17), .extract (.t 8) 1, none⟩, ⟨(some 4), .mv (.t 16), none⟩, ⟨(some 5), .mv (.t 17), none⟩] [5, 0, 4])
 (.seq
 (.seq
 (.ops [⟨(some 18), .mv (.t 5), none⟩, ⟨(some 19), .bin .neq (.t 18) (.c (.int .i64 0)), none⟩] [19, 0, 4])
 (.cond (.t 19)
  (.ops [⟨(some 20), .mv (.t 0), none⟩, ⟨(some 21), .call (.c (.func 21 [])) [(.t 20), (.c (.int .i64 21))], none⟩] [4])
  .skip))
 (.seq
 (.ops [⟨(some 22), .mv (.t 4), none⟩, ⟨(some 23), .call (.c (.func 34 [])) [(.t 22)], none⟩, ⟨(some 2), .mv (.t 23), none⟩] [2])
 .ret))))),
 none⟩
theorem c216 : cFunc Tryz.prog true none [[0], [0, 3], [5, 0, 4], [19, 0, 4], [4], [2]] Tryz.f216 = some m216 := by kernel_rfl

/-- (*letterbox/search.reader).word -/
def m217 : MFunc := ⟨9, 1, [.t 2],
 (.seq
 (.ops [⟨(some 2), .mv (.c (.str [])), none⟩] [0])
 (.seq
 (.ops [⟨(some 3), .mv (.t 0), none⟩, ⟨(some 4), .mkSlice 1 (.int .i64 0) 1 [(0, (.c (.int .i64 5)))], none⟩, ⟨(some 5), .call (.c (.func 53 [])) [(.t 3), (.t 4)], none⟩] [0])
 (.seq
 (.ops [⟨(some 6), .mv (.t 0), none⟩, ⟨(some 7), .mkSlice 1 (.int .i64 0) 1 [(0, (.c (.int .i64 1)))], none⟩, ⟨(some 8), .call (.c (.func 53 [])) [(.t 6), (.t 7)], none⟩, ⟨(some 2), .mv (.t 8), none⟩] [2])
 .ret))),
 none⟩
theorem c217 : cFunc Tryz.prog true none [[0], [0], [2]] Tryz.f217 = some m217 := by kernel_rfl

/-- (*letterbox/search.reader).any -/
def m218 : MFunc := ⟨9, 1, [.t 2],
 (.seq
 (.ops [⟨(some 2), .mv (.c (.str [])), none⟩] [0])
 (.seq
 (.ops [⟨(some 3), .mv (.t 0), none⟩, ⟨(some 4), .mkSlice 1 (.int .i64 0) 1 [(0, (.c (.int .i64 5)))], none⟩, ⟨(some 5), .call (.c (.func 53 [])) [(.t 3), (.t 4)], none⟩] [0])
 (.seq
 (.ops [⟨(some 6), .mv (.t 0), none⟩, ⟨(some 7), .mkSlice 1 (.int .i64 0) 2 [(0, (.c (.int .i64 1))), (1, (.c (.int .i64 2)))], none⟩, ⟨(some 8), .call (.c (.func 53 [])) [(.t 6), (.t 7)], none⟩, ⟨(some 2), .mv (.t 8), none⟩] [2])
 .ret))),
 none⟩
theorem c218 : cFunc Tryz.prog true none [[0], [0], [2]] Tryz.f218 = some m218 := by kernel_rfl

/-- letterbox/date.ParseDay -/
def m219 : MFunc := ⟨52, 1, [.t 2, .t 3],
 (.seq
 (.ops [⟨(some 2), .mv (.c (.int .i64 0)), none⟩, ⟨(some 3), .mv (.c (.bool false)), none⟩] [0])
 (.seq
 (.seq
 (.ops [⟨(some 6), .mv (.t 0), none⟩, ⟨(some 7), .lenS (.t 6), none⟩, ⟨(some 8), .bin .gtr (.t 7) (.c (.int .i64 1)), none⟩, ⟨(some 9), .mv (.t 8), none⟩, ⟨(some 10), .mv (.t 0), (some (9, true))⟩, ⟨(some 11), .idxStr (.t 10) (.c (.int .i64 0)), (some (9, true))⟩, ⟨(some 12), .bin .eql (.t 11) (.c (.int .u8 34)), (some (9, true))⟩, ⟨(some 13), .pick (.t 9) (.t 12) (.c (.bool false)), none⟩, ⟨(some 14), .mv (.t 13), none⟩, ⟨(some 15), .mv (.t 0), (some (14, true))⟩, ⟨(some 16), .mv (.t 0), (some (14, true))⟩, ⟨(some 17), .lenS (.t 16), (some (14, true))⟩, ⟨(some 18), .bin .sub (.t 17) (.c (.int .i64 1)), (some (14, true))⟩, ⟨(some 19), .idxStr (.t 15) (.t 18), (some (14, true))⟩, ⟨(some 20), .bin .eql (.t 19) (.c (.int .u8 34)), (some (14, true))⟩, ⟨(some 21), .pick (.t 14) (.t 20) (.c (.bool false)), none⟩] [21, 0])
 (.cond (.t 21)
  (.ops [⟨(some 22), .mv (.t 0), none⟩, ⟨(some 23), .mv (.t 0), none⟩, ⟨(some 24), .lenS (.t 23), none⟩, ⟨(some 25), .bin .sub (.t 24) (.c (.int .i64 1)), none⟩, ⟨(some 26), .sliceStr (.t 22) (some (.c (.int .i64 1))) (some (.t 25)), none⟩, ⟨(some 0), .mv (.t 26), none⟩] [0])
  .skip))
 (.seq
 (.ops [⟨(some 27), .mv (.t 0), none⟩, ⟨(some 28), .call (.c (.func 242 [])) [(.t 27), (.c (.str [45]))], none⟩, ⟨(some 4), .mv (.t 28), none⟩] [4])
 (.seq
 (.seq
 (.ops [⟨(some 29), .mv (.t 4), none⟩, ⟨(some 30), .lenL (.t 29), none⟩, ⟨(some 31), .bin .neq (.t 30) (.c (.int .i64 3)), none⟩] [31, 4])
 (.cond (.t 31)
  (.seq
  (.ops [⟨(some 2), .mv (.c (.int .i64 0)), none⟩, ⟨(some 3), .mv (.c (.bool false)), none⟩] [2, 3])
  .ret)
  .skip))
 (.seq
 (.ops [⟨(some 32), .mv (.t 4), none⟩, ⟨(some 33), .idxA 1 (.t 32) (.c (.int .i64 1)), none⟩, ⟨(some 34), .load none (.t 33), none⟩, ⟨(some 35), .call (.c (.func 120 [])) [(.t 34)], none⟩, ⟨(some 5), .mv (.t 35), none⟩] [5, 4])
 (.seq
 (.seq
 (.ops [⟨(some 36), .mv (.t 5), none⟩, ⟨(some 37), .bin .lss (.t 36) (.c (.int .i64 0)), none⟩] [37, 4, 5])
 (.cond (.t 37)
  (.seq
  (.ops [⟨(some 2), .mv (.c (.int .i64 0)), none⟩, ⟨(some 3), .mv (.c (.bool false)), none⟩] [2, 3])
  .ret)
  .skip))
 (.seq
 (.draw [⟨⟨(some 38), .mv (.t 4), none⟩, none⟩, ⟨⟨(some 39), .idxA 1 (.t 38) (.c (.int .i64 2)), none⟩, none⟩, ⟨⟨(some 40), .load none (.t 39), none⟩, none⟩, ⟨⟨(some 41), .mkSlice 1 (.int .i64 0) 1 [(0, (.c (.int .i64 4)))], none⟩, none⟩, ⟨⟨(some 42), .call (.c (.func 125 [])) [(.t 40), (.t 41)], none⟩, none⟩, ⟨⟨(some 43), .mv (.t 5), none⟩, none⟩, ⟨⟨(some 44), .mv (.t 4), none⟩, none⟩, ⟨⟨(some 45), .idxA 1 (.t 44) (.c (.int .i64 0)), none⟩, none⟩, ⟨⟨(some 46), .load none (.t 45), none⟩, none⟩, ⟨⟨(some 47), .mkSlice 1 (.int .i64 0) 2 [(0, (.c (.int .i64 1))), (1, (.c (.int .i64 2)))], none⟩, none⟩, ⟨⟨(some 48), .call (.c (.func 125 [])) [(.t 46), (.t 47)], none⟩, none⟩, ⟨⟨(some 49), .call (.c (.func 123 [])) [(.t 42), (.t 43), (.t 48)], none⟩, none⟩, ⟨⟨(some 50), .extract (.t 49) 0, none⟩, none⟩, ⟨⟨(some 51), .extract (.t 49) 1, none⟩, none⟩, ⟨⟨(some 2), .mv (.t 50), none⟩, none⟩, ⟨⟨(some 3), .mv (.t 51), none⟩, none⟩] [] [2, 3])
 .ret))))))),
 none⟩
theorem c219 : cFunc Tryz.prog true none [[0], [21, 0], [0], [4], [31, 4], [2, 3], [5, 4], [37, 4, 5], [2, 3], [2, 3], []] Tryz.f219 = some m219 := by kernel_rfl

/-- letterbox/date.leap -/
def m221 : MFunc := ⟨16, 1, [.t 2],
 (.seq
 (.ops [⟨(some 2), .mv (.c (.bool false)), none⟩] [0])
 (.seq
 (.ops [⟨(some 3), .mv (.t 0), none⟩, ⟨(some 4), .bin .rem (.t 3) (.c (.int .i64 4)), none⟩, ⟨(some 5), .bin .eql (.t 4) (.c (.int .i64 0)), none⟩, ⟨(some 6), .mv (.t 5), none⟩, ⟨(some 7), .mv (.t 0), (some (6, true))⟩, ⟨(some 8), .bin .rem (.t 7) (.c (.int .i64 100)), (some (6, true))⟩, ⟨(some 9), .bin .neq (.t 8) (.c (.int .i64 0)), (some (6, true))⟩, ⟨(some 10), .pick (.t 6) (.t 9) (.c (.bool false)), none⟩, ⟨(some 11), .mv (.t 10), none⟩, ⟨(some 12), .mv (.t 0), (some (11, false))⟩, ⟨(some 13), .bin .rem (.t 12) (.c (.int .i64 400)), (some (11, false))⟩, ⟨(some 14), .bin .eql (.t 13) (.c (.int .i64 0)), (some (11, false))⟩, ⟨(some 15), .pick (.t 11) (.c (.bool true)) (.t 14), none⟩, ⟨(some 2), .mv (.t 15), none⟩] [2])
 .ret)),
 none⟩
theorem c221 : cFunc Tryz.prog true none [[0], [2]] Tryz.f221 = some m221 := by kernel_rfl

/-- internal/stringslite.HasPrefix -/
def m222 : MFunc := ⟨18, 2, [.t 4],
 (.seq
 (.ops [⟨(some 4), .mv (.c (.bool false)), none⟩] [0, 1])
 (.seq
 (.ops [⟨(some 5), .mv (.t 0), none⟩, ⟨(some 6), .lenS (.t 5), none⟩, ⟨(some 7), .mv (.t 1), none⟩, ⟨(some 8), .lenS (.t 7), none⟩, ⟨(some 9), .bin .geq (.t 6) (.t 8), none⟩, ⟨(some 10), .mv (.t 9), none⟩, ⟨(some 11), .mv (.t 0), (some (10, true))⟩, ⟨(some 12), .mv (.t 1), (some (10, true))⟩, ⟨(some 13), .lenS (.t 12), (some (10, true))⟩, ⟨(some 14), .sliceStr (.t 11) none (some (.t 13)), (some (10, true))⟩, ⟨(some 15), .mv (.t 1), (some (10, true))⟩, ⟨(some 16), .bin .eql (.t 14) (.t 15), (some (10, true))⟩, ⟨(some 17), .pick (.t 10) (.t 16) (.c (.bool false)), none⟩, ⟨(some 4), .mv (.t 17), none⟩] [4])
 .ret)),
 none⟩
theorem c222 : cFunc Tryz.prog true none [[0, 1], [4]] Tryz.f222 = some m222 := by kernel_rfl

/-- strings.IndexAny -/
def m223 : MFunc := ⟨55, 2, [.t 4],
 (.seq
 (.ops [⟨(some 4), .mv (.c (.int .i64 0)), none⟩] [1, 0])
 (.seq
 (.seq
 (.ops [⟨(some 11), .mv (.t 1), none⟩, ⟨(some 12), .bin .eql (.t 11) (.c (.str [])), none⟩] [12, 1, 0])
 (.cond (.t 12)
  (.seq
  (.ops [⟨(some 4), .mv (.c (.int .i64 (-1))), none⟩] [4])
  .ret)
  .skip))
 (.seq
 (.seq
 (.ops [⟨(some 13), .mv (.t 1), none⟩, ⟨(some 14), .lenS (.t 13), none⟩, ⟨(some 15), .bin .eql (.t 14) (.c (.int .i64 1)), none⟩] [15, 1, 0])
 (.cond (.t 15)
  (.seq
  (.ops [⟨(some 16), .mv (.t 1), none⟩, ⟨(some 17), .idxStr (.t 16) (.c (.int .i64 0)), none⟩, ⟨(some 18), .conv (.int .i32) (.t 17), none⟩, ⟨(some 5), .mv (.t 18), none⟩] [5, 0])
  (.seq
  (.seq
  (.ops [⟨(some 19), .mv (.t 5), none⟩, ⟨(some 20), .bin .geq (.t 19) (.c (.int .i32 128)), none⟩] [20, 0, 5])
  (.cond (.t 20)
   (.ops [⟨(some 5), .mv (.c (.int .i32 65533)), none⟩] [0, 5])
   .skip))
  (.seq
  (.ops [⟨(some 21), .mv (.t 0), none⟩, ⟨(some 22), .mv (.t 5), none⟩, ⟨(some 23), .call (.c (.func 244 [])) [(.t 21), (.t 22)], none⟩, ⟨(some 4), .mv (.t 23), none⟩] [4])
  .ret)))
  .skip))
 (.seq
 (.seq
 (.ops [⟨(some 24), .mv (.t 0), none⟩, ⟨(some 25), .lenS (.t 24), none⟩, ⟨(some 26), .call (.c (.func 245 [])) [(.t 25)], none⟩] [26, 1, 0])
 (.cond (.t 26)
  (.seq
  (.ops [⟨(some 28), .mv (.t 1), none⟩, ⟨(some 29), .call (.c (.func 246 [])) [(.t 28)], none⟩, ⟨(some 27), .mv (.t 29), none⟩, ⟨(some 30), .extract (.t 27) 0, none⟩, ⟨(some 31), .extract (.t 27) 1, none⟩, ⟨(some 6), .alloc 288 [(.bool false), (.bool false), (.bool false), (.bool false), (.bool false), (.bool false), (.bool false), (.bool false), (.bool false), (.bool false), (.bool false), (.bool false), (.bool false), (.bool false), (.bool false), (.bool false), (.bool false), (.bool false), (.bool false), (.bool false), (.bool false), (.bool false), (.bool false), (.bool false), (.bool false), (.bool false), (.bool false), (.bool false), (.bool false), (.bool false), (.bool false), (.bool false), (.bool false), (.bool false), (.bool false), (.bool false), (.bool false), (.bool false), (.bool false), (.bool false), (.bool false), (.bool false), (.bool false), (.bool false), (.bool false), (.bool false), (.bool false), (.bool false), (.bool false), (.bool false), (.bool false), (.bool false), (.bool false), (.bool false), (.bool false), (.bool false), (.bool false), (.bool false), (.bool false), (.bool false), (.bool false), (.bool false), (.bool false), (.bool false), (.bool false), (.bool false), (.bool false), (.bool false), (.bool false), (.bool false), (.bool false), (.bool false), (.bool false), (.bool false), (.bool false), (.bool false), (.bool false), (.bool false), (.bool false), (.bool false), (.bool false), (.bool false), (.bool false), (.bool false), (.bool false), (.bool false), (.bool false), (.bool false), (.bool false), (.bool false), (.bool false), (.bool false), (.bool false), (.bool false), (.bool false), (.bool false), (.bool false), (.bool false), (.bool false), (.bool false), (.bool false), (.bool false), (.bool false), (.bool false), (.bool false), (.bool false), (.bool false), (.bool false), (.bool false), (.bool false), (.bool false), (.bool false), (.bool false), (.bool false), (.bool false), (.bool false), (.bool false), (.bool false), (.bool false), (.bool false), (.bool false), (.bool false), (.bool false), (.bool false), (.bool false), (.bool false), (.bool false), (.bool false), (.bool false), (.bool false), (.bool false), (.bool false), (.bool false), (.bool false), (.bool false), (.bool false), (.bool false), (.bool false), (.bool false), (.bool false), (.bool false), (.bool false), (.bool false), (.bool false), (.bool false), (.bool false), (.bool false), (.bool false), (.bool false), (.bool false), (.bool false), (.bool false), (.bool false), (.bool false), (.bool false), (.bool false), (.bool false), (.bool false), (.bool false), (.bool false), (.bool false), (.bool false), (.bool false), (.bool false), (.bool false), (.bool false), (.bool false), (.bool false), (.bool false), (.bool false), (.bool false), (.bool false), (.bool false), (.bool false), (.bool false), (.bool false), (.bool false), (.bool false), (.bool false), (.bool false), (.bool false), (.bool false), (.bool false), (.bool false), (.bool false), (.bool false), (.bool false), (.bool false), (.bool false), (.bool false), (.bool false), (.bool false), (.bool false), (.bool false), (.bool false), (.bool false), (.bool false), (.bool false), (.bool false), (.bool false), (.bool false), (.bool false), (.bool false), (.bool false), (.bool false), (.bool false), (.bool false), (.bool false), (.bool false), (.bool false), (.bool false), (.bool false), (.bool false), (.bool false), (.bool false), (.bool false), (.bool false), (.bool false), (.bool false), (.bool false), (.bool false), (.bool false), (.bool false), (.bool false), (.bool false), (.bool false), (.bool false), (.bool false), (.bool false), (.bool false), (.bool false), (.bool false), (.bool false), (.bool false), (.bool false), (.bool false), (.bool false), (.bool false), (.bool false), (.bool false), (.bool false), (.bool false), (.bool false), (.bool false), (.bool false), (.bool false), (.bool false), (.bool false), (.bool false), (.bool false), (.bool false), (.bool false), (.bool false), (.bool false), (.bool false), (.bool false)], none⟩, ⟨none, .store 256 (.t 6) (.t 30), none⟩, ⟨(some 7), .mv (.t 31), none⟩] [7, 0, 6, 1])
  (.seq
  (.ops [⟨(some 32), .mv (.t 7), none⟩] [32, 0, 6, 1])
  (.cond (.t 32)
   (.seq
   (.seq
   (.ops [⟨(some 8), .mv (.c (.int .i64 0)), none⟩] [8, 0, 6])
   (.block 0
    (.loop [8, 0, 6]
     (.seq
     (.seq
     (.ops [⟨(some 33), .mv (.t 8), none⟩, ⟨(some 34), .mv (.t 0), none⟩, ⟨(some 35), .lenS (.t 34), none⟩, ⟨(some 36), .bin .lss (.t 33) (.t 35), none⟩] [36, 0, 8, 6])
     (.cond (.t 36)
      .skip
      (.exit 0)))
     (.seq
     (.block 1
      (.seq
      (.ops [⟨(some 39), .mv (.t 0), none⟩, ⟨(some 40), .mv (.t 8), none⟩, ⟨(some 41), .idxStr (.t 39) (.t 40), none⟩, ⟨(some 42), .call (.c (.func 247 [])) [(.t 6), (.t 41)], none⟩] [42, 8, 0, 6])
      (.cond (.t 42)
       (.seq
       (.ops [⟨(some 43), .mv (.t 8), none⟩, ⟨(some 4), .mv (.t 43), none⟩] [4])
       .ret)
       .skip)))
     (.ops [⟨(some 37), .mv (.t 8), none⟩, ⟨(some 38), .bin .add (.t 37) (.c (.int .i64 1)), none⟩, ⟨(some 8), .mv (.t 38), none⟩] [8, 0, 6]))))))
   (.seq
   (.ops [⟨(some 4), .mv (.c (.int .i64 (-1))), none⟩] [4])
   .ret))
   .skip)))
  .skip))
 (.seq
 (.seq
 (.ops [⟨(some 44), .mv (.t 0), none⟩, ⟨(some 45), .rangeStr (.t 44), none⟩] [45, 1])
 (.block 2
  (.loop [45, 1]
   (.seq
   (.ops [⟨(some 46), .nextStr (.t 45), none⟩, ⟨(some 47), .extract (.t 46) 0, none⟩] [47, 46, 1, 45])
   (.seq
   (.cond (.t 47)
    .skip
    (.exit 2))
   (.block 3
    (.seq
    (.ops [⟨(some 48), .extract (.t 46) 1, none⟩, ⟨(some 49), .extract (.t 46) 2, none⟩, ⟨(some 9), .mv (.t 48), none⟩, ⟨(some 10), .mv (.t 49), none⟩] [1, 10, 9, 45])
    (.seq
    (.ops [⟨(some 50), .mv (.t 1), none⟩, ⟨(some 51), .mv (.t 10), none⟩, ⟨(some 52), .call (.c (.func 244 [])) [(.t 50), (.t 51)], none⟩, ⟨(some 53), .bin .geq (.t 52) (.c (.int .i64 0)), none⟩] [53, 9, 45, 1])
    (.cond (.t 53)
     (.seq
     (.ops [⟨(some 54), .mv (.t 9), none⟩, ⟨(some 4), .mv (.t 54), none⟩] [4])
     .ret)
     .skip)))))))))
 (.seq
 (.ops [⟨(some 4), .mv (.c (.int .i64 (-1))), none⟩] [4])
 .ret)))))),
 none⟩
theorem c223 : cFunc Tryz.prog true none [[1, 0], [12, 1, 0], [4], [15, 1, 0], [5, 0], [20, 0, 5], [0, 5], [4], [26, 1, 0], [7, 0, 6, 1], [32, 0, 6, 1], [8, 0, 6], [8, 0, 6], [36, 0, 8, 6], [42, 8, 0, 6], [4], [8, 0, 6], [4], [45, 1], [45, 1], [47, 46, 1, 45], [1, 10, 9, 45], [53, 9, 45, 1], [4], [4]] Tryz.f223 = some m223 := by kernel_rfl

/-- letterbox/b64.Bare -/
def m224 : MFunc := ⟨24, 1, [.t 2],
 (.seq
 (.ops [⟨(some 2), .mv (.c .nilslice), none⟩] [0])
 (.seq
 (.ops [⟨(some 3), .mv (.c .nilslice), none⟩] [0, 3])
 (.seq
 (.seq
 (.ops [⟨(some 6), .mv (.t 0), none⟩, ⟨(some 7), .lenL (.t 6), none⟩, ⟨(some 8), .mv (.c (.int .i64 0)), none⟩] [8, 7, 6, 3])
 (.block 0
  (.loop [8, 7, 6, 3]
   (.seq
   (.ops [⟨(some 9), .bin .lss (.t 8) (.t 7), none⟩] [9, 6, 8, 7, 3])
   (.seq
   (.cond (.t 9)
    .skip
    (.exit 0))
   (.seq
   (.block 1
    (.seq
    (.ops [⟨(some 10), .idxA 1 (.t 6) (.t 8), none⟩, ⟨(some 11), .load none (.t 10), none⟩, ⟨(some 5), .mv (.t 11), none⟩] [5, 8, 7, 6, 3])
    (.seq
    (.ops [⟨(some 12), .mv (.t 5), none⟩] [12, 8, 7, 6, 3, 5])
    (.block 2
     (.seq
     (.seq
     (.ops [⟨(some 18), .bin .eql (.t 12) (.c (.int .u8 32)), none⟩, ⟨(some 17), .mv (.t 18), none⟩] [17, 8, 7, 6, 3, 5, 12])
     (.cond (.t 17)
      .skip
      (.seq
      (.ops [⟨(some 19), .bin .eql (.t 12) (.c (.int .u8 9)), none⟩, ⟨(some 17), .mv (.t 19), none⟩] [17, 8, 7, 6, 3, 5, 12])
      (.cond (.t 17)
       .skip
       (.seq
       (.ops [⟨(some 20), .bin .eql (.t 12) (.c (.int .u8 13)), none⟩, ⟨(some 17), .mv (.t 20), none⟩] [17, 8, 7, 6, 3, 5, 12])
       (.cond (.t 17)
        .skip
        (.ops [⟨(some 21), .bin .eql (.t 12) (.c (.int .u8 10)), none⟩, ⟨(some 17), .mv (.t 21), none⟩] [17, 8, 7, 6, 3, 5])))))))
     (.cond (.t 17)
      .skip
      (.ops [⟨(some 13), .mv (.t 3), none⟩, ⟨(some 14), .mv (.t 5), none⟩, ⟨(some 15), .mkSlice 1 (.int .u8 0) 1 [(0, (.t 14))], none⟩, ⟨(some 16), .append 5 1 1 (.t 13) (.t 15), none⟩, ⟨(some 3), .mv (.t 16), none⟩] [8, 7, 6, 3])))))))
   (.ops [⟨(some 22), .bin .add (.t 8) (.c (.int .i64 1)), none⟩, ⟨(some 8), .mv (.t 22), none⟩] [8, 7, 6, 3])))))))
 (.seq
 (.ops [⟨(some 23), .mv (.t 3), none⟩, ⟨(some 2), .mv (.t 23), none⟩] [2])
 .ret)))),
 none⟩
theorem c224 : cFunc Tryz.prog true none [[0], [0, 3], [8, 7, 6, 3], [8, 7, 6, 3], [9, 6, 8, 7, 3], [5, 8, 7, 6, 3], [12, 8, 7, 6, 3, 5], [17, 8, 7, 6, 3, 5, 12], [17, 8, 7, 6, 3, 5, 12], [17, 8, 7, 6, 3, 5, 12], [17, 8, 7, 6, 3, 5], [8, 7, 6, 3], [8, 7, 6, 3], [2]] Tryz.f224 = some m224 := by kernel_rfl

/-- letterbox/b64.decode -/
def m225 : MFunc := ⟨66, 2, [.t 4, .t 5],
 (.seq
 (.ops [⟨(some 4), .mv (.c .nilslice), none⟩, ⟨(some 5), .mv (.c (.bool false)), none⟩] [1, 0])
 (.seq
 (.ops [⟨(some 6), .mv (.c (.int .i64 4)), none⟩] [1, 6, 0])
 (.seq
 (.block 0
  (.loop [1, 6, 0]
   (.seq
   (.seq
   (.ops [⟨(some 11), .mv (.t 1), none⟩, ⟨(some 12), .mv (.t 11), none⟩, ⟨(some 13), .mv (.t 6), (some (12, true))⟩, ⟨(some 14), .bin .gtr (.t 13) (.c (.int .i64 2)), (some (12, true))⟩, ⟨(some 15), .pick (.t 12) (.t 14) (.c (.bool false)), none⟩, ⟨(some 16), .mv (.t 15), none⟩, ⟨(some 17), .mv (.t 0), (some (16, true))⟩, ⟨(some 18), .mv (.t 6), (some (16, true))⟩, ⟨(some 19), .bin .sub (.t 18) (.c (.int .i64 1)), (some (16, true))⟩, ⟨(some 20), .idxA 1 (.t 17) (.t 19), (some (16, true))⟩, ⟨(some 21), .load none (.t 20), (some (16, true))⟩, ⟨(some 22), .bin .eql (.t 21) (.c (.int .u8 61)), (some (16, true))⟩, ⟨(some 23), .pick (.t 16) (.t 22) (.c (.bool false)), none⟩] [23, 6, 1, 0])
   (.cond (.t 23)
    .skip
    (.exit 0)))
   (.block 1
    (.ops [⟨(some 24), .mv (.t 6), none⟩, ⟨(some 25), .bin .sub (.t 24) (.c (.int .i64 1)), none⟩, ⟨(some 6), .mv (.t 25), none⟩] [1, 6, 0])))))
 (.seq
 (.ops [⟨(some 7), .mv (.c (.int .i64 0)), none⟩] [7, 6, 0])
 (.seq
 (.seq
 (.ops [⟨(some 26), .mv (.c (.int .i64 0)), none⟩] [26, 7, 6, 0])
 (.block 2
  (.loop [26, 7, 6, 0]
   (.seq
   (.ops [⟨(some 27), .bin .lss (.t 26) (.c (.int .i64 4)), none⟩] [27, 26, 7, 6, 0])
   (.seq
   (.cond (.t 27)
    .skip
    (.exit 2))
   (.seq
   (.block 3
    (.seq
    (.ops [⟨(some 28), .mv (.t 26), none⟩, ⟨(some 8), .mv (.t 28), none⟩] [7, 8, 6, 26, 0])
    (.seq
    (.ops [⟨(some 29), .mv (.t 7), none⟩, ⟨(some 30), .bin .shl (.t 29) (.c (.int .u64 6)), none⟩, ⟨(some 7), .mv (.t 30), none⟩] [8, 6, 26, 7, 0])
    (.seq
    (.seq
    (.ops [⟨(some 31), .mv (.t 8), none⟩, ⟨(some 32), .mv (.t 6), none⟩, ⟨(some 33), .bin .geq (.t 31) (.t 32), none⟩] [33, 26, 7, 6, 0, 8])
    (.cond (.t 33)
     (.exit 3)
     .skip))
    (.seq
    (.ops [⟨(some 34), .mv (.t 0), none⟩, ⟨(some 35), .mv (.t 8), none⟩, ⟨(some 36), .idxA 1 (.t 34) (.t 35), none⟩, ⟨(some 37), .load none (.t 36), none⟩, ⟨(some 38), .call (.c (.func 248 [])) [(.t 37)], none⟩, ⟨(some 9), .mv (.t 38), none⟩] [9, 7, 26, 6, 0])
    (.seq
    (.seq
    (.ops [⟨(some 39), .mv (.t 9), none⟩, ⟨(some 40), .bin .lss (.t 39) (.c (.int .i64 0)), none⟩] [40, 7, 9, 26, 6, 0])
    (.cond (.t 40)
     (.seq
     (.ops [⟨(some 4), .mv (.c .nilslice), none⟩, ⟨(some 5), .mv (.c (.bool false)), none⟩] [4, 5])
     .ret)
     .skip))
    (.ops [⟨(some 41), .mv (.t 7), none⟩, ⟨(some 42), .mv (.t 9), none⟩, ⟨(some 43), .bin .or (.t 41) (.t 42), none⟩, ⟨(some 7), .mv (.t 43), none⟩] [26, 7, 6, 0])))))))
   (.ops [⟨(some 44), .bin .add (.t 26) (.c (.int .i64 1)), none⟩, ⟨(some 26), .mv (.t 44), none⟩] [26, 7, 6, 0])))))))
 (.seq
 (.ops [⟨(some 45), .mv (.t 7), none⟩, ⟨(some 46), .bin .shr (.t 45) (.c (.int .u64 16)), none⟩, ⟨(some 47), .conv (.int .u8) (.t 46), none⟩, ⟨(some 48), .mv (.t 7), none⟩, ⟨(some 49), .bin .shr (.t 48) (.c (.int .u64 8)), none⟩, ⟨(some 50), .conv (.int .u8) (.t 49), none⟩, ⟨(some 51), .mv (.t 7), none⟩, ⟨(some 52), .conv (.int .u8) (.t 51), none⟩, ⟨(some 53), .mkSlice 1 (.int .u8 0) 3 [(0, (.t 47)), (1, (.t 50)), (2, (.t 52))], none⟩, ⟨(some 10), .mv (.t 53), none⟩] [7, 6, 10])
 (.seq
 (.seq
 (.ops [⟨(some 54), .mv (.t 7), none⟩, ⟨(some 55), .mv (.t 6), none⟩, ⟨(some 56), .bin .sub (.c (.int .i64 4)) (.t 55), none⟩, ⟨(some 57), .bin .mul (.c (.int .i64 8)) (.t 56), none⟩, ⟨(some 58), .bin .shl (.c (.int .i64 1)) (.t 57), none⟩, ⟨(some 59), .bin .sub (.t 58) (.c (.int .i64 1)), none⟩, ⟨(some 60), .bin .and (.t 54) (.t 59), none⟩, ⟨(some 61), .bin .neq (.t 60) (.c (.int .i64 0)), none⟩] [61, 10, 6])
 (.cond (.t 61)
  (.seq
  (.ops [⟨(some 4), .mv (.c .nilslice), none⟩, ⟨(some 5), .mv (.c (.bool false)), none⟩] [4, 5])
  .ret)
  .skip))
 (.seq
 (.ops [⟨(some 62), .mv (.t 10), none⟩, ⟨(some 63), .mv (.t 6), none⟩, ⟨(some 64), .bin .sub (.t 63) (.c (.int .i64 1)), none⟩, ⟨(some 65), .slice 1 (.t 62) none (some (.t 64)) none, none⟩, ⟨(some 4), .mv (.t 65), none⟩, ⟨(some 5), .mv (.c (.bool true)), none⟩] [4, 5])
 .ret)))))))),
 none⟩
theorem c225 : cFunc Tryz.prog true none [[1, 0], [1, 6, 0], [1, 6, 0], [23, 6, 1, 0], [1, 6, 0], [7, 6, 0], [26, 7, 6, 0], [26, 7, 6, 0], [27, 26, 7, 6, 0], [7, 8, 6, 26, 0], [8, 6, 26, 7, 0], [33, 26, 7, 6, 0, 8], [9, 7, 26, 6, 0], [40, 7, 9, 26, 6, 0], [4, 5], [26, 7, 6, 0], [26, 7, 6, 0], [7, 6, 10], [61, 10, 6], [4, 5], [4, 5]] Tryz.f225 = some m225 := by kernel_rfl

/-- letterbox/words.hex -/
def m226 : MFunc := ⟨25, 1, [.t 2, .t 3],
 (.seq
 (.ops [⟨(some 2), .mv (.c (.int .u8 0)), none⟩, ⟨(some 3), .mv (.c (.bool false)), none⟩] [0])
 (.seq
 (.seq
 (.ops [⟨(some 4), .mv (.t 0), none⟩, ⟨(some 5), .call (.c (.func 71 [])) [(.t 4)], none⟩, ⟨(some 0), .mv (.t 5), none⟩] [0])
 (.block 0
  (.seq
  (.ops [⟨(some 7), .mv (.t 0), none⟩, ⟨(some 8), .bin .geq (.t 7) (.c (.int .u8 48)), none⟩, ⟨(some 9), .mv (.t 8), none⟩, ⟨(some 10), .mv (.t 0), (some (9, true))⟩, ⟨(some 11), .bin .leq (.t 10) (.c (.int .u8 57)), (some (9, true))⟩, ⟨(some 12), .pick (.t 9) (.t 11) (.c (.bool false)), none⟩, ⟨(some 6), .mv (.t 12), none⟩] [6, 0])
  (.cond (.t 6)
   (.seq
   (.ops [⟨(some 13), .mv (.t 0), none⟩, ⟨(some 14), .bin .sub (.t 13) (.c (.int .u8 48)), none⟩, ⟨(some 2), .mv (.t 14), none⟩, ⟨(some 3), .mv (.c (.bool true)), none⟩] [2, 3])
   .ret)
   (.seq
   (.ops [⟨(some 16), .mv (.t 0), none⟩, ⟨(some 17), .bin .geq (.t 16) (.c (.int .u8 97)), none⟩, ⟨(some 18), .mv (.t 17), none⟩, ⟨(some 19), .mv (.t 0), (some (18, true))⟩, ⟨(some 20), .bin .leq (.t 19) (.c (.int .u8 102)), (some (18, true))⟩, ⟨(some 21), .pick (.t 18) (.t 20) (.c (.bool false)), none⟩, ⟨(some 15), .mv (.t 21), none⟩] [15, 0])
   (.cond (.t 15)
    (.seq
    (.ops [⟨(some 22), .mv (.t 0), none⟩, ⟨(some 23), .bin .sub (.t 22) (.c (.int .u8 97)), none⟩, ⟨(some 24), .bin .add (.t 23) (.c (.int .u8 10)), none⟩, ⟨(some 2), .mv (.t 24), none⟩, ⟨(some 3), .mv (.c (.bool true)), none⟩] [2, 3])
    .ret)
    .skip))))))
 (.seq
 (.ops [⟨(some 2), .mv (.c (.int .u8 0)), none⟩, ⟨(some 3), .mv (.c (.bool false)), none⟩] [2, 3])
 .ret))),
 none⟩
theorem c226 : cFunc Tryz.prog true none [[0], [0], [6, 0], [2, 3], [15, 0], [2, 3], [2, 3]] Tryz.f226 = some m226 := by kernel_rfl

/-- letterbox/params.Parse -/
def m233 : MFunc := ⟨86, 2, [.cell 4 (some 3), .t 5],
 (.seq
 (.ops [⟨(some 4), .alloc 243 [(.str []), (.str []), .nilslice], none⟩, ⟨(some 5), .mv (.c (.bool false)), none⟩] [0, 4, 1])
 (.seq
 (.ops [⟨(some 17), .mv (.t 0), none⟩, ⟨(some 18), .build [(.str [])] [(0, 1, (.t 17))], none⟩, ⟨(some 19), .box 293 (.t 18), none⟩, ⟨(some 20), .build [.nilptr] [(0, 1, (.t 19))], none⟩, ⟨(some 6), .alloc 295 [.nilptr], none⟩, ⟨none, .store 1 (.t 6) (.t 20), none⟩] [6, 4, 1])
 (.seq
 (.ops [⟨(some 21), .load (some 1) (.t 6), none⟩, ⟨(some 22), .call (.c (.func 249 [])) [(.t 21)], none⟩] [6, 4, 1])
 (.seq
 (.ops [⟨(some 23), .load (some 1) (.t 6), none⟩, ⟨(some 24), .call (.c (.func 250 [])) [(.t 23)], none⟩, ⟨(some 25), .call (.c (.func 34 [])) [(.t 24)], none⟩, ⟨(some 26), .build [(.str []), (.str []), .nilslice] [(0, 1, (.t 25))], none⟩, ⟨(some 7), .alloc 243 [(.str []), (.str []), .nilslice], none⟩, ⟨none, .store 3 (.t 7) (.t 26), none⟩] [7, 4, 1, 6])
 (.seq
 (.seq
 (.ops [⟨(some 27), .fieldA (.t 7) 0, none⟩, ⟨(some 28), .load none (.t 27), none⟩, ⟨(some 29), .bin .eql (.t 28) (.c (.str [])), none⟩] [29, 4, 1, 6, 7])
 (.cond (.t 29)
  (.seq
  (.ops [⟨(some 30), .build [(.str []), (.str []), .nilslice] [], none⟩, ⟨none, .store 3 (.t 4) (.t 30), none⟩, ⟨(some 5), .mv (.c (.bool false)), none⟩] [4, 5])
  .ret)
  .skip))
 (.seq
 (.seq
 (.ops [⟨(some 31), .mv (.t 1), none⟩] [31, 6, 4, 7])
 (.cond (.t 31)
  (.seq
  (.seq
  (.ops [⟨(some 32), .load (some 1) (.t 6), none⟩, ⟨(some 33), .call (.c (.func 251 [])) [(.t 32), (.c (.int .u8 47))], none⟩, ⟨(some 34), .un .not (.t 33), none⟩] [34, 4, 6, 7])
  (.cond (.t 34)
   (.seq
   (.ops [⟨(some 35), .build [(.str []), (.str []), .nilslice] [], none⟩, ⟨none, .store 3 (.t 4) (.t 35), none⟩, ⟨(some 5), .mv (.c (.bool false)), none⟩] [4, 5])
   .ret)
   .skip))
  (.seq
  (.ops [⟨(some 36), .load (some 1) (.t 6), none⟩, ⟨(some 37), .call (.c (.func 250 [])) [(.t 36)], none⟩, ⟨(some 38), .call (.c (.func 34 [])) [(.t 37)], none⟩, ⟨(some 39), .fieldA (.t 7) 1, none⟩, ⟨none, .store 1 (.t 39) (.t 38), none⟩] [7, 4, 6])
  (.seq
  (.ops [⟨(some 40), .fieldA (.t 7) 1, none⟩, ⟨(some 41), .load none (.t 40), none⟩, ⟨(some 42), .bin .eql (.t 41) (.c (.str [])), none⟩] [42, 4, 6, 7])
  (.cond (.t 42)
   (.seq
   (.ops [⟨(some 43), .build [(.str []), (.str []), .nilslice] [], none⟩, ⟨none, .store 3 (.t 4) (.t 43), none⟩, ⟨(some 5), .mv (.c (.bool false)), none⟩] [4, 5])
   .ret)
   .skip))))
  .skip))
 (.seq
 (.ops [⟨(some 44), .load (some 1) (.t 6), none⟩, ⟨(some 45), .call (.c (.func 252 [])) [(.t 44)], none⟩, ⟨(some 8), .mv (.t 45), none⟩] [8, 7, 4])
 (.seq
 (.ops [⟨(some 46), .makeMap none, none⟩, ⟨(some 9), .mv (.t 46), none⟩] [8, 9, 7, 4])
 (.seq
 (.seq
 (.ops [⟨(some 47), .mv (.t 8), none⟩, ⟨(some 48), .lenL (.t 47), none⟩, ⟨(some 49), .mv (.c (.int .i64 0)), none⟩] [49, 48, 47, 9, 8, 7, 4])
 (.block 0
  (.loop [49, 48, 47, 9, 8, 7, 4]
   (.seq
   (.ops [⟨(some 50), .bin .lss (.t 49) (.t 48), none⟩] [50, 47, 49, 9, 48, 8, 7, 4])
   (.seq
   (.cond (.t 50)
    .skip
    (.exit 0))
   (.seq
   (.block 1
    (.seq
    (.ops [⟨(some 51), .idxA 2 (.t 47) (.t 49), none⟩, ⟨(some 52), .load (some 2) (.t 51), none⟩, ⟨(some 11), .alloc 278 [(.str []), (.str [])], none⟩, ⟨none, .store 2 (.t 11) (.t 52), none⟩] [11, 9, 49, 48, 47, 8, 7, 4])
    (.seq
    (.ops [⟨(some 54), .fieldA (.t 11) 0, none⟩, ⟨(some 55), .load none (.t 54), none⟩, ⟨(some 56), .call (.c (.func 112 [])) [(.t 55), (.c (.str [42]))], none⟩, ⟨(some 53), .mv (.t 56), none⟩, ⟨(some 57), .extract (.t 53) 0, none⟩, ⟨(some 58), .extract (.t 53) 1, none⟩, ⟨(some 59), .extract (.t 53) 2, none⟩, ⟨(some 12), .mv (.t 57), none⟩, ⟨(some 13), .mv (.t 58), none⟩, ⟨(some 14), .mv (.t 59), none⟩] [12, 9, 49, 48, 47, 8, 7, 4])
    (.seq
    (.seq
    (.ops [⟨(some 60), .mv (.t 12), none⟩, ⟨(some 61), .bin .eql (.t 60) (.c (.str [])), none⟩, ⟨(some 62), .mv (.t 61), none⟩, ⟨(some 63), .mv (.t 9), (some (62, false))⟩, ⟨(some 64), .mv (.t 12), (some (62, false))⟩, ⟨(some 65), .lookup none (.bool false) false (.t 63) (.t 64), (some (62, false))⟩, ⟨(some 66), .pick (.t 62) (.c (.bool true)) (.t 65), none⟩] [66, 49, 48, 47, 9, 8, 7, 4, 12])
    (.cond (.t 66)
     (.exit 1)
     .skip))
    (.seq
    (.ops [⟨(some 67), .mv (.t 9), none⟩, ⟨(some 68), .mv (.t 12), none⟩, ⟨none, .insert none (.t 67) (.t 68) (.c (.bool true)), none⟩] [8, 12, 7, 49, 48, 47, 9, 4])
    (.seq
    (.ops [⟨(some 70), .mv (.t 8), none⟩, ⟨(some 71), .mv (.t 12), none⟩, ⟨(some 72), .call (.c (.func 253 [])) [(.t 70), (.t 71)], none⟩, ⟨(some 69), .mv (.t 72), none⟩, ⟨(some 73), .extract (.t 69) 0, none⟩, ⟨(some 74), .extract (.t 69) 1, none⟩, ⟨(some 15), .mv (.t 73), none⟩, ⟨(some 16), .mv (.t 74), none⟩] [16, 7, 12, 15, 49, 48, 47, 9, 8, 4])
    (.seq
    (.ops [⟨(some 75), .mv (.t 16), none⟩] [75, 7, 12, 15, 49, 48, 47, 9, 8, 4])
    (.cond (.t 75)
     (.ops [⟨(some 76), .fieldA (.t 7) 2, none⟩, ⟨(some 77), .load none (.t 76), none⟩, ⟨(some 78), .mv (.t 12), none⟩, ⟨(some 79), .mv (.t 15), none⟩, ⟨(some 80), .build [(.str []), (.str [])] [(0, 1, (.t 78)), (1, 1, (.t 79))], none⟩, ⟨(some 81), .mkSlice 2 (.agg [(.str []), (.str [])]) 1 [(0, (.t 80))], none⟩, ⟨(some 82), .append 278 2 32 (.t 77) (.t 81), none⟩, ⟨(some 83), .fieldA (.t 7) 2, none⟩, ⟨none, .store 1 (.t 83) (.t 82), none⟩] [49, 48, 47, 9, 8, 7, 4])
     .skip))))))))
   (.ops [⟨(some 84), .bin .add (.t 49) (.c (.int .i64 1)), none⟩, ⟨(some 49), .mv (.t 84), none⟩] [49, 48, 47, 9, 8, 7, 4])))))))
 (.seq
 (.ops [⟨(some 85), .load (some 3) (.t 7), none⟩, ⟨none, .store 3 (.t 4) (.t 85), none⟩, ⟨(some 5), .mv (.c (.bool true)), none⟩] [4, 5])
 .ret)))))))))),
 none⟩
theorem c233 : cFunc Tryz.prog true none [[0, 4, 1], [6, 4, 1], [6, 4, 1], [7, 4, 1, 6], [29, 4, 1, 6, 7], [4, 5], [31, 6, 4, 7], [34, 4, 6, 7], [4, 5], [7, 4, 6], [42, 4, 6, 7], [4, 5], [8, 7, 4], [8, 9, 7, 4], [49, 48, 47, 9, 8, 7, 4], [49, 48, 47, 9, 8, 7, 4], [50, 47, 49, 9, 48, 8, 7, 4], [11, 9, 49, 48, 47, 8, 7, 4], [12, 9, 49, 48, 47, 8, 7, 4], [66, 49, 48, 47, 9, 8, 7, 4, 12], [8, 12, 7, 49, 48, 47, 9, 4], [16, 7, 12, 15, 49, 48, 47, 9, 8, 4], [75, 7, 12, 15, 49, 48, 47, 9, 8, 4], [49, 48, 47, 9, 8, 7, 4], [49, 48, 47, 9, 8, 7, 4], [4, 5]] Tryz.f233 = some m233 := by kernel_rfl

/-- letterbox/tree.delimiter -/
def m234 : MFunc := ⟨46, 2, [.t 4, .t 5],
 (.seq
 (.ops [⟨(some 4), .mv (.c (.bool false)), none⟩, ⟨(some 5), .mv (.c (.bool false)), none⟩] [1, 0])
 (.seq
 (.ops [⟨(some 9), .mv (.t 1), none⟩, ⟨(some 10), .lenS (.t 9), none⟩, ⟨(some 11), .bin .add (.c (.int .i64 2)) (.t 10), none⟩, ⟨(some 6), .mv (.t 11), none⟩] [0, 6, 1])
 (.seq
 (.seq
 (.ops [⟨(some 12), .mv (.t 0), none⟩, ⟨(some 13), .lenS (.t 12), none⟩, ⟨(some 14), .mv (.t 6), none⟩, ⟨(some 15), .bin .lss (.t 13) (.t 14), none⟩, ⟨(some 16), .mv (.t 15), none⟩, ⟨(some 17), .mv (.t 0), (some (16, false))⟩, ⟨(some 18), .mv (.t 6), (some (16, false))⟩, ⟨(some 19), .sliceStr (.t 17) none (some (.t 18)), (some (16, false))⟩, ⟨(some 20), .mv (.t 1), (some (16, false))⟩, ⟨(some 21), .bin .add (.c (.str [45, 45])) (.t 20), (some (16, false))⟩, ⟨(some 22), .bin .neq (.t 19) (.t 21), (some (16, false))⟩, ⟨(some 23), .pick (.t 16) (.c (.bool true)) (.t 22), none⟩] [23, 0, 6])
 (.cond (.t 23)
  (.seq
  (.ops [⟨(some 4), .mv (.c (.bool false)), none⟩, ⟨(some 5), .mv (.c (.bool false)), none⟩] [4, 5])
  .ret)
  .skip))
 (.seq
 (.ops [⟨(some 24), .mv (.t 0), none⟩, ⟨(some 25), .mv (.t 6), none⟩, ⟨(some 26), .sliceStr (.t 24) (some (.t 25)) none, none⟩, ⟨(some 7), .mv (.t 26), none⟩] [7])
 (.seq
 (.ops [⟨(some 8), .mv (.c (.func 254 [])), none⟩] [8, 7])
 (.seq
 (.block 0
  (.seq
  (.ops [⟨(some 28), .mv (.t 8), none⟩, ⟨(some 29), .mv (.t 7), none⟩, ⟨(some 30), .call (.t 28) [(.t 29)], none⟩, ⟨(some 27), .mv (.t 30), none⟩] [27, 7, 8])
  (.cond (.t 27)
   (.seq
   (.ops [⟨(some 4), .mv (.c (.bool true)), none⟩, ⟨(some 5), .mv (.c (.bool false)), none⟩] [4, 5])
   .ret)
   (.seq
   (.ops [⟨(some 32), .mv (.t 7), none⟩, ⟨(some 33), .lenS (.t 32), none⟩, ⟨(some 34), .bin .geq (.t 33) (.c (.int .i64 2)), none⟩, ⟨(some 35), .mv (.t 34), none⟩, ⟨(some 36), .mv (.t 7), (some (35, true))⟩, ⟨(some 37), .sliceStr (.t 36) none (some (.c (.int .i64 2))), (some (35, true))⟩, ⟨(some 38), .bin .eql (.t 37) (.c (.str [45, 45])), (some (35, true))⟩, ⟨(some 39), .pick (.t 35) (.t 38) (.c (.bool false)), none⟩, ⟨(some 40), .mv (.t 39), none⟩, ⟨(some 41), .mv (.t 8), (some (40, true))⟩, ⟨(some 42), .mv (.t 7), (some (40, true))⟩, ⟨(some 43), .sliceStr (.t 42) (some (.c (.int .i64 2))) none, (some (40, true))⟩, ⟨(some 44), .call (.t 41) [(.t 43)], (some (40, true))⟩, ⟨(some 45), .pick (.t 40) (.t 44) (.c (.bool false)), none⟩, ⟨(some 31), .mv (.t 45), none⟩] [31])
   (.cond (.t 31)
    (.seq
    (.ops [⟨(some 4), .mv (.c (.bool true)), none⟩, ⟨(some 5), .mv (.c (.bool true)), none⟩] [4, 5])
    .ret)
    .skip)))))
 (.seq
 (.ops [⟨(some 4), .mv (.c (.bool false)), none⟩, ⟨(some 5), .mv (.c (.bool false)), none⟩] [4, 5])
 .ret))))))),
 none⟩
theorem c234 : cFunc Tryz.prog true none [[1, 0], [0, 6, 1], [23, 0, 6], [4, 5], [7], [8, 7], [27, 7, 8], [4, 5], [31], [4, 5], [4, 5]] Tryz.f234 = some m234 := by kernel_rfl

/-- letterbox/header.Some$1 -/
def m235 : MFunc := ⟨8, 2, [.t 3],
 (.seq
 (.ops [⟨(some 3), .mv (.c (.bool false)), none⟩] [1, 0])
 (.seq
 (.ops [⟨(some 4), .fieldA (.t 1) 0, none⟩, ⟨(some 5), .load none (.t 4), none⟩, ⟨(some 6), .mv (.t 0), none⟩, ⟨(some 7), .call (.c (.func 62 [])) [(.t 5), (.t 6)], none⟩, ⟨(some 3), .mv (.t 7), none⟩] [3])
 .ret)),
 none⟩
theorem c235 : cFunc Tryz.prog true none [[1, 0], [3]] Tryz.f235 = some m235 := by kernel_rfl

/-- internal/stringslite.TrimPrefix -/
def m240 : MFunc := ⟨13, 2, [.t 4],
 (.seq
 (.ops [⟨(some 4), .mv (.c (.str [])), none⟩] [0, 1])
 (.seq
 (.seq
 (.ops [⟨(some 5), .mv (.t 0), none⟩, ⟨(some 6), .mv (.t 1), none⟩, ⟨(some 7), .call (.c (.func 222 [])) [(.t 5), (.t 6)], none⟩] [7, 0, 1])
 (.cond (.t 7)
  (.seq
  (.ops [⟨(some 8), .mv (.t 0), none⟩, ⟨(some 9), .mv (.t 1), none⟩, ⟨(some 10), .lenS (.t 9), none⟩, ⟨(some 11), .sliceStr (.t 8) (some (.t 10)) none, none⟩, ⟨(some 4), .mv (.t 11), none⟩] [4])
  .ret)
  .skip))
 (.seq
 (.ops [⟨(some 12), .mv (.t 0), none⟩, ⟨(some 4), .mv (.t 12), none⟩] [4])
 .ret))),
 none⟩
theorem c240 : cFunc Tryz.prog true none [[0, 1], [7, 0, 1], [4], [4]] Tryz.f240 = some m240 := by kernel_rfl

/-- internal/stringslite.CutSuffix -/
def m241 : MFunc := ⟨18, 2, [.t 4, .t 5],
 (.seq
 (.ops [⟨(some 4), .mv (.c (.str [])), none⟩, ⟨(some 5), .mv (.c (.bool false)), none⟩] [0, 1])
 (.seq
 (.seq
 (.ops [⟨(some 6), .mv (.t 0), none⟩, ⟨(some 7), .mv (.t 1), none⟩, ⟨(some 8), .call (.c (.func 256 [])) [(.t 6), (.t 7)], none⟩, ⟨(some 9), .un .not (.t 8), none⟩] [9, 0, 1])
 (.cond (.t 9)
  (.seq
  (.ops [⟨(some 10), .mv (.t 0), none⟩, ⟨(some 4), .mv (.t 10), none⟩, ⟨(some 5), .mv (.c (.bool false)), none⟩] [4, 5])
  .ret)
  .skip))
 (.seq
 (.ops [⟨(some 11), .mv (.t 0), none⟩, ⟨(some 12), .mv (.t 0), none⟩, ⟨(some 13), .lenS (.t 12), none⟩, ⟨(some 14), .mv (.t 1), none⟩, ⟨(some 15), .lenS (.t 14), none⟩, ⟨(some 16), .bin .sub (.t 13) (.t 15), none⟩, ⟨(some 17), .sliceStr (.t 11) none (some (.t 16)), none⟩, ⟨(some 4), .mv (.t 17), none⟩, ⟨(some 5), .mv (.c (.bool true)), none⟩] [4, 5])
 .ret))),
 none⟩
theorem c241 : cFunc Tryz.prog true none [[0, 1], [9, 0, 1], [4, 5], [4, 5]] Tryz.f241 = some m241 := by kernel_rfl

/-- strings.Split -/
def m242 : MFunc := ⟨8, 2, [.t 4],
 (.seq
 (.ops [⟨(some 4), .mv (.c .nilslice), none⟩] [0, 1])
 (.seq
 (.ops [⟨(some 5), .mv (.t 0), none⟩, ⟨(some 6), .mv (.t 1), none⟩, ⟨(some 7), .call (.c (.func 257 [])) [(.t 5), (.t 6), (.c (.int .i64 0)), (.c (.int .i64 (-1)))], none⟩, ⟨(some 4), .mv (.t 7), none⟩] [4])
 .ret)),
 none⟩
theorem c242 : cFunc Tryz.prog true none [[0, 1], [4]] Tryz.f242 = some m242 := by kernel_rfl

/-- strings.shouldUseASCIISet -/
def m245 : MFunc := ⟨5, 1, [.t 2],
 (.seq
 (.ops [⟨(some 2), .mv (.c (.bool false)), none⟩] [0])
 (.seq
 (.ops [⟨(some 3), .mv (.t 0), none⟩, ⟨(some 4), .bin .gtr (.t 3) (.c (.int .i64 8)), none⟩, ⟨(some 2), .mv (.t 4), none⟩] [2])
 .ret)),
 none⟩
theorem c245 : cFunc Tryz.prog true none [[0], [2]] Tryz.f245 = some m245 := by kernel_rfl

/-- strings.makeASCIISet -/
def m246 : MFunc := ⟨21, 1, [.cell 2 (some 256), .t 3],
 (.seq
 (.ops [⟨(some 2), .alloc 288 [(.bool false), (.bool false), (.bool false), (.bool false), (.bool false), (.bool false), (.bool false), (.bool false), (.bool false), (.bool false), (.bool false), (.bool false), (.bool false), (.bool false), (.bool false), (.bool false), (.bool false), (.bool false), (.bool false), (.bool false), (.bool false), (.bool false), (.bool false), (.bool false), (.bool false), (.bool false), (.bool false), (.bool false), (.bool false), (.bool false), (.bool false), (.bool false), (.bool false), (.bool false), (.bool false), (.bool false), (.bool false), (.bool false), (.bool false), (.bool false), (.bool false), (.bool false), (.bool false), (.bool false), (.bool false), (.bool false), (.bool false), (.bool false), (.bool false), (.bool false), (.bool false), (.bool false), (.bool false), (.bool false), (.bool false), (.bool false), (.bool false), (.bool false), (.bool false), (.bool false), (.bool false), (.bool false), (.bool false), (.bool false), (.bool false), (.bool false), (.bool false), (.bool false), (.bool false), (.bool false), (.bool false), (.bool false), (.bool false), (.bool false), (.bool false), (.bool false), (.bool false), (.bool false), (.bool false), (.bool false), (.bool false), (.bool false), (.bool false), (.bool false), (.bool false), (.bool false), (.bool false), (.bool false), (.bool false), (.bool false), (.bool false), (.bool false), (.bool false), (.bool false), (.bool false), (.bool false), (.bool false), (.bool false), (.bool false), (.bool false), (.bool false), (.bool false), (.bool false), (.bool false), (.bool false), (.bool false), (.bool false), (.bool false), (.bool false), (.bool false), (.bool false), (.bool false), (.bool false), (.bool false), (.bool false), (.bool false), (.bool false), (.bool false), (.bool false), (.bool false), (.bool false), (.bool false), (.bool false), (.bool false), (.bool false), (.bool false), (.bool false), (.bool false), (.bool false), (.bool false), (.bool false), (.bool false), (.bool false), (.bool false), (.bool false), (.bool false), (.bool false), (.bool false), (.bool false), (.bool false), (.bool false), (.bool false), (.bool false), (.bool false), (.bool false), (.bool false), (.bool false), (.bool false), (.bool false), (.bool false), (.bool false), (.bool false), (.bool false), (.bool false), (.bool false), (.bool false), (.bool false), (.bool false), (.bool false), (.bool false), (.bool false), (.bool false), (.bool false), (.bool false), (.bool false), (.bool false), (.bool false), (.bool false), (.bool false), (.bool false), (.bool false), (.bool false), (.bool false), (.bool false), (.bool false), (.bool false), (.bool false), (.bool false), (.bool false), (.bool false), (.bool false), (.bool false), (.bool false), (.bool false), (.bool false), (.bool false), (.bool false), (.bool false), (.bool false), (.bool false), (.bool false), (.bool false), (.bool false), (.bool false), (.bool false), (.bool false), (.bool false), (.bool false), (.bool false), (.bool false), (.bool false), (.bool false), (.bool false), (.bool false), (.bool false), (.bool false), (.bool false), (.bool false), (.bool false), (.bool false), (.bool false), (.bool false), (.bool false), (.bool false), (.bool false), (.bool false), (.bool false), (.bool false), (.bool false), (.bool false), (.bool false), (.bool false), (.bool false), (.bool false), (.bool false), (.bool false), (.bool false), (.bool false), (.bool false), (.bool false), (.bool false), (.bool false), (.bool false), (.bool false), (.bool false), (.bool false), (.bool false), (.bool false), (.bool false), (.bool false), (.bool false), (.bool false), (.bool false), (.bool false), (.bool false), (.bool false), (.bool false), (.bool false), (.bool false), (.bool false), (.bool false), (.bool false), (.bool false), (.bool false), (.bool false), (.bool false)], none⟩, ⟨(some 3), .mv (.c (.bool false)), none⟩] [0, 2])
 (.seq
 (.seq
 (.ops [⟨(some 4), .mv (.c (.int .i64 0)), none⟩] [4, 0, 2])
 (.block 0
  (.loop [4, 0, 2]
   (.seq
   (.seq
   (.ops [⟨(some 6), .mv (.t 4), none⟩, ⟨(some 7), .mv (.t 0), none⟩, ⟨(some 8), .lenS (.t 7), none⟩, ⟨(some 9), .bin .lss (.t 6) (.t 8), none⟩] [9, 0, 4, 2])
   (.cond (.t 9)
    .skip
    (.exit 0)))
   (.seq
   (.block 1
    (.seq
    (.ops [⟨(some 12), .mv (.t 0), none⟩, ⟨(some 13), .mv (.t 4), none⟩, ⟨(some 14), .idxStr (.t 12) (.t 13), none⟩, ⟨(some 5), .mv (.t 14), none⟩] [5, 2, 4, 0])
    (.seq
    (.seq
    (.ops [⟨(some 15), .mv (.t 5), none⟩, ⟨(some 16), .bin .geq (.t 15) (.c (.int .u8 128)), none⟩] [16, 2, 5, 4, 0])
    (.cond (.t 16)
     (.seq
     (.ops [⟨(some 17), .load (some 256) (.t 2), none⟩, ⟨none, .store 256 (.t 2) (.t 17), none⟩, ⟨(some 3), .mv (.c (.bool false)), none⟩] [2, 3])
     .ret)
     .skip))
    (.ops [⟨(some 18), .mv (.t 5), none⟩, ⟨(some 19), .idxArrA 256 1 (.t 2) (.t 18), none⟩, ⟨none, .store 1 (.t 19) (.c (.bool true)), none⟩] [4, 0, 2]))))
   (.ops [⟨(some 10), .mv (.t 4), none⟩, ⟨(some 11), .bin .add (.t 10) (.c (.int .i64 1)), none⟩, ⟨(some 4), .mv (.t 11), none⟩] [4, 0, 2]))))))
 (.seq
 (.ops [⟨(some 20), .load (some 256) (.t 2), none⟩, ⟨none, .store 256 (.t 2) (.t 20), none⟩, ⟨(some 3), .mv (.c (.bool true)), none⟩] [2, 3])
 .ret))),
 none⟩
theorem c246 : cFunc Tryz.prog true none [[0, 2], [4, 0, 2], [4, 0, 2], [9, 0, 4, 2], [5, 2, 4, 0], [16, 2, 5, 4, 0], [2, 3], [4, 0, 2], [4, 0, 2], [2, 3]] Tryz.f246 = some m246 := by kernel_rfl

/-- (*strings.asciiSet).contains -/
def m247 : MFunc := ⟨10, 2, [.t 4],
 (.seq
 (.ops [⟨(some 4), .mv (.c (.bool false)), none⟩] [0, 1])
 (.seq
 (.ops [⟨(some 5), .mv (.t 0), none⟩, ⟨(some 6), .mv (.t 1), none⟩, ⟨(some 7), .nilCheck (.t 5), none⟩, ⟨(some 8), .idxArrA 256 1 (.t 7) (.t 6), none⟩, ⟨(some 9), .load none (.t 8), none⟩, ⟨(some 4), .mv (.t 9), none⟩] [4])
 .ret)),
 none⟩
theorem c247 : cFunc Tryz.prog true none [[0, 1], [4]] Tryz.f247 = some m247 := by kernel_rfl

/-- letterbox/b64.value -/
def m248 : MFunc := ⟨41, 1, [.t 2],
 (.seq
 (.ops [⟨(some 2), .mv (.c (.int .i64 0)), none⟩] [0])
 (.seq
 (.block 0
  (.seq
  (.ops [⟨(some 4), .mv (.t 0), none⟩, ⟨(some 5), .bin .geq (.t 4) (.c (.int .u8 65)), none⟩, ⟨(some 6), .mv (.t 5), none⟩, ⟨(some 7), .mv (.t 0), (some (6, true))⟩, ⟨(some 8), .bin .leq (.t 7) (.c (.int .u8 90)), (some (6, true))⟩, ⟨(some 9), .pick (.t 6) (.t 8) (.c (.bool false)), none⟩, ⟨(some 3), .mv (.t 9), none⟩] [3, 0])
  (.cond (.t 3)
   (.seq
   (.ops [⟨(some 10), .mv (.t 0), none⟩, ⟨(some 11), .bin .sub (.t 10) (.c (.int .u8 65)), none⟩, ⟨(some 12), .conv (.int .i64) (.t 11), none⟩, ⟨(some 2), .mv (.t 12), none⟩] [2])
   .ret)
   (.seq
   (.ops [⟨(some 14), .mv (.t 0), none⟩, ⟨(some 15), .bin .geq (.t 14) (.c (.int .u8 97)), none⟩, ⟨(some 16), .mv (.t 15), none⟩, ⟨(some 17), .mv (.t 0), (some (16, true))⟩, ⟨(some 18), .bin .leq (.t 17) (.c (.int .u8 122)), (some (16, true))⟩, ⟨(some 19), .pick (.t 16) (.t 18) (.c (.bool false)), none⟩, ⟨(some 13), .mv (.t 19), none⟩] [13, 0])
   (.cond (.t 13)
    (.seq
    (.ops [⟨(some 20), .mv (.t 0), none⟩, ⟨(some 21), .bin .sub (.t 20) (.c (.int .u8 97)), none⟩, ⟨(some 22), .conv (.int .i64) (.t 21), none⟩, ⟨(some 23), .bin .add (.t 22) (.c (.int .i64 26)), none⟩, ⟨(some 2), .mv (.t 23), none⟩] [2])
    .ret)
    (.seq
    (.ops [⟨(some 25), .mv (.t 0), none⟩, ⟨(some 26), .bin .geq (.t 25) (.c (.int .u8 48)), none⟩, ⟨(some 27), .mv (.t 26), none⟩, ⟨(some 28), .mv (.t 0), (some (27, true))⟩, ⟨(some 29), .bin .leq (.t 28) (.c (.int .u8 57)), (some (27, true))⟩, ⟨(some 30), .pick (.t 27) (.t 29) (.c (.bool false)), none⟩, ⟨(some 24), .mv (.t 30), none⟩] [24, 0])
    (.cond (.t 24)
     (.seq
     (.ops [⟨(some 31), .mv (.t 0), none⟩, ⟨(some 32), .bin .sub (.t 31) (.c (.int .u8 48)), none⟩, ⟨(some 33), .conv (.int .i64) (.t 32), none⟩, ⟨(some 34), .bin .add (.t 33) (.c (.int .i64 52)), none⟩, ⟨(some 2), .mv (.t 34), none⟩] [2])
     .ret)
     (.seq
     (.ops [⟨(some 36), .mv (.t 0), none⟩, ⟨(some 37), .bin .eql (.t 36) (.c (.int .u8 43)), none⟩, ⟨(some 35), .mv (.t 37), none⟩] [35, 0])
     (.cond (.t 35)
      (.seq
      (.ops [⟨(some 2), .mv (.c (.int .i64 62)), none⟩] [2])
      .ret)
      (.seq
      (.ops [⟨(some 39), .mv (.t 0), none⟩, ⟨(some 40), .bin .eql (.t 39) (.c (.int .u8 47)), none⟩, ⟨(some 38), .mv (.t 40), none⟩] [38])
      (.cond (.t 38)
       (.seq
       (.ops [⟨(some 2), .mv (.c (.int .i64 63)), none⟩] [2])
       .ret)
       .skip)))))))))))
 (.seq
 (.ops [⟨(some 2), .mv (.c (.int .i64 (-1))), none⟩] [2])
 .ret))),
 none⟩
theorem c248 : cFunc Tryz.prog true none [[0], [3, 0], [2], [13, 0], [2], [24, 0], [2], [35, 0], [2], [38], [2], [2]] Tryz.f248 = some m248 := by kernel_rfl

/-- (letterbox/params.reader).skip -/
def m249 : MFunc := ⟨41, 1, [],
 (.seq
 (.ops [⟨(some 1), .box 295 (.t 0), none⟩] [1])
 (.scope
 (.seq
 .skip
 (.block 0
  (.loop [1]
   (.seq
   (.seq
   (.ops [⟨(some 3), .fieldA (.t 1) 0, none⟩, ⟨(some 4), .load none (.t 3), none⟩, ⟨(some 5), .nilCheck (.t 4), none⟩, ⟨(some 6), .fieldA (.t 5) 0, none⟩, ⟨(some 7), .load none (.t 6), none⟩, ⟨(some 8), .lenS (.t 7), none⟩, ⟨(some 9), .bin .gtr (.t 8) (.c (.int .i64 0)), none⟩] [9, 1])
   (.cond (.t 9)
    .skip
    (.exit 0)))
   (.block 1
    (.seq
    (.ops [⟨(some 10), .fieldA (.t 1) 0, none⟩, ⟨(some 11), .load none (.t 10), none⟩, ⟨(some 12), .call (.c (.func 260 [])) [(.t 11), (.c (.int .i64 0))], none⟩, ⟨(some 2), .mv (.t 12), none⟩] [2, 1])
    (.block 2
     (.seq
     (.ops [⟨(some 14), .mv (.t 2), none⟩, ⟨(some 15), .call (.c (.func 173 [])) [(.t 14)], none⟩, ⟨(some 13), .mv (.t 15), none⟩] [13, 1, 2])
     (.cond (.t 13)
      (.draw [⟨⟨(some 16), .fieldA (.t 1) 0, none⟩, none⟩, ⟨⟨(some 17), .load none (.t 16), none⟩, none⟩, ⟨⟨(some 18), .fieldA (.t 1) 0, none⟩, none⟩, ⟨⟨(some 19), .load none (.t 18), none⟩, none⟩, ⟨⟨(some 20), .nilCheck (.t 19), none⟩, none⟩, ⟨⟨(some 21), .fieldA (.t 20) 0, none⟩, none⟩, ⟨⟨(some 22), .load none (.t 21), none⟩, none⟩, ⟨⟨(some 23), .sliceStr (.t 22) (some (.c (.int .i64 1))) none, none⟩, none⟩, ⟨⟨(some 24), .nilCheck (.t 17), none⟩, none⟩, ⟨⟨(some 25), .fieldA (.t 24) 0, none⟩, none⟩, ⟨⟨none, .store 1 (.t 25) (.t 23), none⟩, (some [10])⟩] [] [1])
      (.seq
      (.ops [⟨(some 27), .mv (.t 2), none⟩, ⟨(some 28), .bin .eql (.t 27) (.c (.int .u8 40)), none⟩, ⟨(some 26), .mv (.t 28), none⟩] [26, 1])
      (.cond (.t 26)
       (.draw [⟨⟨(some 29), .fieldA (.t 1) 0, none⟩, none⟩, ⟨⟨(some 30), .load none (.t 29), none⟩, none⟩, ⟨⟨(some 31), .fieldA (.t 1) 0, none⟩, none⟩, ⟨⟨(some 32), .load none (.t 31), none⟩, none⟩, ⟨⟨(some 33), .nilCheck (.t 32), none⟩, none⟩, ⟨⟨(some 34), .fieldA (.t 33) 0, none⟩, none⟩, ⟨⟨(some 35), .load none (.t 34), none⟩, none⟩, ⟨⟨(some 36), .load (some 1) (.t 1), none⟩, none⟩, ⟨⟨(some 37), .call (.c (.func 261 [])) [(.t 36)], none⟩, none⟩, ⟨⟨(some 38), .sliceStr (.t 35) (some (.t 37)) none, none⟩, none⟩, ⟨⟨(some 39), .nilCheck (.t 30), none⟩, none⟩, ⟨⟨(some 40), .fieldA (.t 39) 0, none⟩, none⟩, ⟨⟨none, .store 1 (.t 40) (.t 38), none⟩, (some [12])⟩] [] [1])
       (.exit 0)))))))))))))),
 none⟩
theorem c249 : cFunc Tryz.prog true none [[1], [1], [9, 1], [2, 1], [13, 1, 2], [1], [], [26, 1], [1], []] Tryz.f249 = some m249 := by kernel_rfl

/-- (letterbox/params.reader).token -/
def m250 : MFunc := ⟨44, 1, [.t 2],
 (.seq
 (.ops [⟨(some 1), .box 295 (.t 0), none⟩, ⟨(some 2), .mv (.c (.str [])), none⟩] [1])
 (.seq
 (.ops [⟨(some 3), .mv (.c (.int .i64 0)), none⟩] [3, 1])
 (.seq
 (.block 0
  (.loop [3, 1]
   (.seq
   (.seq
   (.ops [⟨(some 5), .mv (.t 3), none⟩, ⟨(some 6), .fieldA (.t 1) 0, none⟩, ⟨(some 7), .load none (.t 6), none⟩, ⟨(some 8), .nilCheck (.t 7), none⟩, ⟨(some 9), .fieldA (.t 8) 0, none⟩, ⟨(some 10), .load none (.t 9), none⟩, ⟨(some 11), .lenS (.t 10), none⟩, ⟨(some 12), .bin .lss (.t 5) (.t 11), none⟩, ⟨(some 13), .mv (.t 12), none⟩, ⟨(some 14), .fieldA (.t 1) 0, (some (13, true))⟩, ⟨(some 15), .load none (.t 14), (some (13, true))⟩, ⟨(some 16), .nilCheck (.t 15), (some (13, true))⟩, ⟨(some 17), .fieldA (.t 16) 0, (some (13, true))⟩, ⟨(some 18), .load none (.t 17), (some (13, true))⟩, ⟨(some 19), .mv (.t 3), (some (13, true))⟩, ⟨(some 20), .idxStr (.t 18) (.t 19), (some (13, true))⟩, ⟨(some 21), .call (.c (.func 262 [])) [(.t 20)], (some (13, true))⟩, ⟨(some 22), .pick (.t 13) (.t 21) (.c (.bool false)), none⟩] [22, 3, 1])
   (.cond (.t 22)
    .skip
    (.exit 0)))
   (.block 1
    (.ops [⟨(some 23), .mv (.t 3), none⟩, ⟨(some 24), .bin .add (.t 23) (.c (.int .i64 1)), none⟩, ⟨(some 3), .mv (.t 24), none⟩] [3, 1])))))
 (.seq
 (.ops [⟨(some 25), .fieldA (.t 1) 0, none⟩, ⟨(some 26), .load none (.t 25), none⟩, ⟨(some 27), .nilCheck (.t 26), none⟩, ⟨(some 28), .fieldA (.t 27) 0, none⟩, ⟨(some 29), .load none (.t 28), none⟩, ⟨(some 30), .mv (.t 3), none⟩, ⟨(some 31), .sliceStr (.t 29) none (some (.t 30)), none⟩, ⟨(some 4), .mv (.t 31), none⟩] [1, 3, 4])
 (.seq
 (.draw [⟨⟨(some 32), .fieldA (.t 1) 0, none⟩, none⟩, ⟨⟨(some 33), .load none (.t 32), none⟩, none⟩, ⟨⟨(some 34), .fieldA (.t 1) 0, none⟩, none⟩, ⟨⟨(some 35), .load none (.t 34), none⟩, none⟩, ⟨⟨(some 36), .nilCheck (.t 35), none⟩, none⟩, ⟨⟨(some 37), .fieldA (.t 36) 0, none⟩, none⟩, ⟨⟨(some 38), .load none (.t 37), none⟩, none⟩, ⟨⟨(some 39), .mv (.t 3), none⟩, none⟩, ⟨⟨(some 40), .sliceStr (.t 38) (some (.t 39)) none, none⟩, none⟩, ⟨⟨(some 41), .nilCheck (.t 33), none⟩, none⟩, ⟨⟨(some 42), .fieldA (.t 41) 0, none⟩, none⟩, ⟨⟨none, .store 1 (.t 42) (.t 40), none⟩, (some [11])⟩] [] [4])
 (.seq
 (.ops [⟨(some 43), .mv (.t 4), none⟩, ⟨(some 2), .mv (.t 43), none⟩] [2])
 .ret)))))),
 none⟩
theorem c250 : cFunc Tryz.prog true none [[1], [3, 1], [3, 1], [22, 3, 1], [3, 1], [1, 3, 4], [4], [], [2]] Tryz.f250 = some m250 := by kernel_rfl

/-- (letterbox/params.reader).byte -/
def m251 : MFunc := ⟨24, 2, [.t 4],
 (.seq
 (.ops [⟨(some 2), .box 295 (.t 0), none⟩, ⟨(some 4), .mv (.c (.bool false)), none⟩] [2, 1])
 (.seq
 (.ops [⟨(some 5), .load (some 1) (.t 2), none⟩, ⟨(some 6), .call (.c (.func 249 [])) [(.t 5)], none⟩] [2, 1])
 (.seq
 (.seq
 (.ops [⟨(some 7), .fieldA (.t 2) 0, none⟩, ⟨(some 8), .load none (.t 7), none⟩, ⟨(some 9), .call (.c (.func 260 [])) [(.t 8), (.c (.int .i64 0))], none⟩, ⟨(some 10), .mv (.t 1), none⟩, ⟨(some 11), .bin .neq (.t 9) (.t 10), none⟩] [11, 2])
 (.cond (.t 11)
  (.seq
  (.ops [⟨(some 4), .mv (.c (.bool false)), none⟩] [4])
  .ret)
  .skip))
 (.seq
 (.draw [⟨⟨(some 12), .fieldA (.t 2) 0, none⟩, none⟩, ⟨⟨(some 13), .load none (.t 12), none⟩, none⟩, ⟨⟨(some 14), .fieldA (.t 2) 0, none⟩, none⟩, ⟨⟨(some 15), .load none (.t 14), none⟩, none⟩, ⟨⟨(some 16), .nilCheck (.t 15), none⟩, none⟩, ⟨⟨(some 17), .fieldA (.t 16) 0, none⟩, none⟩, ⟨⟨(some 18), .load none (.t 17), none⟩, none⟩, ⟨⟨(some 19), .sliceStr (.t 18) (some (.c (.int .i64 1))) none, none⟩, none⟩, ⟨⟨(some 20), .nilCheck (.t 13), none⟩, none⟩, ⟨⟨(some 21), .fieldA (.t 20) 0, none⟩, none⟩, ⟨⟨none, .store 1 (.t 21) (.t 19), none⟩, (some [10])⟩] [] [2])
 (.seq
 (.ops [⟨(some 22), .load (some 1) (.t 2), none⟩, ⟨(some 23), .call (.c (.func 249 [])) [(.t 22)], none⟩] [])
 (.seq
 (.ops [⟨(some 4), .mv (.c (.bool true)), none⟩] [4])
 .ret)))))),
 none⟩
theorem c251 : cFunc Tryz.prog true none [[2, 1], [2, 1], [11, 2], [4], [2], [], [], [4]] Tryz.f251 = some m251 := by kernel_rfl

/-- (letterbox/params.reader).pairs -/
def m252 : MFunc := ⟨33, 1, [.t 2],
 (.seq
 (.ops [⟨(some 1), .box 295 (.t 0), none⟩, ⟨(some 2), .mv (.c .nilslice), none⟩] [1])
 (.seq
 (.ops [⟨(some 3), .mv (.c .nilslice), none⟩] [1, 3])
 (.seq
 (.block 0
  (.loop [1, 3]
   (.seq
   (.seq
   (.ops [⟨(some 7), .load (some 1) (.t 1), none⟩, ⟨(some 8), .call (.c (.func 251 [])) [(.t 7), (.c (.int .u8 59))], none⟩] [8, 1, 3])
   (.cond (.t 8)
    .skip
    (.exit 0)))
   (.block 1
    (.seq
    (.ops [⟨(some 9), .load (some 1) (.t 1), none⟩, ⟨(some 10), .call (.c (.func 250 [])) [(.t 9)], none⟩, ⟨(some 11), .call (.c (.func 34 [])) [(.t 10)], none⟩, ⟨(some 4), .mv (.t 11), none⟩] [4, 1, 3])
    (.seq
    (.seq
    (.ops [⟨(some 12), .mv (.t 4), none⟩, ⟨(some 13), .bin .eql (.t 12) (.c (.str [])), none⟩, ⟨(some 14), .mv (.t 13), none⟩, ⟨(some 15), .load (some 1) (.t 1), (some (14, false))⟩, ⟨(some 16), .call (.c (.func 251 [])) [(.t 15), (.c (.int .u8 61))], (some (14, false))⟩, ⟨(some 17), .un .not (.t 16), (some (14, false))⟩, ⟨(some 18), .pick (.t 14) (.c (.bool true)) (.t 17), none⟩] [18, 3, 1, 4])
    (.cond (.t 18)
     (.exit 0)
     .skip))
    (.seq
    (.ops [⟨(some 20), .load (some 1) (.t 1), none⟩, ⟨(some 21), .call (.c (.func 263 [])) [(.t 20)], none⟩, ⟨(some 19), .mv (.t 21), none⟩, ⟨(some 22), .extract (.t 19) 0, none⟩, ⟨(some 23), .extract (.t 19) 1, none⟩, ⟨(some 5), .mv (.t 22), none⟩, ⟨(some 6), .mv (.t 23), none⟩] [6, 3, 4, 5, 1])
    (.seq
    (.seq
    (.ops [⟨(some 24), .mv (.t 6), none⟩, ⟨(some 25), .un .not (.t 24), none⟩] [25, 3, 4, 5, 1])
    (.cond (.t 25)
     (.exit 0)
     .skip))
    (.ops [⟨(some 26), .mv (.t 3), none⟩, ⟨(some 27), .mv (.t 4), none⟩, ⟨(some 28), .mv (.t 5), none⟩, ⟨(some 29), .build [(.str []), (.str [])] [(0, 1, (.t 27)), (1, 1, (.t 28))], none⟩, ⟨(some 30), .mkSlice 2 (.agg [(.str []), (.str [])]) 1 [(0, (.t 29))], none⟩, ⟨(some 31), .append 278 2 32 (.t 26) (.t 30), none⟩, ⟨(some 3), .mv (.t 31), none⟩] [1, 3])))))))))
 (.seq
 (.ops [⟨(some 32), .mv (.t 3), none⟩, ⟨(some 2), .mv (.t 32), none⟩] [2])
 .ret)))),
 none⟩
theorem c252 : cFunc Tryz.prog true none [[1], [1, 3], [1, 3], [8, 1, 3], [4, 1, 3], [18, 3, 1, 4], [6, 3, 4, 5, 1], [25, 3, 4, 5, 1], [1, 3], [2]] Tryz.f252 = some m252 := by kernel_rfl

/-- letterbox/params.told -/
def m253 : MFunc := ⟨34, 2, [.t 4, .t 5],
 (.seq
 (.ops [⟨(some 4), .mv (.c (.str [])), none⟩, ⟨(some 5), .mv (.c (.bool false)), none⟩] [0, 1])
 (.seq
 (.seq
 (.ops [⟨(some 11), .mv (.t 0), none⟩, ⟨(some 12), .mv (.t 1), none⟩, ⟨(some 13), .call (.c (.func 264 [])) [(.t 11), (.t 12)], none⟩, ⟨(some 10), .mv (.t 13), none⟩, ⟨(some 14), .extract (.t 10) 0, none⟩, ⟨(some 15), .extract (.t 10) 1, none⟩, ⟨(some 6), .mv (.t 14), none⟩, ⟨(some 7), .mv (.t 15), none⟩] [7, 6, 0, 1])
 (.seq
 (.ops [⟨(some 16), .mv (.t 7), none⟩] [16, 6, 0, 1])
 (.cond (.t 16)
  (.seq
  (.ops [⟨(some 17), .mv (.t 6), none⟩, ⟨(some 4), .mv (.t 17), none⟩, ⟨(some 5), .mv (.c (.bool true)), none⟩] [4, 5])
  .ret)
  .skip)))
 (.seq
 (.seq
 (.ops [⟨(some 19), .mv (.t 0), none⟩, ⟨(some 20), .mv (.t 1), none⟩, ⟨(some 21), .bin .add (.t 20) (.c (.str [42])), none⟩, ⟨(some 22), .call (.c (.func 264 [])) [(.t 19), (.t 21)], none⟩, ⟨(some 18), .mv (.t 22), none⟩, ⟨(some 23), .extract (.t 18) 0, none⟩, ⟨(some 24), .extract (.t 18) 1, none⟩, ⟨(some 8), .mv (.t 23), none⟩, ⟨(some 9), .mv (.t 24), none⟩] [9, 8, 0, 1])
 (.seq
 (.ops [⟨(some 25), .mv (.t 9), none⟩] [25, 8, 0, 1])
 (.cond (.t 25)
  (.seq
  (.ops [⟨(some 26), .mv (.t 8), none⟩, ⟨(some 27), .call (.c (.func 266 [])) [(.t 26)], none⟩, ⟨(some 28), .call (.c (.func 265 [])) [(.t 27)], none⟩, ⟨(some 4), .mv (.t 28), none⟩, ⟨(some 5), .mv (.c (.bool true)), none⟩] [4, 5])
  .ret)
  .skip)))
 (.seq
 (.ops [⟨(some 29), .mv (.t 0), none⟩, ⟨(some 30), .mv (.t 1), none⟩, ⟨(some 31), .call (.c (.func 267 [])) [(.t 29), (.t 30)], none⟩, ⟨(some 32), .extract (.t 31) 0, none⟩, ⟨(some 33), .extract (.t 31) 1, none⟩, ⟨(some 4), .mv (.t 32), none⟩, ⟨(some 5), .mv (.t 33), none⟩] [4, 5])
 .ret)))),
 none⟩
theorem c253 : cFunc Tryz.prog true none [[0, 1], [7, 6, 0, 1], [16, 6, 0, 1], [4, 5], [9, 8, 0, 1], [25, 8, 0, 1], [4, 5], [4, 5]] Tryz.f253 = some m253 := by kernel_rfl

/-- letterbox/tree.delimiter$1 -/
def m254 : MFunc := ⟨6, 1, [.t 2],
 (.seq
 (.ops [⟨(some 2), .mv (.c (.bool false)), none⟩] [0])
 (.seq
 (.ops [⟨(some 3), .mv (.t 0), none⟩, ⟨(some 4), .call (.c (.func 136 [])) [(.t 3)], none⟩, ⟨(some 5), .bin .eql (.t 4) (.c (.str [])), none⟩, ⟨(some 2), .mv (.t 5), none⟩] [2])
 .ret)),
 none⟩
theorem c254 : cFunc Tryz.prog true none [[0], [2]] Tryz.f254 = some m254 := by kernel_rfl

/-- internal/stringslite.HasSuffix -/
def m256 : MFunc := ⟨21, 2, [.t 4],
 (.seq
 (.ops [⟨(some 4), .mv (.c (.bool false)), none⟩] [0, 1])
 (.seq
 (.ops [⟨(some 5), .mv (.t 0), none⟩, ⟨(some 6), .lenS (.t 5), none⟩, ⟨(some 7), .mv (.t 1), none⟩, ⟨(some 8), .lenS (.t 7), none⟩, ⟨(some 9), .bin .geq (.t 6) (.t 8), none⟩, ⟨(some 10), .mv (.t 9), none⟩, ⟨(some 11), .mv (.t 0), (some (10, true))⟩, ⟨(some 12), .mv (.t 0), (some (10, true))⟩, ⟨(some 13), .lenS (.t 12), (some (10, true))⟩, ⟨(some 14), .mv (.t 1), (some (10, true))⟩, ⟨(some 15), .lenS (.t 14), (some (10, true))⟩, ⟨(some 16), .bin .sub (.t 13) (.t 15), (some (10, true))⟩, ⟨(some 17), .sliceStr (.t 11) (some (.t 16)) none, (some (10, true))⟩, ⟨(some 18), .mv (.t 1), (some (10, true))⟩, ⟨(some 19), .bin .eql (.t 17) (.t 18), (some (10, true))⟩, ⟨(some 20), .pick (.t 10) (.t 19) (.c (.bool false)), none⟩, ⟨(some 4), .mv (.t 20), none⟩] [4])
 .ret)),
 none⟩
theorem c256 : cFunc Tryz.prog true none [[0, 1], [4]] Tryz.f256 = some m256 := by kernel_rfl

-- 257 strings.genSplit: NOT COMPILED
/-- (*letterbox/params.text).at -/
def m260 : MFunc := ⟨18, 2, [.t 4],
 (.seq
 (.ops [⟨(some 4), .mv (.c (.int .u8 0)), none⟩] [1, 0])
 (.seq
 (.seq
 (.ops [⟨(some 5), .mv (.t 1), none⟩, ⟨(some 6), .mv (.t 0), none⟩, ⟨(some 7), .nilCheck (.t 6), none⟩, ⟨(some 8), .fieldA (.t 7) 0, none⟩, ⟨(some 9), .load none (.t 8), none⟩, ⟨(some 10), .lenS (.t 9), none⟩, ⟨(some 11), .bin .geq (.t 5) (.t 10), none⟩] [11, 0, 1])
 (.cond (.t 11)
  (.seq
  (.ops [⟨(some 4), .mv (.c (.int .u8 0)), none⟩] [4])
  .ret)
  .skip))
 (.seq
 (.ops [⟨(some 12), .mv (.t 0), none⟩, ⟨(some 13), .nilCheck (.t 12), none⟩, ⟨(some 14), .fieldA (.t 13) 0, none⟩, ⟨(some 15), .load none (.t 14), none⟩, ⟨(some 16), .mv (.t 1), none⟩, ⟨(some 17), .idxStr (.t 15) (.t 16), none⟩, ⟨(some 4), .mv (.t 17), none⟩] [4])
 .ret))),
 none⟩
theorem c260 : cFunc Tryz.prog true none [[1, 0], [11, 0, 1], [4], [4]] Tryz.f260 = some m260 := by kernel_rfl

/-- (letterbox/params.reader).comment -/
def m261 : MFunc := ⟨44, 1, [.t 2],
 (.seq
 (.ops [⟨(some 1), .box 295 (.t 0), none⟩, ⟨(some 2), .mv (.c (.int .i64 0)), none⟩] [1])
 (.seq
 (.ops [⟨(some 3), .mv (.c (.int .i64 0)), none⟩] [1, 3])
 (.seq
 (.seq
 (.ops [⟨(some 4), .mv (.c (.int .i64 0)), none⟩] [4, 1, 3])
 (.block 0
  (.loop [4, 1, 3]
   (.seq
   (.seq
   (.ops [⟨(some 5), .mv (.t 4), none⟩, ⟨(some 6), .fieldA (.t 1) 0, none⟩, ⟨(some 7), .load none (.t 6), none⟩, ⟨(some 8), .nilCheck (.t 7), none⟩, ⟨(some 9), .fieldA (.t 8) 0, none⟩, ⟨(some 10), .load none (.t 9), none⟩, ⟨(some 11), .lenS (.t 10), none⟩, ⟨(some 12), .bin .lss (.t 5) (.t 11), none⟩] [12, 1, 4, 3])
   (.cond (.t 12)
    .skip
    (.exit 0)))
   (.seq
   (.block 1
    (.seq
    (.ops [⟨(some 15), .fieldA (.t 1) 0, none⟩, ⟨(some 16), .load none (.t 15), none⟩, ⟨(some 17), .nilCheck (.t 16), none⟩, ⟨(some 18), .fieldA (.t 17) 0, none⟩, ⟨(some 19), .load none (.t 18), none⟩, ⟨(some 20), .mv (.t 4), none⟩, ⟨(some 21), .idxStr (.t 19) (.t 20), none⟩] [21, 4, 1, 3])
    (.block 2
     (.seq
     (.ops [⟨(some 23), .bin .eql (.t 21) (.c (.int .u8 92)), none⟩, ⟨(some 22), .mv (.t 23), none⟩] [22, 4, 1, 3, 21])
     (.cond (.t 22)
      (.ops [⟨(some 24), .mv (.t 4), none⟩, ⟨(some 25), .bin .add (.t 24) (.c (.int .i64 1)), none⟩, ⟨(some 4), .mv (.t 25), none⟩] [4, 1, 3])
      (.seq
      (.ops [⟨(some 27), .bin .eql (.t 21) (.c (.int .u8 40)), none⟩, ⟨(some 26), .mv (.t 27), none⟩] [26, 3, 4, 1, 21])
      (.cond (.t 26)
       (.ops [⟨(some 28), .mv (.t 3), none⟩, ⟨(some 29), .bin .add (.t 28) (.c (.int .i64 1)), none⟩, ⟨(some 3), .mv (.t 29), none⟩] [4, 1, 3])
       (.seq
       (.ops [⟨(some 31), .bin .eql (.t 21) (.c (.int .u8 41)), none⟩, ⟨(some 30), .mv (.t 31), none⟩] [30, 3, 4, 1])
       (.cond (.t 30)
        (.seq
        (.ops [⟨(some 32), .mv (.t 3), none⟩, ⟨(some 33), .bin .sub (.t 32) (.c (.int .i64 1)), none⟩, ⟨(some 3), .mv (.t 33), none⟩] [3, 4, 1])
        (.seq
        (.ops [⟨(some 34), .mv (.t 3), none⟩, ⟨(some 35), .bin .eql (.t 34) (.c (.int .i64 0)), none⟩] [35, 4, 1, 3])
        (.cond (.t 35)
         (.seq
         (.ops [⟨(some 36), .mv (.t 4), none⟩, ⟨(some 37), .bin .add (.t 36) (.c (.int .i64 1)), none⟩, ⟨(some 2), .mv (.t 37), none⟩] [2])
         .ret)
         .skip)))
        .skip)))))))))
   (.ops [⟨(some 13), .mv (.t 4), none⟩, ⟨(some 14), .bin .add (.t 13) (.c (.int .i64 1)), none⟩, ⟨(some 4), .mv (.t 14), none⟩] [4, 1, 3]))))))
 (.seq
 (.ops [⟨(some 38), .fieldA (.t 1) 0, none⟩, ⟨(some 39), .load none (.t 38), none⟩, ⟨(some 40), .nilCheck (.t 39), none⟩, ⟨(some 41), .fieldA (.t 40) 0, none⟩, ⟨(some 42), .load none (.t 41), none⟩, ⟨(some 43), .lenS (.t 42), none⟩, ⟨(some 2), .mv (.t 43), none⟩] [2])
 .ret)))),
 none⟩
theorem c261 : cFunc Tryz.prog true none [[1], [1, 3], [4, 1, 3], [4, 1, 3], [12, 1, 4, 3], [21, 4, 1, 3], [22, 4, 1, 3, 21], [4, 1, 3], [26, 3, 4, 1, 21], [4, 1, 3], [30, 3, 4, 1], [3, 4, 1], [35, 4, 1, 3], [2], [4, 1, 3], [2]] Tryz.f261 = some m261 := by kernel_rfl

/-- letterbox/chars.Token -/
def m262 : MFunc := ⟨14, 1, [.t 2],
 (.seq
 (.ops [⟨(some 2), .mv (.c (.bool false)), none⟩] [0])
 (.seq
 (.ops [⟨(some 3), .mv (.t 0), none⟩, ⟨(some 4), .bin .geq (.t 3) (.c (.int .u8 33)), none⟩, ⟨(some 5), .mv (.t 4), none⟩, ⟨(some 6), .mv (.t 0), (some (5, true))⟩, ⟨(some 7), .bin .leq (.t 6) (.c (.int .u8 126)), (some (5, true))⟩, ⟨(some 8), .pick (.t 5) (.t 7) (.c (.bool false)), none⟩, ⟨(some 9), .mv (.t 8), none⟩, ⟨(some 10), .mv (.t 0), (some (9, true))⟩, ⟨(some 11), .call (.c (.func 270 [])) [(.c (.str [40, 41, 60, 62, 64, 44, 59, 58, 92, 34, 47, 91, 93, 63, 61])), (.t 10)], (some (9, true))⟩, ⟨(some 12), .un .not (.t 11), (some (9, true))⟩, ⟨(some 13), .pick (.t 9) (.t 12) (.c (.bool false)), none⟩, ⟨(some 2), .mv (.t 13), none⟩] [2])
 .ret)),
 none⟩
theorem c262 : cFunc Tryz.prog true none [[0], [2]] Tryz.f262 = some m262 := by kernel_rfl

/-- (letterbox/params.reader).value -/
def m263 : MFunc := ⟨18, 1, [.t 2, .t 3],
 (.seq
 (.ops [⟨(some 1), .box 295 (.t 0), none⟩, ⟨(some 2), .mv (.c (.str [])), none⟩, ⟨(some 3), .mv (.c (.bool false)), none⟩] [1])
 (.seq
 (.seq
 (.ops [⟨(some 5), .fieldA (.t 1) 0, none⟩, ⟨(some 6), .load none (.t 5), none⟩, ⟨(some 7), .call (.c (.func 260 [])) [(.t 6), (.c (.int .i64 0))], none⟩, ⟨(some 8), .bin .eql (.t 7) (.c (.int .u8 34)), none⟩] [8, 1])
 (.cond (.t 8)
  (.seq
  (.ops [⟨(some 9), .load (some 1) (.t 1), none⟩, ⟨(some 10), .call (.c (.func 271 [])) [(.t 9)], none⟩, ⟨(some 11), .extract (.t 10) 0, none⟩, ⟨(some 12), .extract (.t 10) 1, none⟩, ⟨(some 2), .mv (.t 11), none⟩, ⟨(some 3), .mv (.t 12), none⟩] [2, 3])
  .ret)
  .skip))
 (.seq
 (.ops [⟨(some 13), .load (some 1) (.t 1), none⟩, ⟨(some 14), .call (.c (.func 250 [])) [(.t 13)], none⟩, ⟨(some 4), .mv (.t 14), none⟩] [4])
 (.seq
 (.ops [⟨(some 15), .mv (.t 4), none⟩, ⟨(some 16), .mv (.t 4), none⟩, ⟨(some 17), .bin .neq (.t 16) (.c (.str [])), none⟩, ⟨(some 2), .mv (.t 15), none⟩, ⟨(some 3), .mv (.t 17), none⟩] [2, 3])
 .ret)))),
 none⟩
theorem c263 : cFunc Tryz.prog true none [[1], [8, 1], [2, 3], [4], [2, 3]] Tryz.f263 = some m263 := by kernel_rfl

/-- letterbox/params.find -/
def m264 : MFunc := ⟨21, 2, [.t 4, .t 5],
 (.seq
 (.ops [⟨(some 4), .mv (.c (.str [])), none⟩, ⟨(some 5), .mv (.c (.bool false)), none⟩] [0, 1])
 (.seq
 (.seq
 (.ops [⟨(some 8), .mv (.t 0), none⟩, ⟨(some 9), .lenL (.t 8), none⟩, ⟨(some 10), .mv (.c (.int .i64 0)), none⟩] [10, 9, 8, 1])
 (.block 0
  (.loop [10, 9, 8, 1]
   (.seq
   (.ops [⟨(some 11), .bin .lss (.t 10) (.t 9), none⟩] [11, 8, 10, 1, 9])
   (.seq
   (.cond (.t 11)
    .skip
    (.exit 0))
   (.seq
   (.block 1
    (.seq
    (.ops [⟨(some 12), .idxA 2 (.t 8) (.t 10), none⟩, ⟨(some 13), .load (some 2) (.t 12), none⟩, ⟨(some 7), .alloc 278 [(.str []), (.str [])], none⟩, ⟨none, .store 2 (.t 7) (.t 13), none⟩] [7, 1, 10, 9, 8])
    (.seq
    (.ops [⟨(some 14), .fieldA (.t 7) 0, none⟩, ⟨(some 15), .load none (.t 14), none⟩, ⟨(some 16), .mv (.t 1), none⟩, ⟨(some 17), .bin .eql (.t 15) (.t 16), none⟩] [17, 7, 10, 9, 8, 1])
    (.cond (.t 17)
     (.seq
     (.ops [⟨(some 18), .fieldA (.t 7) 1, none⟩, ⟨(some 19), .load none (.t 18), none⟩, ⟨(some 4), .mv (.t 19), none⟩, ⟨(some 5), .mv (.c (.bool true)), none⟩] [4, 5])
     .ret)
     .skip))))
   (.ops [⟨(some 20), .bin .add (.t 10) (.c (.int .i64 1)), none⟩, ⟨(some 10), .mv (.t 20), none⟩] [10, 9, 8, 1])))))))
 (.seq
 (.ops [⟨(some 4), .mv (.c (.str [])), none⟩, ⟨(some 5), .mv (.c (.bool false)), none⟩] [4, 5])
 .ret))),
 none⟩
theorem c264 : cFunc Tryz.prog true none [[0, 1], [10, 9, 8, 1], [10, 9, 8, 1], [11, 8, 10, 1, 9], [7, 1, 10, 9, 8], [17, 7, 10, 9, 8, 1], [4, 5], [10, 9, 8, 1], [4, 5]] Tryz.f264 = some m264 := by kernel_rfl

/-- letterbox/params.open -/
def m265 : MFunc := ⟨63, 1, [.t 2],
 (.seq
 (.ops [⟨(some 2), .mv (.c (.str [])), none⟩] [0])
 (.seq
 (.ops [⟨(some 3), .mv (.c .nilslice), none⟩] [0, 3])
 (.seq
 (.seq
 (.ops [⟨(some 4), .mv (.c (.int .i64 0)), none⟩] [4, 0, 3])
 (.block 0
  (.loop [4, 0, 3]
   (.seq
   (.seq
   (.ops [⟨(some 9), .mv (.t 4), none⟩, ⟨(some 10), .mv (.t 0), none⟩, ⟨(some 11), .lenS (.t 10), none⟩, ⟨(some 12), .bin .lss (.t 9) (.t 11), none⟩] [12, 0, 4, 3])
   (.cond (.t 12)
    .skip
    (.exit 0)))
   (.seq
   (.block 1
    (.seq
    (.seq
    (.ops [⟨(some 15), .mv (.t 0), none⟩, ⟨(some 16), .mv (.t 4), none⟩, ⟨(some 17), .idxStr (.t 15) (.t 16), none⟩, ⟨(some 18), .bin .eql (.t 17) (.c (.int .u8 37)), none⟩, ⟨(some 19), .mv (.t 18), none⟩, ⟨(some 20), .mv (.t 4), (some (19, true))⟩, ⟨(some 21), .bin .add (.t 20) (.c (.int .i64 2)), (some (19, true))⟩, ⟨(some 22), .mv (.t 0), (some (19, true))⟩, ⟨(some 23), .lenS (.t 22), (some (19, true))⟩, ⟨(some 24), .bin .lss (.t 21) (.t 23), (some (19, true))⟩, ⟨(some 25), .pick (.t 19) (.t 24) (.c (.bool false)), none⟩] [25, 0, 4, 3])
    (.cond (.t 25)
     (.seq
     (.ops [⟨(some 27), .mv (.t 0), none⟩, ⟨(some 28), .mv (.t 4), none⟩, ⟨(some 29), .bin .add (.t 28) (.c (.int .i64 1)), none⟩, ⟨(some 30), .idxStr (.t 27) (.t 29), none⟩, ⟨(some 31), .call (.c (.func 272 [])) [(.t 30)], none⟩, ⟨(some 26), .mv (.t 31), none⟩, ⟨(some 32), .extract (.t 26) 0, none⟩, ⟨(some 33), .extract (.t 26) 1, none⟩, ⟨(some 5), .mv (.t 32), none⟩, ⟨(some 6), .mv (.t 33), none⟩] [0, 4, 6, 3, 5])
     (.seq
     (.ops [⟨(some 35), .mv (.t 0), none⟩, ⟨(some 36), .mv (.t 4), none⟩, ⟨(some 37), .bin .add (.t 36) (.c (.int .i64 2)), none⟩, ⟨(some 38), .idxStr (.t 35) (.t 37), none⟩, ⟨(some 39), .call (.c (.func 272 [])) [(.t 38)], none⟩, ⟨(some 34), .mv (.t 39), none⟩, ⟨(some 40), .extract (.t 34) 0, none⟩, ⟨(some 41), .extract (.t 34) 1, none⟩, ⟨(some 7), .mv (.t 40), none⟩, ⟨(some 8), .mv (.t 41), none⟩] [6, 8, 3, 5, 7, 4, 0])
     (.seq
     (.ops [⟨(some 42), .mv (.t 6), none⟩, ⟨(some 43), .mv (.t 42), none⟩, ⟨(some 44), .mv (.t 8), (some (43, true))⟩, ⟨(some 45), .pick (.t 43) (.t 44) (.c (.bool false)), none⟩] [45, 3, 5, 7, 4, 0])
     (.cond (.t 45)
      (.seq
      (.ops [⟨(some 46), .mv (.t 3), none⟩, ⟨(some 47), .mv (.t 5), none⟩, ⟨(some 48), .bin .shl (.t 47) (.c (.int .u64 4)), none⟩, ⟨(some 49), .mv (.t 7), none⟩, ⟨(some 50), .bin .or (.t 48) (.t 49), none⟩, ⟨(some 51), .mkSlice 1 (.int .u8 0) 1 [(0, (.t 50))], none⟩, ⟨(some 52), .append 5 1 1 (.t 46) (.t 51), none⟩, ⟨(some 3), .mv (.t 52), none⟩] [4, 0, 3])
      (.seq
      (.ops [⟨(some 53), .mv (.t 4), none⟩, ⟨(some 54), .bin .add (.t 53) (.c (.int .i64 2)), none⟩, ⟨(some 4), .mv (.t 54), none⟩] [4, 0, 3])
      (.exit 1)))
      .skip))))
     .skip))
    (.ops [⟨(some 55), .mv (.t 3), none⟩, ⟨(some 56), .mv (.t 0), none⟩, ⟨(some 57), .mv (.t 4), none⟩, ⟨(some 58), .idxStr (.t 56) (.t 57), none⟩, ⟨(some 59), .mkSlice 1 (.int .u8 0) 1 [(0, (.t 58))], none⟩, ⟨(some 60), .append 5 1 1 (.t 55) (.t 59), none⟩, ⟨(some 3), .mv (.t 60), none⟩] [4, 0, 3])))
   (.ops [⟨(some 13), .mv (.t 4), none⟩, ⟨(some 14), .bin .add (.t 13) (.c (.int .i64 1)), none⟩, ⟨(some 4), .mv (.t 14), none⟩] [4, 0, 3]))))))
 (.seq
 (.ops [⟨(some 61), .mv (.t 3), none⟩, ⟨(some 62), .conv .bytesStr (.t 61), none⟩, ⟨(some 2), .mv (.t 62), none⟩] [2])
 .ret)))),
 none⟩
theorem c265 : cFunc Tryz.prog true none [[0], [0, 3], [4, 0, 3], [4, 0, 3], [12, 0, 4, 3], [25, 0, 4, 3], [0, 4, 6, 3, 5], [6, 8, 3, 5, 7, 4, 0], [45, 3, 5, 7, 4, 0], [4, 0, 3], [4, 0, 3], [4, 0, 3], [4, 0, 3], [2]] Tryz.f265 = some m265 := by kernel_rfl

/-- letterbox/params.bare -/
def m266 : MFunc := ⟨13, 1, [.t 2],
 (.seq
 (.ops [⟨(some 2), .mv (.c (.str [])), none⟩] [0])
 (.seq
 (.ops [⟨(some 4), .mv (.t 0), none⟩, ⟨(some 5), .call (.c (.func 273 [])) [(.t 4), (.c (.str [39])), (.c (.int .i64 3))], none⟩, ⟨(some 3), .mv (.t 5), none⟩] [3, 0])
 (.seq
 (.seq
 (.ops [⟨(some 6), .mv (.t 3), none⟩, ⟨(some 7), .lenL (.t 6), none⟩, ⟨(some 8), .bin .lss (.t 7) (.c (.int .i64 3)), none⟩] [8, 0, 3])
 (.cond (.t 8)
  (.seq
  (.ops [⟨(some 9), .mv (.t 0), none⟩, ⟨(some 2), .mv (.t 9), none⟩] [2])
  .ret)
  .skip))
 (.seq
 (.ops [⟨(some 10), .mv (.t 3), none⟩, ⟨(some 11), .idxA 1 (.t 10) (.c (.int .i64 2)), none⟩, ⟨(some 12), .load none (.t 11), none⟩, ⟨(some 2), .mv (.t 12), none⟩] [2])
 .ret)))),
 none⟩
theorem c266 : cFunc Tryz.prog true none [[0], [3, 0], [8, 0, 3], [2], [2]] Tryz.f266 = some m266 := by kernel_rfl

/-- letterbox/params.joined -/
def m267 : MFunc := ⟨47, 2, [.t 4, .t 5],
 (.seq
 (.ops [⟨(some 4), .mv (.c (.str [])), none⟩, ⟨(some 5), .mv (.c (.bool false)), none⟩] [1, 0])
 (.seq
 (.ops [⟨(some 6), .mv (.c (.str [])), none⟩] [1, 0, 6])
 (.seq
 (.ops [⟨(some 7), .mv (.c (.int .i64 0)), none⟩] [1, 7, 0, 6])
 (.block 0
  (.loop [1, 7, 0, 6]
   (.seq
   (.block 1
    (.seq
    (.ops [⟨(some 13), .mv (.t 1), none⟩, ⟨(some 14), .bin .add (.t 13) (.c (.str [42])), none⟩, ⟨(some 15), .mv (.t 7), none⟩, ⟨(some 16), .call (.c (.func 274 [])) [(.t 15)], none⟩, ⟨(some 17), .bin .add (.t 14) (.t 16), none⟩, ⟨(some 8), .mv (.t 17), none⟩] [0, 8, 6, 7, 1])
    (.seq
    (.ops [⟨(some 19), .mv (.t 0), none⟩, ⟨(some 20), .mv (.t 8), none⟩, ⟨(some 21), .call (.c (.func 264 [])) [(.t 19), (.t 20)], none⟩, ⟨(some 18), .mv (.t 21), none⟩, ⟨(some 22), .extract (.t 18) 0, none⟩, ⟨(some 23), .extract (.t 18) 1, none⟩, ⟨(some 9), .mv (.t 22), none⟩, ⟨(some 10), .mv (.t 23), none⟩] [10, 0, 8, 6, 7, 1, 9])
    (.seq
    (.seq
    (.ops [⟨(some 24), .mv (.t 10), none⟩, ⟨(some 25), .un .not (.t 24), none⟩] [25, 0, 8, 6, 7, 1, 9])
    (.cond (.t 25)
     (.seq
     (.ops [⟨(some 27), .mv (.t 0), none⟩, ⟨(some 28), .mv (.t 8), none⟩, ⟨(some 29), .bin .add (.t 28) (.c (.str [42])), none⟩, ⟨(some 30), .call (.c (.func 264 [])) [(.t 27), (.t 29)], none⟩, ⟨(some 26), .mv (.t 30), none⟩, ⟨(some 31), .extract (.t 26) 0, none⟩, ⟨(some 32), .extract (.t 26) 1, none⟩, ⟨(some 9), .mv (.t 31), none⟩, ⟨(some 10), .mv (.t 32), none⟩] [10, 6, 7, 9, 1, 0])
     (.seq
     (.seq
     (.ops [⟨(some 33), .mv (.t 10), none⟩, ⟨(some 34), .un .not (.t 33), none⟩] [34, 6, 7, 9, 1, 0])
     (.cond (.t 34)
      (.seq
      (.ops [⟨(some 35), .mv (.t 6), none⟩, ⟨(some 36), .mv (.t 7), none⟩, ⟨(some 37), .bin .gtr (.t 36) (.c (.int .i64 0)), none⟩, ⟨(some 4), .mv (.t 35), none⟩, ⟨(some 5), .mv (.t 37), none⟩] [4, 5])
      .ret)
      .skip))
     (.seq
     (.seq
     (.ops [⟨(some 38), .mv (.t 7), none⟩, ⟨(some 39), .bin .eql (.t 38) (.c (.int .i64 0)), none⟩] [39, 9, 6, 7, 1, 0])
     (.cond (.t 39)
      (.ops [⟨(some 40), .mv (.t 9), none⟩, ⟨(some 41), .call (.c (.func 266 [])) [(.t 40)], none⟩, ⟨(some 9), .mv (.t 41), none⟩] [9, 6, 7, 1, 0])
      .skip))
     (.ops [⟨(some 42), .mv (.t 9), none⟩, ⟨(some 43), .call (.c (.func 265 [])) [(.t 42)], none⟩, ⟨(some 9), .mv (.t 43), none⟩] [6, 9, 7, 1, 0]))))
     .skip))
    (.ops [⟨(some 44), .mv (.t 6), none⟩, ⟨(some 45), .mv (.t 9), none⟩, ⟨(some 46), .bin .add (.t 44) (.t 45), none⟩, ⟨(some 6), .mv (.t 46), none⟩] [7, 1, 0, 6])))))
   (.ops [⟨(some 11), .mv (.t 7), none⟩, ⟨(some 12), .bin .add (.t 11) (.c (.int .i64 1)), none⟩, ⟨(some 7), .mv (.t 12), none⟩] [1, 7, 0, 6]))))))),
 none⟩
theorem c267 : cFunc Tryz.prog true none [[1, 0], [1, 0, 6], [1, 7, 0, 6], [1, 7, 0, 6], [0, 8, 6, 7, 1], [10, 0, 8, 6, 7, 1, 9], [25, 0, 8, 6, 7, 1, 9], [10, 6, 7, 9, 1, 0], [34, 6, 7, 9, 1, 0], [4, 5], [39, 9, 6, 7, 1, 0], [9, 6, 7, 1, 0], [6, 9, 7, 1, 0], [7, 1, 0, 6], [1, 7, 0, 6]] Tryz.f267 = some m267 := by kernel_rfl

-- 268 strings.explode: NOT COMPILED
/-- letterbox/chars.in -/
def m270 : MFunc := ⟨16, 2, [.t 4],
 (.seq
 (.ops [⟨(some 4), .mv (.c (.bool false)), none⟩] [0, 1])
 (.seq
 (.seq
 (.ops [⟨(some 7), .mv (.t 0), none⟩, ⟨(some 8), .rangeStr (.t 7), none⟩] [8, 1])
 (.block 0
  (.loop [8, 1]
   (.seq
   (.ops [⟨(some 9), .nextStr (.t 8), none⟩, ⟨(some 10), .extract (.t 9) 0, none⟩] [10, 9, 1, 8])
   (.seq
   (.cond (.t 10)
    .skip
    (.exit 0))
   (.block 1
    (.seq
    (.ops [⟨(some 11), .extract (.t 9) 2, none⟩, ⟨(some 6), .mv (.t 11), none⟩] [6, 1, 8])
    (.seq
    (.ops [⟨(some 12), .mv (.t 6), none⟩, ⟨(some 13), .mv (.t 1), none⟩, ⟨(some 14), .conv (.int .i32) (.t 13), none⟩, ⟨(some 15), .bin .eql (.t 12) (.t 14), none⟩] [15, 8, 1])
    (.cond (.t 15)
     (.seq
     (.ops [⟨(some 4), .mv (.c (.bool true)), none⟩] [4])
     .ret)
     .skip)))))))))
 (.seq
 (.ops [⟨(some 4), .mv (.c (.bool false)), none⟩] [4])
 .ret))),
 none⟩
theorem c270 : cFunc Tryz.prog true none [[0, 1], [8, 1], [8, 1], [10, 9, 1, 8], [6, 1, 8], [15, 8, 1], [4], [4]] Tryz.f270 = some m270 := by kernel_rfl

/-- (letterbox/params.reader).quoted -/
def m271 : MFunc := ⟨67, 1, [.t 2, .t 3],
 (.seq
 (.ops [⟨(some 1), .box 295 (.t 0), none⟩, ⟨(some 2), .mv (.c (.str [])), none⟩, ⟨(some 3), .mv (.c (.bool false)), none⟩] [1])
 (.seq
 (.ops [⟨(some 4), .mv (.c .nilslice), none⟩] [1, 4])
 (.seq
 (.seq
 (.ops [⟨(some 5), .mv (.c (.int .i64 1)), none⟩] [5, 1, 4])
 (.block 0
  (.loop [5, 1, 4]
   (.seq
   (.seq
   (.ops [⟨(some 7), .mv (.t 5), none⟩, ⟨(some 8), .fieldA (.t 1) 0, none⟩, ⟨(some 9), .load none (.t 8), none⟩, ⟨(some 10), .nilCheck (.t 9), none⟩, ⟨(some 11), .fieldA (.t 10) 0, none⟩, ⟨(some 12), .load none (.t 11), none⟩, ⟨(some 13), .lenS (.t 12), none⟩, ⟨(some 14), .bin .lss (.t 7) (.t 13), none⟩] [14, 1, 5, 4])
   (.cond (.t 14)
    .skip
    (.exit 0)))
   (.seq
   (.block 1
    (.seq
    (.ops [⟨(some 17), .fieldA (.t 1) 0, none⟩, ⟨(some 18), .load none (.t 17), none⟩, ⟨(some 19), .nilCheck (.t 18), none⟩, ⟨(some 20), .fieldA (.t 19) 0, none⟩, ⟨(some 21), .load none (.t 20), none⟩, ⟨(some 22), .mv (.t 5), none⟩, ⟨(some 23), .idxStr (.t 21) (.t 22), none⟩, ⟨(some 6), .mv (.t 23), none⟩] [6, 1, 5, 4])
    (.seq
    (.ops [⟨(some 24), .mv (.t 6), none⟩] [24, 1, 5, 4, 6])
    (.block 2
     (.seq
     (.ops [⟨(some 30), .bin .eql (.t 24) (.c (.int .u8 34)), none⟩, ⟨(some 29), .mv (.t 30), none⟩] [29, 1, 5, 4, 24, 6])
     (.cond (.t 29)
      (.seq
      (.draw [⟨⟨(some 31), .fieldA (.t 1) 0, none⟩, none⟩, ⟨⟨(some 32), .load none (.t 31), none⟩, none⟩, ⟨⟨(some 33), .fieldA (.t 1) 0, none⟩, none⟩, ⟨⟨(some 34), .load none (.t 33), none⟩, none⟩, ⟨⟨(some 35), .nilCheck (.t 34), none⟩, none⟩, ⟨⟨(some 36), .fieldA (.t 35) 0, none⟩, none⟩, ⟨⟨(some 37), .load none (.t 36), none⟩, none⟩, ⟨⟨(some 38), .mv (.t 5), none⟩, none⟩, ⟨⟨(some 39), .bin .add (.t 38) (.c (.int .i64 1)), none⟩, none⟩, ⟨⟨(some 40), .sliceStr (.t 37) (some (.t 39)) none, none⟩, none⟩, ⟨⟨(some 41), .nilCheck (.t 32), none⟩, none⟩, ⟨⟨(some 42), .fieldA (.t 41) 0, none⟩, none⟩, ⟨⟨none, .store 1 (.t 42) (.t 40), none⟩, (some [12])⟩] [] [4])
      (.seq
      (.ops [⟨(some 43), .mv (.t 4), none⟩, ⟨(some 44), .conv .bytesStr (.t 43), none⟩, ⟨(some 2), .mv (.t 44), none⟩, ⟨(some 3), .mv (.c (.bool true)), none⟩] [2, 3])
      .ret))
      (.seq
      (.ops [⟨(some 46), .bin .eql (.t 24) (.c (.int .u8 92)), none⟩, ⟨(some 45), .mv (.t 46), none⟩] [45, 5, 1, 4, 6])
      (.cond (.t 45)
       (.seq
       (.ops [⟨(some 47), .mv (.t 5), none⟩, ⟨(some 48), .bin .add (.t 47) (.c (.int .i64 1)), none⟩, ⟨(some 5), .mv (.t 48), none⟩] [5, 1, 4])
       (.seq
       (.ops [⟨(some 49), .mv (.t 5), none⟩, ⟨(some 50), .fieldA (.t 1) 0, none⟩, ⟨(some 51), .load none (.t 50), none⟩, ⟨(some 52), .nilCheck (.t 51), none⟩, ⟨(some 53), .fieldA (.t 52) 0, none⟩, ⟨(some 54), .load none (.t 53), none⟩, ⟨(some 55), .lenS (.t 54), none⟩, ⟨(some 56), .bin .lss (.t 49) (.t 55), none⟩] [56, 4, 1, 5])
       (.cond (.t 56)
        (.ops [⟨(some 57), .mv (.t 4), none⟩, ⟨(some 58), .fieldA (.t 1) 0, none⟩, ⟨(some 59), .load none (.t 58), none⟩, ⟨(some 60), .nilCheck (.t 59), none⟩, ⟨(some 61), .fieldA (.t 60) 0, none⟩, ⟨(some 62), .load none (.t 61), none⟩, ⟨(some 63), .mv (.t 5), none⟩, ⟨(some 64), .idxStr (.t 62) (.t 63), none⟩, ⟨(some 65), .mkSlice 1 (.int .u8 0) 1 [(0, (.t 64))], none⟩, ⟨(some 66), .append 5 1 1 (.t 57) (.t 65), none⟩, ⟨(some 4), .mv (.t 66), none⟩] [5, 1, 4])
        .skip)))
       (.ops [⟨(some 25), .mv (.t 4), none⟩, ⟨(some 26), .mv (.t 6), none⟩, ⟨(some 27), .mkSlice 1 (.int .u8 0) 1 [(0, (.t 26))], none⟩, ⟨(some 28), .append 5 1 1 (.t 25) (.t 27), none⟩, ⟨(some 4), .mv (.t 28), none⟩] [5, 1, 4])))))))))
   (.ops [⟨(some 15), .mv (.t 5), none⟩, ⟨(some 16), .bin .add (.t 15) (.c (.int .i64 1)), none⟩, ⟨(some 5), .mv (.t 16), none⟩] [5, 1, 4]))))))
 (.seq
 (.ops [⟨(some 2), .mv (.c (.str [])), none⟩, ⟨(some 3), .mv (.c (.bool false)), none⟩] [2, 3])
 .ret)))),
 none⟩
theorem c271 : cFunc Tryz.prog true none [[1], [1, 4], [5, 1, 4], [5, 1, 4], [14, 1, 5, 4], [6, 1, 5, 4], [24, 1, 5, 4, 6], [29, 1, 5, 4, 24, 6], [4], [], [2, 3], [45, 5, 1, 4, 6], [5, 1, 4], [56, 4, 1, 5], [5, 1, 4], [5, 1, 4], [5, 1, 4], [2, 3]] Tryz.f271 = some m271 := by kernel_rfl

/-- letterbox/params.hex -/
def m272 : MFunc := ⟨25, 1, [.t 2, .t 3],
 (.seq
 (.ops [⟨(some 2), .mv (.c (.int .u8 0)), none⟩, ⟨(some 3), .mv (.c (.bool false)), none⟩] [0])
 (.seq
 (.seq
 (.ops [⟨(some 4), .mv (.t 0), none⟩, ⟨(some 5), .call (.c (.func 71 [])) [(.t 4)], none⟩, ⟨(some 0), .mv (.t 5), none⟩] [0])
 (.block 0
  (.seq
  (.ops [⟨(some 7), .mv (.t 0), none⟩, ⟨(some 8), .bin .geq (.t 7) (.c (.int .u8 48)), none⟩, ⟨(some 9), .mv (.t 8), none⟩, ⟨(some 10), .mv (.t 0), (some (9, true))⟩, ⟨(some 11), .bin .leq (.t 10) (.c (.int .u8 57)), (some (9, true))⟩, ⟨(some 12), .pick (.t 9) (.t 11) (.c (.bool false)), none⟩, ⟨(some 6), .mv (.t 12), none⟩] [6, 0])
  (.cond (.t 6)
   (.seq
   (.ops [⟨(some 13), .mv (.t 0), none⟩, ⟨(some 14), .bin .sub (.t 13) (.c (.int .u8 48)), none⟩, ⟨(some 2), .mv (.t 14), none⟩, ⟨(some 3), .mv (.c (.bool true)), none⟩] [2, 3])
   .ret)
   (.seq
   (.ops [⟨(some 16), .mv (.t 0), none⟩, ⟨(some 17), .bin .geq (.t 16) (.c (.int .u8 97)), none⟩, ⟨(some 18), .mv (.t 17), none⟩, ⟨(some 19), .mv (.t 0), (some (18, true))⟩, ⟨(some 20), .bin .leq (.t 19) (.c (.int .u8 102)), (some (18, true))⟩, ⟨(some 21), .pick (.t 18) (.t 20) (.c (.bool false)), none⟩, ⟨(some 15), .mv (.t 21), none⟩] [15, 0])
   (.cond (.t 15)
    (.seq
    (.ops [⟨(some 22), .mv (.t 0), none⟩, ⟨(some 23), .bin .sub (.t 22) (.c (.int .u8 97)), none⟩, ⟨(some 24), .bin .add (.t 23) (.c (.int .u8 10)), none⟩, ⟨(some 2), .mv (.t 24), none⟩, ⟨(some 3), .mv (.c (.bool true)), none⟩] [2, 3])
    .ret)
    .skip))))))
 (.seq
 (.ops [⟨(some 2), .mv (.c (.int .u8 0)), none⟩, ⟨(some 3), .mv (.c (.bool false)), none⟩] [2, 3])
 .ret))),
 none⟩
theorem c272 : cFunc Tryz.prog true none [[0], [0], [6, 0], [2, 3], [15, 0], [2, 3], [2, 3]] Tryz.f272 = some m272 := by kernel_rfl

/-- strings.SplitN -/
def m273 : MFunc := ⟨11, 3, [.t 6],
 (.seq
 (.ops [⟨(some 6), .mv (.c .nilslice), none⟩] [0, 1, 2])
 (.seq
 (.ops [⟨(some 7), .mv (.t 0), none⟩, ⟨(some 8), .mv (.t 1), none⟩, ⟨(some 9), .mv (.t 2), none⟩, ⟨(some 10), .call (.c (.func 257 [])) [(.t 7), (.t 8), (.c (.int .i64 0)), (.t 9)], none⟩, ⟨(some 6), .mv (.t 10), none⟩] [6])
 .ret)),
 none⟩
theorem c273 : cFunc Tryz.prog true none [[0, 1, 2], [6]] Tryz.f273 = some m273 := by kernel_rfl

/-- letterbox/chars.Digits -/
def m274 : MFunc := ⟨29, 1, [.t 2],
 (.seq
 (.ops [⟨(some 2), .mv (.c (.str [])), none⟩] [0])
 (.seq
 (.seq
 (.ops [⟨(some 6), .mv (.t 0), none⟩, ⟨(some 7), .bin .eql (.t 6) (.c (.int .i64 0)), none⟩] [7, 0])
 (.cond (.t 7)
  (.seq
  (.ops [⟨(some 2), .mv (.c (.str [48])), none⟩] [2])
  .ret)
  .skip))
 (.seq
 (.ops [⟨(some 8), .mv (.t 0), none⟩, ⟨(some 9), .bin .lss (.t 8) (.c (.int .i64 0)), none⟩, ⟨(some 3), .mv (.c (.str [])), none⟩, ⟨(some 4), .mv (.t 9), none⟩] [0, 3, 4])
 (.seq
 (.block 0
  (.loop [0, 3, 4]
   (.seq
   (.seq
   (.ops [⟨(some 10), .mv (.t 0), none⟩, ⟨(some 11), .bin .neq (.t 10) (.c (.int .i64 0)), none⟩] [11, 0, 3, 4])
   (.cond (.t 11)
    .skip
    (.exit 0)))
   (.seq
   (.block 1
    (.seq
    (.ops [⟨(some 14), .mv (.t 0), none⟩, ⟨(some 15), .bin .rem (.t 14) (.c (.int .i64 10)), none⟩, ⟨(some 5), .mv (.t 15), none⟩] [5, 3, 0, 4])
    (.ops [⟨(some 16), .mv (.t 5), none⟩, ⟨(some 17), .mv (.t 5), none⟩, ⟨(some 18), .un .neg (.t 17), none⟩, ⟨(some 19), .minmax true (.t 16) (.t 18), none⟩, ⟨(some 20), .bin .add (.c (.int .i64 48)) (.t 19), none⟩, ⟨(some 21), .conv (.int .i32) (.t 20), none⟩, ⟨(some 22), .conv .runeStr (.t 21), none⟩, ⟨(some 23), .mv (.t 3), none⟩, ⟨(some 24), .bin .add (.t 22) (.t 23), none⟩, ⟨(some 3), .mv (.t 24), none⟩] [0, 3, 4])))
   (.ops [⟨(some 12), .mv (.t 0), none⟩, ⟨(some 13), .bin .quo (.t 12) (.c (.int .i64 10)), none⟩, ⟨(some 0), .mv (.t 13), none⟩] [0, 3, 4])))))
 (.seq
 (.seq
 (.ops [⟨(some 25), .mv (.t 4), none⟩] [25, 3])
 (.cond (.t 25)
  (.ops [⟨(some 26), .mv (.t 3), none⟩, ⟨(some 27), .bin .add (.c (.str [45])) (.t 26), none⟩, ⟨(some 3), .mv (.t 27), none⟩] [3])
  .skip))
 (.seq
 (.ops [⟨(some 28), .mv (.t 3), none⟩, ⟨(some 2), .mv (.t 28), none⟩] [2])
 .ret)))))),
 none⟩
theorem c274 : cFunc Tryz.prog true none [[0], [7, 0], [2], [0, 3, 4], [0, 3, 4], [11, 0, 3, 4], [5, 3, 0, 4], [0, 3, 4], [0, 3, 4], [25, 3], [3], [2]] Tryz.f274 = some m274 := by kernel_rfl

/-- unicode/utf8.RuneCountInString -/
def m275 : MFunc := ⟨10, 1, [.t 2],
 (.seq
 (.ops [⟨(some 2), .mv (.c (.int .i64 0)), none⟩] [0, 2])
 (.seq
 (.seq
 (.ops [⟨(some 3), .mv (.t 0), none⟩, ⟨(some 4), .rangeStr (.t 3), none⟩] [4, 2])
 (.block 0
  (.loop [4, 2]
   (.seq
   (.ops [⟨(some 5), .nextStr (.t 4), none⟩, ⟨(some 6), .extract (.t 5) 0, none⟩] [6, 2, 4])
   (.seq
   (.cond (.t 6)
    .skip
    (.exit 0))
   (.block 1
    (.ops [⟨(some 7), .mv (.t 2), none⟩, ⟨(some 8), .bin .add (.t 7) (.c (.int .i64 1)), none⟩, ⟨(some 2), .mv (.t 8), none⟩] [4, 2])))))))
 (.seq
 (.ops [⟨(some 9), .mv (.t 2), none⟩, ⟨(some 2), .mv (.t 9), none⟩] [2])
 .ret))),
 none⟩
theorem c275 : cFunc Tryz.prog true none [[0, 2], [4, 2], [4, 2], [6, 2, 4], [4, 2], [2]] Tryz.f275 = some m275 := by kernel_rfl

/-- unicode/utf8.DecodeRuneInString -/
def m276 : MFunc := ⟨19, 1, [.t 2, .t 3],
 (.seq
 (.ops [⟨(some 2), .mv (.c (.int .i32 0)), none⟩, ⟨(some 3), .mv (.c (.int .i64 0)), none⟩] [0])
 (.seq
 (.seq
 (.ops [⟨(some 4), .mv (.t 0), none⟩, ⟨(some 5), .bin .neq (.t 4) (.c (.str [])), none⟩, ⟨(some 6), .mv (.t 5), none⟩, ⟨(some 7), .mv (.t 0), (some (6, true))⟩, ⟨(some 8), .idxStr (.t 7) (.c (.int .i64 0)), (some (6, true))⟩, ⟨(some 9), .bin .lss (.t 8) (.c (.int .u8 128)), (some (6, true))⟩, ⟨(some 10), .pick (.t 6) (.t 9) (.c (.bool false)), none⟩] [10, 0])
 (.cond (.t 10)
  (.seq
  (.ops [⟨(some 11), .mv (.t 0), none⟩, ⟨(some 12), .idxStr (.t 11) (.c (.int .i64 0)), none⟩, ⟨(some 13), .conv (.int .i32) (.t 12), none⟩, ⟨(some 2), .mv (.t 13), none⟩, ⟨(some 3), .mv (.c (.int .i64 1)), none⟩] [2, 3])
  .ret)
  (.ops [⟨(some 15), .mv (.t 0), none⟩, ⟨(some 16), .call (.c (.func 278 [])) [(.t 15)], none⟩, ⟨(some 14), .mv (.t 16), none⟩, ⟨(some 17), .extract (.t 14) 0, none⟩, ⟨(some 18), .extract (.t 14) 1, none⟩, ⟨(some 2), .mv (.t 17), none⟩, ⟨(some 3), .mv (.t 18), none⟩] [2, 3])))
 .ret)),
 none⟩
theorem c276 : cFunc Tryz.prog true none [[0], [10, 0], [2, 3], [2, 3]] Tryz.f276 = some m276 := by kernel_rfl

/-- unicode/utf8.decodeRuneInStringSlow -/
def m278 : MFunc := ⟨117, 1, [.t 2, .t 3],
 (.seq
 (.ops [⟨(some 2), .mv (.c (.int .i32 0)), none⟩, ⟨(some 3), .mv (.c (.int .i64 0)), none⟩] [0])
 (.seq
 (.ops [⟨(some 13), .mv (.t 0), none⟩, ⟨(some 14), .lenS (.t 13), none⟩, ⟨(some 4), .mv (.t 14), none⟩] [4, 0])
 (.seq
 (.seq
 (.ops [⟨(some 15), .mv (.t 4), none⟩, ⟨(some 16), .bin .lss (.t 15) (.c (.int .i64 1)), none⟩] [16, 0, 4])
 (.cond (.t 16)
  (.seq
  (.ops [⟨(some 2), .mv (.c (.int .i32 65533)), none⟩, ⟨(some 3), .mv (.c (.int .i64 0)), none⟩] [2, 3])
  .ret)
  .skip))
 (.seq
 (.ops [⟨(some 17), .mv (.t 0), none⟩, ⟨(some 18), .idxStr (.t 17) (.c (.int .i64 0)), none⟩, ⟨(some 5), .mv (.t 18), none⟩] [5, 0, 4])
 (.seq
 (.ops [⟨(some 19), .mv (.t 5), none⟩, ⟨(some 20), .idxArrA 256 1 (.g 2) (.t 19), none⟩, ⟨(some 21), .load none (.t 20), none⟩, ⟨(some 6), .mv (.t 21), none⟩] [6, 0, 4, 5])
 (.seq
 (.seq
 (.ops [⟨(some 22), .mv (.t 6), none⟩, ⟨(some 23), .bin .geq (.t 22) (.c (.int .u8 240)), none⟩] [23, 6, 0, 4, 5])
 (.cond (.t 23)
  (.seq
  (.ops [⟨(some 24), .mv (.t 6), none⟩, ⟨(some 25), .conv (.int .i32) (.t 24), none⟩, ⟨(some 26), .bin .shl (.t 25) (.c (.int .u64 31)), none⟩, ⟨(some 27), .bin .shr (.t 26) (.c (.int .u64 31)), none⟩, ⟨(some 7), .mv (.t 27), none⟩] [0, 7])
  (.seq
  (.ops [⟨(some 28), .mv (.t 0), none⟩, ⟨(some 29), .idxStr (.t 28) (.c (.int .i64 0)), none⟩, ⟨(some 30), .conv (.int .i32) (.t 29), none⟩, ⟨(some 31), .mv (.t 7), none⟩, ⟨(some 32), .bin .andNot (.t 30) (.t 31), none⟩, ⟨(some 33), .mv (.t 7), none⟩, ⟨(some 34), .bin .and (.c (.int .i32 65533)) (.t 33), none⟩, ⟨(some 35), .bin .or (.t 32) (.t 34), none⟩, ⟨(some 2), .mv (.t 35), none⟩, ⟨(some 3), .mv (.c (.int .i64 1)), none⟩] [2, 3])
  .ret))
  .skip))
 (.seq
 (.ops [⟨(some 36), .mv (.t 6), none⟩, ⟨(some 37), .bin .and (.t 36) (.c (.int .u8 7)), none⟩, ⟨(some 38), .conv (.int .i64) (.t 37), none⟩, ⟨(some 8), .mv (.t 38), none⟩] [6, 4, 8, 0, 5])
 (.seq
 (.ops [⟨(some 39), .mv (.t 6), none⟩, ⟨(some 40), .bin .shr (.t 39) (.c (.int .u64 4)), none⟩, ⟨(some 41), .idxArrA 16 2 (.g 3) (.t 40), none⟩, ⟨(some 42), .load (some 2) (.t 41), none⟩, ⟨(some 9), .alloc 263 [(.int .u8 0), (.int .u8 0)], none⟩, ⟨none, .store 2 (.t 9) (.t 42), none⟩] [4, 8, 0, 9, 5])
 (.seq
 (.seq
 (.ops [⟨(some 43), .mv (.t 4), none⟩, ⟨(some 44), .mv (.t 8), none⟩, ⟨(some 45), .bin .lss (.t 43) (.t 44), none⟩] [45, 0, 9, 8, 5])
 (.cond (.t 45)
  (.seq
  (.ops [⟨(some 2), .mv (.c (.int .i32 65533)), none⟩, ⟨(some 3), .mv (.c (.int .i64 1)), none⟩] [2, 3])
  .ret)
  .skip))
 (.seq
 (.ops [⟨(some 46), .mv (.t 0), none⟩, ⟨(some 47), .idxStr (.t 46) (.c (.int .i64 1)), none⟩, ⟨(some 10), .mv (.t 47), none⟩] [10, 9, 8, 5, 0])
 (.seq
 (.seq
 (.ops [⟨(some 48), .mv (.t 10), none⟩, ⟨(some 49), .fieldA (.t 9) 0, none⟩, ⟨(some 50), .load none (.t 49), none⟩, ⟨(some 51), .bin .lss (.t 48) (.t 50), none⟩, ⟨(some 52), .mv (.t 51), none⟩, ⟨(some 53), .fieldA (.t 9) 1, (some (52, false))⟩, ⟨(some 54), .load none (.t 53), (some (52, false))⟩, ⟨(some 55), .mv (.t 10), (some (52, false))⟩, ⟨(some 56), .bin .lss (.t 54) (.t 55), (some (52, false))⟩, ⟨(some 57), .pick (.t 52) (.c (.bool true)) (.t 56), none⟩] [57, 8, 5, 10, 0])
 (.cond (.t 57)
  (.seq
  (.ops [⟨(some 2), .mv (.c (.int .i32 65533)), none⟩, ⟨(some 3), .mv (.c (.int .i64 1)), none⟩] [2, 3])
  .ret)
  .skip))
 (.seq
 (.seq
 (.ops [⟨(some 58), .mv (.t 8), none⟩, ⟨(some 59), .bin .leq (.t 58) (.c (.int .i64 2)), none⟩] [59, 5, 10, 0, 8])
 (.cond (.t 59)
  (.seq
  (.ops [⟨(some 60), .mv (.t 5), none⟩, ⟨(some 61), .bin .and (.t 60) (.c (.int .u8 31)), none⟩, ⟨(some 62), .conv (.int .i32) (.t 61), none⟩, ⟨(some 63), .bin .shl (.t 62) (.c (.int .u64 6)), none⟩, ⟨(some 64), .mv (.t 10), none⟩, ⟨(some 65), .bin .and (.t 64) (.c (.int .u8 63)), none⟩, ⟨(some 66), .conv (.int .i32) (.t 65), none⟩, ⟨(some 67), .bin .or (.t 63) (.t 66), none⟩, ⟨(some 2), .mv (.t 67), none⟩, ⟨(some 3), .mv (.c (.int .i64 2)), none⟩] [2, 3])
  .ret)
  .skip))
 (.seq
 (.ops [⟨(some 68), .mv (.t 0), none⟩, ⟨(some 69), .idxStr (.t 68) (.c (.int .i64 2)), none⟩, ⟨(some 11), .mv (.t 69), none⟩] [11, 8, 5, 10, 0])
 (.seq
 (.seq
 (.ops [⟨(some 70), .mv (.t 11), none⟩, ⟨(some 71), .bin .lss (.t 70) (.c (.int .u8 128)), none⟩, ⟨(some 72), .mv (.t 71), none⟩, ⟨(some 73), .mv (.t 11), (some (72, false))⟩, ⟨(some 74), .bin .lss (.c (.int .u8 191)) (.t 73), (some (72, false))⟩, ⟨(some 75), .pick (.t 72) (.c (.bool true)) (.t 74), none⟩] [75, 8, 5, 10, 11, 0])
 (.cond (.t 75)
  (.seq
  (.ops [⟨(some 2), .mv (.c (.int .i32 65533)), none⟩, ⟨(some 3), .mv (.c (.int .i64 1)), none⟩] [2, 3])
  .ret)
  .skip))
 (.seq
 (.seq
 (.ops [⟨(some 76), .mv (.t 8), none⟩, ⟨(some 77), .bin .leq (.t 76) (.c (.int .i64 3)), none⟩] [77, 5, 10, 11, 0])
 (.cond (.t 77)
  (.seq
  (.ops [⟨(some 78), .mv (.t 5), none⟩, ⟨(some 79), .bin .and (.t 78) (.c (.int .u8 15)), none⟩, ⟨(some 80), .conv (.int .i32) (.t 79), none⟩, ⟨(some 81), .bin .shl (.t 80) (.c (.int .u64 12)), none⟩, ⟨(some 82), .mv (.t 10), none⟩, ⟨(some 83), .bin .and (.t 82) (.c (.int .u8 63)), none⟩, ⟨(some 84), .conv (.int .i32) (.t 83), none⟩, ⟨(some 85), .bin .shl (.t 84) (.c (.int .u64 6)), none⟩, ⟨(some 86), .bin .or (.t 81) (.t 85), none⟩, ⟨(some 87), .mv (.t 11), none⟩, ⟨(some 88), .bin .and (.t 87) (.c (.int .u8 63)), none⟩, ⟨(some 89), .conv (.int .i32) (.t 88), none⟩, ⟨(some 90), .bin .or (.t 86) (.t 89), none⟩, ⟨(some 2), .mv (.t 90), none⟩, ⟨(some 3), .mv (.c (.int .i64 3)), none⟩] [2, 3])
  .ret)
  .skip))
 (.seq
 (.ops [⟨(some 91), .mv (.t 0), none⟩, ⟨(some 92), .idxStr (.t 91) (.c (.int .i64 3)), none⟩, ⟨(some 12), .mv (.t 92), none⟩] [12, 5, 10, 11])
 (.seq
 (.seq
 (.ops [⟨(some 93), .mv (.t 12), none⟩, ⟨(some 94), .bin .lss (.t 93) (.c (.int .u8 128)), none⟩, ⟨(some 95), .mv (.t 94), none⟩, ⟨(some 96), .mv (.t 12), (some (95, false))⟩, ⟨(some 97), .bin .lss (.c (.int .u8 191)) (.t 96), (some (95, false))⟩, ⟨(some 98), .pick (.t 95) (.c (.bool true)) (.t 97), none⟩] [98, 5, 10, 11, 12])
 (.cond (.t 98)
  (.seq
  (.ops [⟨(some 2), .mv (.c (.int .i32 65533)), none⟩, ⟨(some 3), .mv (.c (.int .i64 1)), none⟩] [2, 3])
  .ret)
  .skip))
 (.seq
 (.ops [⟨(some 99), .mv (.t 5), none⟩, ⟨(some 100), .bin .and (.t 99) (.c (.int .u8 7)), none⟩, ⟨(some 101), .conv (.int .i32) (.t 100), none⟩, ⟨(some 102), .bin .shl (.t 101) (.c (.int .u64 18)), none⟩, ⟨(some 103), .mv (.t 10), none⟩, ⟨(some 104), .bin .and (.t 103) (.c (.int .u8 63)), none⟩, ⟨(some 105), .conv (.int .i32) (.t 104), none⟩, ⟨(some 106), .bin .shl (.t 105) (.c (.int .u64 12)), none⟩, ⟨(some 107), .bin .or (.t 102) (.t 106), none⟩, ⟨(some 108), .mv (.t 11), none⟩, ⟨(some 109), .bin .and (.t 108) (.c (.int .u8 63)), none⟩, ⟨(some 110), .conv (.int .i32) (.t 109), none⟩, ⟨(some 111), .bin .shl (.t 110) (.c (.int .u64 6)), none⟩, ⟨(some 112), .bin .or (.t 107) (.t 111), none⟩, ⟨(some 113), .mv (.t 12), none⟩, ⟨(some 114), .bin .and (.t 113) (.c (.int .u8 63)), none⟩, ⟨(some 115), .conv (.int .i32) (.t 114), none⟩, ⟨(some 116), .bin .or (.t 112) (.t 115), none⟩, ⟨(some 2), .mv (.t 116), none⟩, ⟨(some 3), .mv (.c (.int .i64 4)), none⟩] [2, 3])
 .ret)))))))))))))))))),
 none⟩
theorem c278 : cFunc Tryz.prog true none [[0], [4, 0], [16, 0, 4], [2, 3], [5, 0, 4], [6, 0, 4, 5], [23, 6, 0, 4, 5], [0, 7], [2, 3], [6, 4, 8, 0, 5], [4, 8, 0, 9, 5], [45, 0, 9, 8, 5], [2, 3], [10, 9, 8, 5, 0], [57, 8, 5, 10, 0], [2, 3], [59, 5, 10, 0, 8], [2, 3], [11, 8, 5, 10, 0], [75, 8, 5, 10, 11, 0], [2, 3], [77, 5, 10, 11, 0], [2, 3], [12, 5, 10, 11], [98, 5, 10, 11, 12], [2, 3], [2, 3]] Tryz.f278 = some m278 := by kernel_rfl
end Go.Proofs.YtnnclgadfbaldaaGreatDoor
