/-
  The functions of the given program as the evaluator has them.
-/
import Derived.Test.YtnnclgadfbaldaaGreatDoorAvD
import Derived.KernelRfl
import Derived.Test.YtnnclgadfbaldaaGreatDoorProg
namespace Go.Proofs.YtnnclgadfbaldaaGreatDoor
open Go.Av

/-- letterbox/letterboxlaw23.SearchFlags -/
def m6 : MFunc := ⟨92, 2, [.t 4],
 (.seq
 (.ops [⟨(some 4), .mv (.c (.bool false)), none⟩] [1, 0])
 (.seq
 (.ops [⟨(some 16), .call (.c (.func 8 [])) [], none⟩, ⟨(some 5), .mv (.t 16), none⟩] [5, 1, 0])
 (.seq
 (.seq
 (.ops [⟨(some 17), .mv (.t 5), none⟩, ⟨(some 18), .un .not (.t 17), none⟩] [18, 1, 0])
 (.cond (.t 18)
  (.seq
  (.ops [⟨(some 4), .mv (.c (.bool false)), none⟩] [4])
  .ret)
  .skip))
 (.seq
 (.ops [⟨(some 19), .mkSlice 1 (.str []) 5 [(0, (.c (.str [97, 110, 115, 119, 101, 114, 101, 100]))), (1, (.c (.str [100, 101, 108, 101, 116, 101, 100]))), (2, (.c (.str [100, 114, 97, 102, 116]))), (3, (.c (.str [102, 108, 97, 103, 103, 101, 100]))), (4, (.c (.str [115, 101, 101, 110])))], none⟩, ⟨(some 6), .mv (.t 19), none⟩] [1, 0, 6])
 (.seq
 (.ops [⟨(some 20), .mkSlice 1 (.str []) 5 [(0, (.c (.str [92, 65, 110, 115, 119, 101, 114, 101, 100]))), (1, (.c (.str [92, 68, 69, 76, 69, 84, 69, 68]))), (2, (.c (.str [92, 100, 114, 97, 102, 116]))), (3, (.c (.str [92, 70, 108, 97, 103, 103, 101, 100]))), (4, (.c (.str [92, 83, 101, 101, 110])))], none⟩, ⟨(some 7), .mv (.t 20), none⟩] [1, 7, 0, 6])
 (.seq
 (.ops [⟨(some 21), .build [(.int .i64 0), (.int .i64 0), .nilslice, (.int .i64 0), .nilslice] [(0, 1, (.c (.int .i64 1))), (1, 1, (.c (.int .i64 1)))], none⟩, ⟨(some 8), .alloc 45 [(.int .i64 0), (.int .i64 0), .nilslice, (.int .i64 0), .nilslice], none⟩, ⟨none, .store 5 (.t 8) (.t 21), none⟩] [1, 8, 7, 0, 6])
 (.seq
 (.seq
 (.ops [⟨(some 9), .mv (.c (.int .i64 0)), none⟩] [9, 1, 8, 7, 0, 6])
 (.block 0
  (.loop [9, 1, 8, 7, 0, 6]
   (.seq
   (.seq
   (.ops [⟨(some 22), .mv (.t 9), none⟩, ⟨(some 23), .bin .lss (.t 22) (.c (.int .i64 5)), none⟩] [23, 1, 9, 8, 7, 0, 6])
   (.cond (.t 23)
    .skip
    (.exit 0)))
   (.seq
   (.block 1
    (.seq
    (.ops [⟨(some 26), .mv (.t 1), none⟩, ⟨(some 27), .mv (.t 9), none⟩, ⟨(some 28), .conv (.int .u64) (.t 27), none⟩, ⟨(some 29), .bin .shr (.t 26) (.t 28), none⟩, ⟨(some 30), .bin .and (.t 29) (.c (.int .u8 1)), none⟩, ⟨(some 31), .bin .eql (.t 30) (.c (.int .u8 1)), none⟩] [31, 8, 7, 9, 1, 0, 6])
    (.cond (.t 31)
     (.draw [⟨⟨(some 32), .fieldA (.t 8) 2, none⟩, none⟩, ⟨⟨(some 33), .load none (.t 32), none⟩, none⟩, ⟨⟨(some 34), .mv (.t 7), none⟩, none⟩, ⟨⟨(some 35), .mv (.t 9), none⟩, none⟩, ⟨⟨(some 36), .idxA 1 (.t 34) (.t 35), none⟩, none⟩, ⟨⟨(some 37), .load none (.t 36), none⟩, none⟩, ⟨⟨(some 38), .mkSlice 1 (.str []) 1 [(0, (.t 37))], none⟩, none⟩, ⟨⟨(some 39), .append 9 1 16 (.t 33) (.t 38), none⟩, (some [7])⟩, ⟨⟨(some 40), .fieldA (.t 8) 2, none⟩, none⟩, ⟨⟨none, .store 1 (.t 40) (.t 39), none⟩, (some [7, 9])⟩] [] [9, 1, 8, 7, 0, 6])
     .skip)))
   (.ops [⟨(some 24), .mv (.t 9), none⟩, ⟨(some 25), .bin .add (.t 24) (.c (.int .i64 1)), none⟩, ⟨(some 9), .mv (.t 25), none⟩] [9, 1, 8, 7, 0, 6]))))))
 (.seq
 (.ops [⟨(some 41), .mv (.t 0), none⟩, ⟨(some 42), .conv (.int .i64) (.t 41), none⟩, ⟨(some 43), .bin .rem (.t 42) (.c (.int .i64 5)), none⟩, ⟨(some 10), .mv (.t 43), none⟩] [1, 10, 6, 8])
 (.seq
 (.ops [⟨(some 44), .mv (.t 1), none⟩, ⟨(some 45), .mv (.t 10), none⟩, ⟨(some 46), .conv (.int .u64) (.t 45), none⟩, ⟨(some 47), .bin .shr (.t 44) (.t 46), none⟩, ⟨(some 48), .bin .and (.t 47) (.c (.int .u8 1)), none⟩, ⟨(some 49), .bin .eql (.t 48) (.c (.int .u8 1)), none⟩, ⟨(some 11), .mv (.t 49), none⟩] [6, 10, 8, 11])
 (.seq
 (.ops [⟨(some 51), .mv (.t 6), none⟩, ⟨(some 52), .mv (.t 10), none⟩, ⟨(some 53), .idxA 1 (.t 51) (.t 52), none⟩, ⟨(some 54), .load none (.t 53), none⟩, ⟨(some 55), .build [(.int .i64 0), (.str [])] [(0, 1, (.c (.int .i64 1))), (1, 1, (.t 54))], none⟩, ⟨(some 56), .mkSlice 2 (.agg [(.int .i64 0), (.str [])]) 1 [(0, (.t 55))], none⟩, ⟨(some 57), .call (.c (.func 9 [])) [(.t 56), (.c (.str []))], none⟩, ⟨(some 50), .mv (.t 57), none⟩, ⟨(some 58), .extract (.t 50) 0, none⟩, ⟨(some 59), .extract (.t 50) 1, none⟩, ⟨(some 12), .alloc 30 [(.str []), (.str []), (.str []), (.int .i64 0), .nilslice], none⟩, ⟨none, .store 5 (.t 12) (.t 58), none⟩, ⟨(some 13), .mv (.t 59), none⟩] [6, 10, 13, 8, 12, 11])
 (.seq
 (.ops [⟨(some 61), .mv (.t 6), none⟩, ⟨(some 62), .mv (.t 10), none⟩, ⟨(some 63), .idxA 1 (.t 61) (.t 62), none⟩, ⟨(some 64), .load none (.t 63), none⟩, ⟨(some 65), .bin .add (.c (.str [85, 78])) (.t 64), none⟩, ⟨(some 66), .build [(.int .i64 0), (.str [])] [(0, 1, (.c (.int .i64 1))), (1, 1, (.t 65))], none⟩, ⟨(some 67), .mkSlice 2 (.agg [(.int .i64 0), (.str [])]) 1 [(0, (.t 66))], none⟩, ⟨(some 68), .call (.c (.func 9 [])) [(.t 67), (.c (.str [117, 116, 102, 45, 56]))], none⟩, ⟨(some 60), .mv (.t 68), none⟩, ⟨(some 69), .extract (.t 60) 0, none⟩, ⟨(some 70), .extract (.t 60) 1, none⟩, ⟨(some 14), .alloc 30 [(.str []), (.str []), (.str []), (.int .i64 0), .nilslice], none⟩, ⟨none, .store 5 (.t 14) (.t 69), none⟩, ⟨(some 15), .mv (.t 70), none⟩] [13, 15, 8, 12, 11, 14])
 (.seq
 (.ops [⟨(some 71), .mv (.t 13), none⟩, ⟨(some 72), .bin .eql (.t 71) (.c (.int .i64 0)), none⟩, ⟨(some 73), .mv (.t 72), none⟩, ⟨(some 74), .mv (.t 15), (some (73, true))⟩, ⟨(some 75), .bin .eql (.t 74) (.c (.int .i64 0)), (some (73, true))⟩, ⟨(some 76), .pick (.t 73) (.t 75) (.c (.bool false)), none⟩, ⟨(some 77), .mv (.t 76), none⟩, ⟨(some 78), .load (some 5) (.t 8), (some (77, true))⟩, ⟨(some 79), .load (some 5) (.t 12), (some (77, true))⟩, ⟨(some 80), .call (.c (.func 14 [])) [(.t 78), (.t 79), (.c (.int .i64 1)), (.c (.int .i64 1))], (some (77, true))⟩, ⟨(some 81), .mv (.t 11), (some (77, true))⟩, ⟨(some 82), .eqp false 6 (.t 80) (.t 81), (some (77, true))⟩, ⟨(some 83), .pick (.t 77) (.t 82) (.c (.bool false)), none⟩, ⟨(some 84), .mv (.t 83), none⟩, ⟨(some 85), .load (some 5) (.t 8), (some (84, true))⟩, ⟨(some 86), .load (some 5) (.t 14), (some (84, true))⟩, ⟨(some 87), .call (.c (.func 14 [])) [(.t 85), (.t 86), (.c (.int .i64 1)), (.c (.int .i64 1))], (some (84, true))⟩, ⟨(some 88), .mv (.t 11), (some (84, true))⟩, ⟨(some 89), .un .not (.t 88), (some (84, true))⟩, ⟨(some 90), .eqp false 6 (.t 87) (.t 89), (some (84, true))⟩, ⟨(some 91), .pick (.t 84) (.t 90) (.c (.bool false)), none⟩, ⟨(some 4), .mv (.t 91), none⟩] [4])
 .ret)))))))))))),
 none⟩
theorem c6 : cFunc Tryz.prog true none [[1, 0], [5, 1, 0], [18, 1, 0], [4], [1, 0, 6], [1, 7, 0, 6], [1, 8, 7, 0, 6], [9, 1, 8, 7, 0, 6], [9, 1, 8, 7, 0, 6], [23, 1, 9, 8, 7, 0, 6], [31, 8, 7, 9, 1, 0, 6], [9, 1, 8, 7, 0, 6], [], [9, 1, 8, 7, 0, 6], [1, 10, 6, 8], [6, 10, 8, 11], [6, 10, 13, 8, 12, 11], [13, 15, 8, 12, 11, 14], [4]] Tryz.f6 = some m6 := by kernel_rfl

/-- letterbox/letterboxlaw23.awake -/
def m8 : MFunc := ⟨55, 0, [.t 0],
 (.seq
 (.ops [⟨(some 0), .mv (.c (.bool false)), none⟩] [])
 (.seq
 (.ops [⟨(some 9), .mkSliceM 5 1 (.int .u8 0) 28 [(0, (.c (.int .u8 110))), (1, (.c (.int .u8 111))), (2, (.c (.int .u8 116))), (3, (.c (.int .u8 32))), (4, (.c (.int .u8 115))), (5, (.c (.int .u8 101))), (6, (.c (.int .u8 101))), (7, (.c (.int .u8 110))), (8, (.c (.int .u8 32))), (9, (.c (.int .u8 111))), (10, (.c (.int .u8 114))), (11, (.c (.int .u8 32))), (12, (.c (.int .u8 102))), (13, (.c (.int .u8 114))), (14, (.c (.int .u8 111))), (15, (.c (.int .u8 109))), (16, (.c (.int .u8 32))), (17, (.c (.int .u8 120))), (18, (.c (.int .u8 32))), (19, (.c (.int .u8 115))), (20, (.c (.int .u8 117))), (21, (.c (.int .u8 98))), (22, (.c (.int .u8 106))), (23, (.c (.int .u8 101))), (24, (.c (.int .u8 99))), (25, (.c (.int .u8 116))), (26, (.c (.int .u8 32))), (27, (.c (.int .u8 121)))], none⟩, ⟨(some 10), .conv .mark (.t 9), none⟩, ⟨(some 11), .call (.c (.func 17 [])) [(.t 10)], none⟩, ⟨(some 8), .mv (.t 11), none⟩, ⟨(some 12), .extract (.t 8) 0, none⟩, ⟨(some 13), .extract (.t 8) 1, none⟩, ⟨(some 1), .mv (.t 12), none⟩, ⟨(some 2), .mv (.t 13), none⟩] [1])
 (.seq
 (.ops [⟨(some 15), .mv (.t 1), none⟩, ⟨(some 16), .call (.c (.func 9 [])) [(.t 15), (.c (.str []))], none⟩, ⟨(some 14), .mv (.t 16), none⟩, ⟨(some 17), .extract (.t 14) 0, none⟩, ⟨(some 18), .extract (.t 14) 1, none⟩, ⟨(some 3), .alloc 30 [(.str []), (.str []), (.str []), (.int .i64 0), .nilslice], none⟩, ⟨none, .store 5 (.t 3) (.t 17), none⟩, ⟨(some 4), .mv (.t 18), none⟩] [1, 4, 3])
 (.seq
 (.ops [⟨(some 19), .mkSliceM 5 1 (.int .u8 0) 13 [(0, (.c (.int .u8 70))), (1, (.c (.int .u8 114))), (2, (.c (.int .u8 111))), (3, (.c (.int .u8 109))), (4, (.c (.int .u8 58))), (5, (.c (.int .u8 32))), (6, (.c (.int .u8 97))), (7, (.c (.int .u8 88))), (8, (.c (.int .u8 98))), (9, (.c (.int .u8 13))), (10, (.c (.int .u8 10))), (11, (.c (.int .u8 13))), (12, (.c (.int .u8 10)))], none⟩, ⟨(some 20), .conv .mark (.t 19), none⟩, ⟨(some 21), .build [(.int .i64 0), (.int .i64 0), .nilslice, (.int .i64 0), .nilslice] [(0, 1, (.c (.int .i64 1))), (1, 1, (.c (.int .i64 5))), (4, 1, (.t 20))], none⟩, ⟨(some 5), .alloc 45 [(.int .i64 0), (.int .i64 0), .nilslice, (.int .i64 0), .nilslice], none⟩, ⟨none, .store 5 (.t 5) (.t 21), none⟩] [1, 4, 3, 5])
 (.seq
 (.ops [⟨(some 23), .mv (.t 1), none⟩, ⟨(some 24), .call (.c (.func 9 [])) [(.t 23), (.c (.str [107, 111, 105, 56, 45, 114]))], none⟩, ⟨(some 22), .mv (.t 24), none⟩, ⟨(some 25), .extract (.t 22) 0, none⟩, ⟨(some 26), .extract (.t 22) 1, none⟩, ⟨(some 6), .alloc 30 [(.str []), (.str []), (.str []), (.int .i64 0), .nilslice], none⟩, ⟨none, .store 5 (.t 6) (.t 25), none⟩, ⟨(some 7), .mv (.t 26), none⟩] [4, 3, 5, 7])
 (.seq
 (.ops [⟨(some 27), .mv (.t 4), none⟩, ⟨(some 28), .bin .eql (.t 27) (.c (.int .i64 0)), none⟩, ⟨(some 29), .mv (.t 28), none⟩, ⟨(some 30), .fieldA (.t 3) 0, (some (29, true))⟩, ⟨(some 31), .load none (.t 30), (some (29, true))⟩, ⟨(some 32), .bin .eql (.t 31) (.c (.str [65, 78, 68])), (some (29, true))⟩, ⟨(some 33), .pick (.t 29) (.t 32) (.c (.bool false)), none⟩, ⟨(some 34), .mv (.t 33), none⟩, ⟨(some 35), .fieldA (.t 3) 4, (some (34, true))⟩, ⟨(some 36), .load none (.t 35), (some (34, true))⟩, ⟨(some 37), .lenL (.t 36), (some (34, true))⟩, ⟨(some 38), .bin .eql (.t 37) (.c (.int .i64 2)), (some (34, true))⟩, ⟨(some 39), .pick (.t 34) (.t 38) (.c (.bool false)), none⟩, ⟨(some 40), .mv (.t 39), none⟩, ⟨(some 41), .load (some 5) (.t 5), (some (40, true))⟩, ⟨(some 42), .load (some 5) (.t 3), (some (40, true))⟩, ⟨(some 43), .call (.c (.func 14 [])) [(.t 41), (.t 42), (.c (.int .i64 1)), (.c (.int .i64 5))], (some (40, true))⟩, ⟨(some 44), .pick (.t 40) (.t 43) (.c (.bool false)), none⟩, ⟨(some 45), .mv (.t 44), none⟩, ⟨(some 46), .mv (.t 7), (some (45, true))⟩, ⟨(some 47), .bin .eql (.t 46) (.c (.int .i64 21)), (some (45, true))⟩, ⟨(some 48), .pick (.t 45) (.t 47) (.c (.bool false)), none⟩, ⟨(some 49), .mv (.t 48), none⟩, ⟨(some 50), .load (some 5) (.t 5), (some (49, true))⟩, ⟨(some 51), .build [(.str []), (.str []), (.str []), (.int .i64 0), .nilslice] [(0, 1, (.c (.str [83, 69, 69, 78])))], (some (49, true))⟩, ⟨(some 52), .call (.c (.func 14 [])) [(.t 50), (.t 51), (.c (.int .i64 1)), (.c (.int .i64 5))], (some (49, true))⟩, ⟨(some 53), .un .not (.t 52), (some (49, true))⟩, ⟨(some 54), .pick (.t 49) (.t 53) (.c (.bool false)), none⟩, ⟨(some 0), .mv (.t 54), none⟩] [0])
 .ret)))))),
 none⟩
theorem c8 : cFunc Tryz.prog true none [[], [1], [1, 4, 3], [1, 4, 3, 5], [4, 3, 5, 7], [0]] Tryz.f8 = some m8 := by kernel_rfl

/-- letterbox/search.Parse -/
def m9 : MFunc := ⟨47, 2, [.cell 4 (some 5), .t 5],
 (.seq
 (.ops [⟨(some 4), .alloc 30 [(.str []), (.str []), (.str []), (.int .i64 0), .nilslice], none⟩, ⟨(some 5), .mv (.c (.int .i64 0)), none⟩] [1, 4, 0])
 (.seq
 (.seq
 (.ops [⟨(some 8), .mv (.t 1), none⟩, ⟨(some 9), .bin .eql (.t 8) (.c (.str [])), none⟩] [9, 4, 0, 1])
 (.cond (.t 9)
  (.ops [⟨(some 1), .mv (.c (.str [117, 115, 45, 97, 115, 99, 105, 105])), none⟩] [1, 4, 0])
  .skip))
 (.seq
 (.seq
 (.ops [⟨(some 10), .mv (.t 1), none⟩, ⟨(some 11), .call (.c (.func 18 [])) [(.t 10)], none⟩, ⟨(some 12), .un .not (.t 11), none⟩] [12, 4, 0, 1])
 (.cond (.t 12)
  (.seq
  (.ops [⟨(some 13), .build [(.str []), (.str []), (.str []), (.int .i64 0), .nilslice] [], none⟩, ⟨none, .store 5 (.t 4) (.t 13), none⟩, ⟨(some 5), .mv (.c (.int .i64 21)), none⟩] [4, 5])
  .ret)
  .skip))
 (.seq
 (.ops [⟨(some 14), .mv (.t 0), none⟩, ⟨(some 15), .call (.c (.func 19 [])) [(.t 14)], none⟩, ⟨(some 16), .mv (.t 1), none⟩, ⟨(some 17), .build [.nilslice, (.str []), (.int .i64 0)] [(0, 1, (.t 15)), (1, 1, (.t 16))], none⟩, ⟨(some 18), .box 62 (.t 17), none⟩, ⟨(some 6), .mv (.t 18), none⟩] [6, 4])
 (.seq
 (.ops [⟨(some 19), .mv (.t 6), none⟩, ⟨(some 20), .call (.c (.func 20 [])) [(.t 19), (.c (.int .i64 1))], none⟩, ⟨(some 7), .alloc 30 [(.str []), (.str []), (.str []), (.int .i64 0), .nilslice], none⟩, ⟨none, .store 5 (.t 7) (.t 20), none⟩] [6, 4, 7])
 (.seq
 (.seq
 (.ops [⟨(some 21), .mv (.t 6), none⟩, ⟨(some 22), .nilCheck (.t 21), none⟩, ⟨(some 23), .fieldA (.t 22) 2, none⟩, ⟨(some 24), .load none (.t 23), none⟩, ⟨(some 25), .bin .eql (.t 24) (.c (.int .i64 0)), none⟩, ⟨(some 26), .mv (.t 25), none⟩, ⟨(some 27), .mv (.t 6), (some (26, true))⟩, ⟨(some 28), .nilCheck (.t 27), (some (26, true))⟩, ⟨(some 29), .fieldA (.t 28) 0, (some (26, true))⟩, ⟨(some 30), .load none (.t 29), (some (26, true))⟩, ⟨(some 31), .lenL (.t 30), (some (26, true))⟩, ⟨(some 32), .bin .gtr (.t 31) (.c (.int .i64 0)), (some (26, true))⟩, ⟨(some 33), .pick (.t 26) (.t 32) (.c (.bool false)), none⟩] [33, 6, 4, 7])
 (.cond (.t 33)
  (.ops [⟨(some 34), .mv (.t 6), none⟩, ⟨(some 35), .call (.c (.func 21 [])) [(.t 34), (.c (.int .i64 50))], none⟩] [6, 4, 7])
  .skip))
 (.seq
 (.seq
 (.ops [⟨(some 36), .mv (.t 6), none⟩, ⟨(some 37), .nilCheck (.t 36), none⟩, ⟨(some 38), .fieldA (.t 37) 2, none⟩, ⟨(some 39), .load none (.t 38), none⟩, ⟨(some 40), .bin .neq (.t 39) (.c (.int .i64 0)), none⟩] [40, 6, 4, 7])
 (.cond (.t 40)
  (.seq
  (.draw [⟨⟨(some 41), .build [(.str []), (.str []), (.str []), (.int .i64 0), .nilslice] [], none⟩, none⟩, ⟨⟨(some 42), .mv (.t 6), none⟩, none⟩, ⟨⟨(some 43), .nilCheck (.t 42), none⟩, none⟩, ⟨⟨(some 44), .fieldA (.t 43) 2, none⟩, none⟩, ⟨⟨(some 45), .load none (.t 44), none⟩, none⟩, ⟨⟨none, .store 5 (.t 4) (.t 41), none⟩, (some [5])⟩, ⟨⟨(some 5), .mv (.t 45), none⟩, none⟩] [(1, [5], [5]), (2, [5], [5]), (3, [5], [5]), (4, [5], [5])] [4, 5])
  .ret)
  .skip))
 (.seq
 (.ops [⟨(some 46), .load (some 5) (.t 7), none⟩, ⟨none, .store 5 (.t 4) (.t 46), none⟩, ⟨(some 5), .mv (.c (.int .i64 0)), none⟩] [4, 5])
 .ret)))))))),
 none⟩
theorem c9 : cFunc Tryz.prog true none [[1, 4, 0], [9, 4, 0, 1], [1, 4, 0], [12, 4, 0, 1], [4, 5], [6, 4], [6, 4, 7], [33, 6, 4, 7], [6, 4, 7], [40, 6, 4, 7], [4, 5], [], [4, 5]] Tryz.f9 = some m9 := by kernel_rfl

/-- letterbox/search.Match -/
def m14 : MFunc := ⟨205, 4, [.t 8],
 (.seq
 (.ops [⟨(some 4), .box 45 (.t 0), none⟩, ⟨(some 5), .box 30 (.t 1), none⟩, ⟨(some 6), .box 3 (.t 2), none⟩, ⟨(some 7), .box 3 (.t 3), none⟩, ⟨(some 8), .mv (.c (.bool false)), none⟩] [4, 6, 7, 5])
 (.seq
 (.ops [⟨(some 14), .func 25 [(.t 4), (.t 6), (.t 7)], none⟩, ⟨(some 9), .alloc 70 [.nilfunc], none⟩, ⟨none, .store 1 (.t 9) (.t 14), none⟩] [5, 9, 4, 6, 7])
 (.seq
 (.seq
 (.ops [⟨(some 15), .fieldA (.t 5) 0, none⟩, ⟨(some 16), .load none (.t 15), none⟩] [16, 5, 9, 4, 6, 7])
 (.block 0
  (.seq
  (.block 21
   (.seq
   (.block 20
    (.seq
    (.block 19
     (.seq
     (.block 18
      (.seq
      (.block 17
       (.seq
       (.block 16
        (.seq
        (.block 15
         (.seq
         (.block 14
          (.seq
          (.block 13
           (.seq
           (.block 12
            (.seq
            (.block 11
             (.seq
             (.block 10
              (.seq
              (.block 9
               (.seq
               (.block 8
                (.seq
                (.block 7
                 (.seq
                 (.block 6
                  (.seq
                  (.block 5
                   (.seq
                   (.block 4
                    (.seq
                    (.block 3
                     (.seq
                     (.block 2
                      (.seq
                      (.block 1
                       (.seq
                       (.seq
                       (.seq
                       (.ops [⟨(some 18), .bin .eql (.t 16) (.c (.str [65, 76, 76])), none⟩, ⟨(some 17), .mv (.t 18), none⟩] [17, 16, 5, 9, 4, 6, 7])
                       (.cond (.t 17)
                        (.exit 1)
                        .skip))
                       (.seq
                       (.seq
                       (.ops [⟨(some 20), .bin .eql (.t 16) (.c (.str [65, 78, 68])), none⟩, ⟨(some 19), .mv (.t 20), none⟩] [19, 5, 9, 16, 4, 6, 7])
                       (.cond (.t 19)
                        (.exit 2)
                        .skip))
                       (.seq
                       (.seq
                       (.ops [⟨(some 22), .bin .eql (.t 16) (.c (.str [79, 82])), none⟩, ⟨(some 21), .mv (.t 22), none⟩] [21, 5, 9, 16, 4, 6, 7])
                       (.cond (.t 21)
                        (.exit 3)
                        .skip))
                       (.seq
                       (.seq
                       (.ops [⟨(some 24), .bin .eql (.t 16) (.c (.str [78, 79, 84])), none⟩, ⟨(some 23), .mv (.t 24), none⟩] [23, 5, 9, 16, 4, 6, 7])
                       (.cond (.t 23)
                        (.exit 4)
                        .skip))
                       (.seq
                       (.seq
                       (.ops [⟨(some 26), .bin .eql (.t 16) (.c (.str [83, 69, 84])), none⟩, ⟨(some 25), .mv (.t 26), none⟩] [25, 5, 4, 6, 16, 7])
                       (.cond (.t 25)
                        (.exit 5)
                        .skip))
                       (.seq
                       (.seq
                       (.ops [⟨(some 28), .bin .eql (.t 16) (.c (.str [85, 73, 68])), none⟩, ⟨(some 27), .mv (.t 28), none⟩] [27, 5, 4, 7, 16])
                       (.cond (.t 27)
                        (.exit 6)
                        .skip))
                       (.seq
                       (.seq
                       (.ops [⟨(some 30), .bin .eql (.t 16) (.c (.str [79, 76, 68])), none⟩, ⟨(some 29), .mv (.t 30), none⟩] [29, 4, 16, 5])
                       (.cond (.t 29)
                        (.exit 7)
                        .skip))
                       (.seq
                       (.seq
                       (.ops [⟨(some 32), .bin .eql (.t 16) (.c (.str [78, 69, 87])), none⟩, ⟨(some 31), .mv (.t 32), none⟩] [31, 4, 16, 5])
                       (.cond (.t 31)
                        (.exit 8)
                        .skip))
                       (.seq
                       (.seq
                       (.ops [⟨(some 34), .bin .eql (.t 16) (.c (.str [82, 69, 67, 69, 78, 84])), none⟩, ⟨(some 33), .mv (.t 34), none⟩] [33, 4, 16, 5])
                       (.cond (.t 33)
                        (.exit 9)
                        .skip))
                       (.seq
                       (.seq
                       (.seq
                       (.ops [⟨(some 36), .bin .eql (.t 16) (.c (.str [65, 78, 83, 87, 69, 82, 69, 68])), none⟩, ⟨(some 35), .mv (.t 36), none⟩] [35, 4, 5, 16])
                       (.cond (.t 35)
                        .skip
                        (.seq
                        (.ops [⟨(some 37), .bin .eql (.t 16) (.c (.str [68, 69, 76, 69, 84, 69, 68])), none⟩, ⟨(some 35), .mv (.t 37), none⟩] [35, 4, 5, 16])
                        (.cond (.t 35)
                         .skip
                         (.seq
                         (.ops [⟨(some 38), .bin .eql (.t 16) (.c (.str [68, 82, 65, 70, 84])), none⟩, ⟨(some 35), .mv (.t 38), none⟩] [35, 4, 5, 16])
                         (.cond (.t 35)
                          .skip
                          (.seq
                          (.ops [⟨(some 39), .bin .eql (.t 16) (.c (.str [70, 76, 65, 71, 71, 69, 68])), none⟩, ⟨(some 35), .mv (.t 39), none⟩] [35, 4, 5, 16])
                          (.cond (.t 35)
                           .skip
                           (.ops [⟨(some 40), .bin .eql (.t 16) (.c (.str [83, 69, 69, 78])), none⟩, ⟨(some 35), .mv (.t 40), none⟩] [35, 4, 5, 16])))))))))
                       (.cond (.t 35)
                        (.exit 10)
                        .skip))
                       (.seq
                       (.seq
                       (.seq
                       (.ops [⟨(some 42), .bin .eql (.t 16) (.c (.str [85, 78, 65, 78, 83, 87, 69, 82, 69, 68])), none⟩, ⟨(some 41), .mv (.t 42), none⟩] [41, 4, 5, 16])
                       (.cond (.t 41)
                        .skip
                        (.seq
                        (.ops [⟨(some 43), .bin .eql (.t 16) (.c (.str [85, 78, 68, 69, 76, 69, 84, 69, 68])), none⟩, ⟨(some 41), .mv (.t 43), none⟩] [41, 4, 5, 16])
                        (.cond (.t 41)
                         .skip
                         (.seq
                         (.ops [⟨(some 44), .bin .eql (.t 16) (.c (.str [85, 78, 68, 82, 65, 70, 84])), none⟩, ⟨(some 41), .mv (.t 44), none⟩] [41, 4, 5, 16])
                         (.cond (.t 41)
                          .skip
                          (.seq
                          (.ops [⟨(some 45), .bin .eql (.t 16) (.c (.str [85, 78, 70, 76, 65, 71, 71, 69, 68])), none⟩, ⟨(some 41), .mv (.t 45), none⟩] [41, 4, 5, 16])
                          (.cond (.t 41)
                           .skip
                           (.ops [⟨(some 46), .bin .eql (.t 16) (.c (.str [85, 78, 83, 69, 69, 78])), none⟩, ⟨(some 41), .mv (.t 46), none⟩] [41, 4, 5, 16])))))))))
                       (.cond (.t 41)
                        (.exit 11)
                        .skip))
                       (.seq
                       (.seq
                       (.ops [⟨(some 48), .bin .eql (.t 16) (.c (.str [75, 69, 89, 87, 79, 82, 68])), none⟩, ⟨(some 47), .mv (.t 48), none⟩] [47, 4, 5, 16])
                       (.cond (.t 47)
                        (.exit 12)
                        .skip))
                       (.seq
                       (.seq
                       (.ops [⟨(some 50), .bin .eql (.t 16) (.c (.str [85, 78, 75, 69, 89, 87, 79, 82, 68])), none⟩, ⟨(some 49), .mv (.t 50), none⟩] [49, 4, 5, 16])
                       (.cond (.t 49)
                        (.exit 13)
                        .skip))
                       (.seq
                       (.seq
                       (.seq
                       (.ops [⟨(some 52), .bin .eql (.t 16) (.c (.str [66, 69, 70, 79, 82, 69])), none⟩, ⟨(some 51), .mv (.t 52), none⟩] [51, 5, 4, 16])
                       (.cond (.t 51)
                        .skip
                        (.seq
                        (.ops [⟨(some 53), .bin .eql (.t 16) (.c (.str [79, 78])), none⟩, ⟨(some 51), .mv (.t 53), none⟩] [51, 5, 4, 16])
                        (.cond (.t 51)
                         .skip
                         (.ops [⟨(some 54), .bin .eql (.t 16) (.c (.str [83, 73, 78, 67, 69])), none⟩, ⟨(some 51), .mv (.t 54), none⟩] [51, 5, 4, 16])))))
                       (.cond (.t 51)
                        (.exit 14)
                        .skip))
                       (.seq
                       (.seq
                       (.seq
                       (.ops [⟨(some 56), .bin .eql (.t 16) (.c (.str [83, 69, 78, 84, 66, 69, 70, 79, 82, 69])), none⟩, ⟨(some 55), .mv (.t 56), none⟩] [55, 4, 5, 16])
                       (.cond (.t 55)
                        .skip
                        (.seq
                        (.ops [⟨(some 57), .bin .eql (.t 16) (.c (.str [83, 69, 78, 84, 79, 78])), none⟩, ⟨(some 55), .mv (.t 57), none⟩] [55, 4, 5, 16])
                        (.cond (.t 55)
                         .skip
                         (.ops [⟨(some 58), .bin .eql (.t 16) (.c (.str [83, 69, 78, 84, 83, 73, 78, 67, 69])), none⟩, ⟨(some 55), .mv (.t 58), none⟩] [55, 4, 5, 16])))))
                       (.cond (.t 55)
                        (.exit 15)
                        .skip))
                       (.seq
                       (.seq
                       (.ops [⟨(some 60), .bin .eql (.t 16) (.c (.str [76, 65, 82, 71, 69, 82])), none⟩, ⟨(some 59), .mv (.t 60), none⟩] [59, 4, 5, 16])
                       (.cond (.t 59)
                        (.exit 16)
                        .skip))
                       (.seq
                       (.seq
                       (.ops [⟨(some 62), .bin .eql (.t 16) (.c (.str [83, 77, 65, 76, 76, 69, 82])), none⟩, ⟨(some 61), .mv (.t 62), none⟩] [61, 4, 5, 16])
                       (.cond (.t 61)
                        (.exit 17)
                        .skip))
                       (.seq
                       (.seq
                       (.seq
                       (.ops [⟨(some 64), .bin .eql (.t 16) (.c (.str [66, 67, 67])), none⟩, ⟨(some 63), .mv (.t 64), none⟩] [63, 4, 5, 16])
                       (.cond (.t 63)
                        .skip
                        (.seq
                        (.ops [⟨(some 65), .bin .eql (.t 16) (.c (.str [67, 67])), none⟩, ⟨(some 63), .mv (.t 65), none⟩] [63, 4, 5, 16])
                        (.cond (.t 63)
                         .skip
                         (.seq
                         (.ops [⟨(some 66), .bin .eql (.t 16) (.c (.str [70, 82, 79, 77])), none⟩, ⟨(some 63), .mv (.t 66), none⟩] [63, 4, 5, 16])
                         (.cond (.t 63)
                          .skip
                          (.seq
                          (.ops [⟨(some 67), .bin .eql (.t 16) (.c (.str [83, 85, 66, 74, 69, 67, 84])), none⟩, ⟨(some 63), .mv (.t 67), none⟩] [63, 4, 5, 16])
                          (.cond (.t 63)
                           .skip
                           (.ops [⟨(some 68), .bin .eql (.t 16) (.c (.str [84, 79])), none⟩, ⟨(some 63), .mv (.t 68), none⟩] [63, 4, 5, 16])))))))))
                       (.cond (.t 63)
                        (.exit 18)
                        .skip))
                       (.seq
                       (.seq
                       (.ops [⟨(some 70), .bin .eql (.t 16) (.c (.str [72, 69, 65, 68, 69, 82])), none⟩, ⟨(some 69), .mv (.t 70), none⟩] [69, 4, 5, 16])
                       (.cond (.t 69)
                        (.exit 19)
                        .skip))
                       (.seq
                       (.seq
                       (.ops [⟨(some 72), .bin .eql (.t 16) (.c (.str [84, 69, 88, 84])), none⟩, ⟨(some 71), .mv (.t 72), none⟩] [71, 4, 5, 16])
                       (.cond (.t 71)
                        (.exit 20)
                        .skip))
                       (.seq
                       (.ops [⟨(some 74), .bin .eql (.t 16) (.c (.str [66, 79, 68, 89])), none⟩, ⟨(some 73), .mv (.t 74), none⟩] [73, 4, 5])
                       (.cond (.t 73)
                        (.exit 21)
                        .skip))))))))))))))))))))))
                       (.exit 0)))
                      (.seq
                      (.seq
                      (.ops [⟨(some 8), .mv (.c (.bool true)), none⟩] [8])
                      .ret)
                      (.exit 0))))
                     (.seq
                     (.seq
                     (.ops [⟨(some 75), .fieldA (.t 5) 4, none⟩, ⟨(some 76), .load none (.t 75), none⟩, ⟨(some 77), .func 27 [(.t 9)], none⟩, ⟨(some 78), .call (.c (.func 26 [])) [(.t 76), (.t 77)], none⟩, ⟨(some 79), .un .not (.t 78), none⟩, ⟨(some 8), .mv (.t 79), none⟩] [8])
                     .ret)
                     (.exit 0))))
                    (.seq
                    (.seq
                    (.ops [⟨(some 80), .fieldA (.t 5) 4, none⟩, ⟨(some 81), .load none (.t 80), none⟩, ⟨(some 82), .load none (.t 9), none⟩, ⟨(some 83), .call (.c (.func 26 [])) [(.t 81), (.t 82)], none⟩, ⟨(some 8), .mv (.t 83), none⟩] [8])
                    .ret)
                    (.exit 0))))
                   (.seq
                   (.seq
                   (.draw [⟨⟨(some 84), .fieldA (.t 5) 4, none⟩, none⟩, ⟨⟨(some 85), .load none (.t 84), none⟩, none⟩, ⟨⟨(some 86), .lenL (.t 85), none⟩, none⟩, ⟨⟨(some 87), .bin .eql (.t 86) (.c (.int .i64 0)), none⟩, none⟩, ⟨⟨(some 88), .mv (.t 87), none⟩, none⟩, ⟨⟨(some 89), .load none (.t 9), (some (88, false))⟩, none⟩, ⟨⟨(some 90), .fieldA (.t 5) 4, (some (88, false))⟩, none⟩, ⟨⟨(some 91), .load none (.t 90), (some (88, false))⟩, none⟩, ⟨⟨(some 92), .idxA 5 (.t 91) (.c (.int .i64 0)), (some (88, false))⟩, none⟩, ⟨⟨(some 93), .load (some 5) (.t 92), (some (88, false))⟩, none⟩, ⟨⟨(some 94), .call (.t 89) [(.t 93)], (some (88, false))⟩, none⟩, ⟨⟨(some 95), .un .not (.t 94), (some (88, false))⟩, none⟩, ⟨⟨(some 96), .pick (.t 88) (.c (.bool true)) (.t 95), none⟩, none⟩, ⟨⟨(some 8), .mv (.t 96), none⟩, none⟩] [] [8])
                   .ret)
                   (.exit 0))))
                  (.seq
                  (.seq
                  (.ops [⟨(some 97), .fieldA (.t 5) 1, none⟩, ⟨(some 98), .load none (.t 97), none⟩, ⟨(some 99), .fieldA (.t 4) 0, none⟩, ⟨(some 100), .load none (.t 99), none⟩, ⟨(some 101), .load none (.t 6), none⟩, ⟨(some 102), .call (.c (.func 28 [])) [(.t 98), (.t 100), (.t 101)], none⟩, ⟨(some 8), .mv (.t 102), none⟩] [8])
                  .ret)
                  (.exit 0))))
                 (.seq
                 (.seq
                 (.ops [⟨(some 103), .fieldA (.t 5) 1, none⟩, ⟨(some 104), .load none (.t 103), none⟩, ⟨(some 105), .fieldA (.t 4) 1, none⟩, ⟨(some 106), .load none (.t 105), none⟩, ⟨(some 107), .load none (.t 7), none⟩, ⟨(some 108), .call (.c (.func 28 [])) [(.t 104), (.t 106), (.t 107)], none⟩, ⟨(some 8), .mv (.t 108), none⟩] [8])
                 .ret)
                 (.exit 0))))
                (.seq
                (.seq
                (.ops [⟨(some 109), .load (some 5) (.t 4), none⟩, ⟨(some 110), .call (.c (.func 29 [])) [(.t 109), (.c (.str [92, 114, 101, 99, 101, 110, 116]))], none⟩, ⟨(some 111), .un .not (.t 110), none⟩, ⟨(some 8), .mv (.t 111), none⟩] [8])
                .ret)
                (.exit 0))))
               (.seq
               (.ops [⟨(some 112), .load (some 5) (.t 4), none⟩, ⟨(some 113), .call (.c (.func 29 [])) [(.t 112), (.c (.str [92, 115, 101, 101, 110]))], none⟩] [113, 4])
               (.cond (.t 113)
                (.seq
                (.ops [⟨(some 8), .mv (.c (.bool false)), none⟩] [8])
                .ret)
                .skip))))
              (.seq
              (.seq
              (.ops [⟨(some 114), .load (some 5) (.t 4), none⟩, ⟨(some 115), .call (.c (.func 29 [])) [(.t 114), (.c (.str [92, 114, 101, 99, 101, 110, 116]))], none⟩, ⟨(some 8), .mv (.t 115), none⟩] [8])
              .ret)
              (.exit 0))))
             (.seq
             (.seq
             (.ops [⟨(some 116), .load (some 5) (.t 4), none⟩, ⟨(some 117), .fieldA (.t 5) 0, none⟩, ⟨(some 118), .load none (.t 117), none⟩, ⟨(some 119), .bin .add (.c (.str [92])) (.t 118), none⟩, ⟨(some 120), .call (.c (.func 29 [])) [(.t 116), (.t 119)], none⟩, ⟨(some 8), .mv (.t 120), none⟩] [8])
             .ret)
             (.exit 0))))
            (.seq
            (.seq
            (.draw [⟨⟨(some 121), .load (some 5) (.t 4), none⟩, none⟩, ⟨⟨(some 122), .fieldA (.t 5) 0, none⟩, none⟩, ⟨⟨(some 123), .load none (.t 122), none⟩, none⟩, ⟨⟨(some 124), .sliceStr (.t 123) (some (.c (.int .i64 2))) none, none⟩, none⟩, ⟨⟨(some 125), .bin .add (.c (.str [92])) (.t 124), none⟩, none⟩, ⟨⟨(some 126), .call (.c (.func 29 [])) [(.t 121), (.t 125)], none⟩, none⟩, ⟨⟨(some 127), .un .not (.t 126), none⟩, none⟩, ⟨⟨(some 8), .mv (.t 127), none⟩, none⟩] [] [8])
            .ret)
            (.exit 0))))
           (.seq
           (.seq
           (.ops [⟨(some 128), .load (some 5) (.t 4), none⟩, ⟨(some 129), .fieldA (.t 5) 1, none⟩, ⟨(some 130), .load none (.t 129), none⟩, ⟨(some 131), .call (.c (.func 29 [])) [(.t 128), (.t 130)], none⟩, ⟨(some 8), .mv (.t 131), none⟩] [8])
           .ret)
           (.exit 0))))
          (.seq
          (.seq
          (.ops [⟨(some 132), .load (some 5) (.t 4), none⟩, ⟨(some 133), .fieldA (.t 5) 1, none⟩, ⟨(some 134), .load none (.t 133), none⟩, ⟨(some 135), .call (.c (.func 29 [])) [(.t 132), (.t 134)], none⟩, ⟨(some 136), .un .not (.t 135), none⟩, ⟨(some 8), .mv (.t 136), none⟩] [8])
          .ret)
          (.exit 0))))
         (.seq
         (.seq
         (.ops [⟨(some 137), .fieldA (.t 5) 0, none⟩, ⟨(some 138), .load none (.t 137), none⟩, ⟨(some 139), .fieldA (.t 4) 3, none⟩, ⟨(some 140), .load none (.t 139), none⟩, ⟨(some 141), .fieldA (.t 5) 3, none⟩, ⟨(some 142), .load none (.t 141), none⟩, ⟨(some 143), .call (.c (.func 30 [])) [(.t 138), (.t 140), (.t 142)], none⟩, ⟨(some 8), .mv (.t 143), none⟩] [8])
         .ret)
         (.exit 0))))
        (.seq
        (.seq
        (.ops [⟨(some 145), .load (some 5) (.t 4), none⟩, ⟨(some 146), .call (.c (.func 31 [])) [(.t 145)], none⟩, ⟨(some 144), .mv (.t 146), none⟩, ⟨(some 147), .extract (.t 144) 0, none⟩, ⟨(some 148), .extract (.t 144) 1, none⟩, ⟨(some 10), .mv (.t 147), none⟩, ⟨(some 11), .mv (.t 148), none⟩] [11, 5, 10])
        (.seq
        (.draw [⟨⟨(some 149), .mv (.t 11), none⟩, none⟩, ⟨⟨(some 150), .mv (.t 149), none⟩, none⟩, ⟨⟨(some 151), .fieldA (.t 5) 0, (some (150, true))⟩, none⟩, ⟨⟨(some 152), .load none (.t 151), (some (150, true))⟩, none⟩, ⟨⟨(some 153), .sliceStr (.t 152) (some (.c (.int .i64 4))) none, (some (150, true))⟩, none⟩, ⟨⟨(some 154), .mv (.t 10), (some (150, true))⟩, none⟩, ⟨⟨(some 155), .fieldA (.t 5) 3, (some (150, true))⟩, none⟩, ⟨⟨(some 156), .load none (.t 155), (some (150, true))⟩, none⟩, ⟨⟨(some 157), .call (.c (.func 30 [])) [(.t 153), (.t 154), (.t 156)], (some (150, true))⟩, none⟩, ⟨⟨(some 158), .pick (.t 150) (.t 157) (.c (.bool false)), none⟩, none⟩, ⟨⟨(some 8), .mv (.t 158), none⟩, none⟩] [] [8])
        .ret))
        (.exit 0))))
       (.seq
       (.seq
       (.ops [⟨(some 159), .fieldA (.t 4) 4, none⟩, ⟨(some 160), .load none (.t 159), none⟩, ⟨(some 161), .lenL (.t 160), none⟩, ⟨(some 162), .fieldA (.t 5) 3, none⟩, ⟨(some 163), .load none (.t 162), none⟩, ⟨(some 164), .bin .gtr (.t 161) (.t 163), none⟩, ⟨(some 8), .mv (.t 164), none⟩] [8])
       .ret)
       (.exit 0))))
      (.seq
      (.seq
      (.ops [⟨(some 165), .fieldA (.t 4) 4, none⟩, ⟨(some 166), .load none (.t 165), none⟩, ⟨(some 167), .lenL (.t 166), none⟩, ⟨(some 168), .fieldA (.t 5) 3, none⟩, ⟨(some 169), .load none (.t 168), none⟩, ⟨(some 170), .bin .lss (.t 167) (.t 169), none⟩, ⟨(some 8), .mv (.t 170), none⟩] [8])
      .ret)
      (.exit 0))))
     (.seq
     (.seq
     (.ops [⟨(some 171), .load (some 5) (.t 4), none⟩, ⟨(some 172), .fieldA (.t 5) 0, none⟩, ⟨(some 173), .load none (.t 172), none⟩, ⟨(some 174), .fieldA (.t 5) 1, none⟩, ⟨(some 175), .load none (.t 174), none⟩, ⟨(some 176), .call (.c (.func 32 [])) [(.t 171), (.t 173), (.t 175)], none⟩, ⟨(some 8), .mv (.t 176), none⟩] [8])
     .ret)
     (.exit 0))))
    (.seq
    (.seq
    (.ops [⟨(some 177), .load (some 5) (.t 4), none⟩, ⟨(some 178), .fieldA (.t 5) 2, none⟩, ⟨(some 179), .load none (.t 178), none⟩, ⟨(some 180), .fieldA (.t 5) 1, none⟩, ⟨(some 181), .load none (.t 180), none⟩, ⟨(some 182), .call (.c (.func 32 [])) [(.t 177), (.t 179), (.t 181)], none⟩, ⟨(some 8), .mv (.t 182), none⟩] [8])
    .ret)
    (.exit 0))))
   (.seq
   (.seq
   (.draw [⟨⟨(some 183), .fieldA (.t 4) 4, none⟩, none⟩, ⟨⟨(some 184), .load none (.t 183), none⟩, none⟩, ⟨⟨(some 185), .conv .bytesStr (.t 184), none⟩, none⟩, ⟨⟨(some 186), .call (.c (.func 34 [])) [(.t 185)], none⟩, none⟩, ⟨⟨(some 187), .fieldA (.t 5) 1, none⟩, none⟩, ⟨⟨(some 188), .load none (.t 187), none⟩, none⟩, ⟨⟨(some 189), .call (.c (.func 33 [])) [(.t 186), (.t 188)], none⟩, none⟩, ⟨⟨(some 8), .mv (.t 189), none⟩, none⟩] [] [8])
   .ret)
   (.exit 0))))
  (.seq
  (.seq
  (.ops [⟨(some 191), .load (some 5) (.t 4), none⟩, ⟨(some 192), .call (.c (.func 35 [])) [(.t 191)], none⟩, ⟨(some 190), .mv (.t 192), none⟩, ⟨(some 193), .extract (.t 190) 0, none⟩, ⟨(some 194), .extract (.t 190) 1, none⟩, ⟨(some 13), .alloc 82 [(.int .i64 0), (.int .i64 0), (.int .i64 0), (.int .i64 0), (.int .i64 0), .nilslice, .nilslice, (.int .i64 0), (.int .i64 0)], none⟩, ⟨(some 12), .mv (.t 193), none⟩, ⟨none, .store 9 (.t 13) (.t 194), none⟩] [4, 13, 5])
  (.seq
  (.draw [⟨⟨(some 195), .fieldA (.t 4) 4, none⟩, none⟩, ⟨⟨(some 196), .load none (.t 195), none⟩, none⟩, ⟨⟨(some 197), .load (some 9) (.t 13), none⟩, none⟩, ⟨⟨(some 198), .build [.nilslice, (.int .i64 0), .nilslice, (.bool false), (.int .i64 0), (.int .i64 0)] [(1, 1, (.c (.int .i64 4)))], none⟩, none⟩, ⟨⟨(some 199), .call (.c (.func 36 [])) [(.t 196), (.t 197), (.t 198)], none⟩, none⟩, ⟨⟨(some 200), .conv .bytesStr (.t 199), none⟩, none⟩, ⟨⟨(some 201), .call (.c (.func 34 [])) [(.t 200)], none⟩, none⟩, ⟨⟨(some 202), .fieldA (.t 5) 1, none⟩, none⟩, ⟨⟨(some 203), .load none (.t 202), none⟩, none⟩, ⟨⟨(some 204), .call (.c (.func 33 [])) [(.t 201), (.t 203)], none⟩, none⟩, ⟨⟨(some 8), .mv (.t 204), none⟩, none⟩] [] [8])
  .ret))
  (.exit 0)))))
 (.seq
 (.ops [⟨(some 8), .mv (.c (.bool false)), none⟩] [8])
 .ret)))),
 none⟩
theorem c14 : cFunc Tryz.prog true none [[4, 6, 7, 5], [5, 9, 4, 6, 7], [16, 5, 9, 4, 6, 7], [17, 16, 5, 9, 4, 6, 7], [19, 5, 9, 16, 4, 6, 7], [21, 5, 9, 16, 4, 6, 7], [23, 5, 9, 16, 4, 6, 7], [25, 5, 4, 6, 16, 7], [27, 5, 4, 7, 16], [29, 4, 16, 5], [31, 4, 16, 5], [33, 4, 16, 5], [35, 4, 5, 16], [35, 4, 5, 16], [35, 4, 5, 16], [35, 4, 5, 16], [35, 4, 5, 16], [41, 4, 5, 16], [41, 4, 5, 16], [41, 4, 5, 16], [41, 4, 5, 16], [41, 4, 5, 16], [47, 4, 5, 16], [49, 4, 5, 16], [51, 5, 4, 16], [51, 5, 4, 16], [51, 5, 4, 16], [55, 4, 5, 16], [55, 4, 5, 16], [55, 4, 5, 16], [59, 4, 5, 16], [61, 4, 5, 16], [63, 4, 5, 16], [63, 4, 5, 16], [63, 4, 5, 16], [63, 4, 5, 16], [63, 4, 5, 16], [69, 4, 5, 16], [71, 4, 5, 16], [73, 4, 5], [8], [8], [8], [8], [], [8], [8], [8], [113, 4], [8], [8], [8], [8], [], [8], [8], [8], [11, 5, 10], [8], [], [8], [8], [8], [8], [8], [], [4, 13, 5], [8], [], [8]] Tryz.f14 = some m14 := by kernel_rfl

/-- letterbox/wire.Tokens -/
def m17 : MFunc := ⟨27, 1, [.t 2, .t 3],
 (.seq
 (.ops [⟨(some 2), .mv (.c .nilslice), none⟩, ⟨(some 3), .mv (.c (.int .i64 0)), none⟩] [0])
 (.seq
 (.ops [⟨(some 4), .mv (.c .nilslice), none⟩] [0, 4])
 (.seq
 (.seq
 (.ops [⟨(some 9), .mv (.t 0), none⟩, ⟨(some 10), .conv .bytesStr (.t 9), none⟩, ⟨(some 5), .mv (.t 10), none⟩] [5, 4])
 (.block 0
  (.loop [5, 4]
   (.seq
   (.seq
   (.ops [⟨(some 11), .mv (.t 5), none⟩, ⟨(some 12), .bin .neq (.t 11) (.c (.str [])), none⟩] [12, 5, 4])
   (.cond (.t 12)
    .skip
    (.exit 0)))
   (.block 1
    (.seq
    (.ops [⟨(some 14), .mv (.t 5), none⟩, ⟨(some 15), .call (.c (.func 49 [])) [(.t 14)], none⟩, ⟨(some 13), .mv (.t 15), none⟩, ⟨(some 16), .extract (.t 13) 0, none⟩, ⟨(some 17), .extract (.t 13) 1, none⟩, ⟨(some 18), .extract (.t 13) 2, none⟩, ⟨(some 6), .alloc 26 [(.int .i64 0), (.str [])], none⟩, ⟨none, .store 2 (.t 6) (.t 16), none⟩, ⟨(some 7), .mv (.t 17), none⟩, ⟨(some 8), .mv (.t 18), none⟩] [8, 4, 6, 7])
    (.seq
    (.seq
    (.ops [⟨(some 19), .mv (.t 8), none⟩, ⟨(some 20), .un .not (.t 19), none⟩] [20, 4, 6, 7])
    (.cond (.t 20)
     (.seq
     (.ops [⟨(some 2), .mv (.c .nilslice), none⟩, ⟨(some 3), .mv (.c (.int .i64 50)), none⟩] [2, 3])
     .ret)
     .skip))
    (.ops [⟨(some 21), .mv (.t 4), none⟩, ⟨(some 22), .load (some 2) (.t 6), none⟩, ⟨(some 23), .mkSlice 2 (.agg [(.int .i64 0), (.str [])]) 1 [(0, (.t 22))], none⟩, ⟨(some 24), .append 26 2 24 (.t 21) (.t 23), none⟩, ⟨(some 25), .mv (.t 7), none⟩, ⟨(some 4), .mv (.t 24), none⟩, ⟨(some 5), .mv (.t 25), none⟩] [5, 4]))))))))
 (.seq
 (.ops [⟨(some 26), .mv (.t 4), none⟩, ⟨(some 2), .mv (.t 26), none⟩, ⟨(some 3), .mv (.c (.int .i64 0)), none⟩] [2, 3])
 .ret)))),
 none⟩
theorem c17 : cFunc Tryz.prog true none [[0], [0, 4], [5, 4], [5, 4], [12, 5, 4], [8, 4, 6, 7], [20, 4, 6, 7], [2, 3], [5, 4], [2, 3]] Tryz.f17 = some m17 := by kernel_rfl

/-- letterbox/charset.Known -/
def m18 : MFunc := ⟨11, 1, [.t 2],
 (.seq
 (.ops [⟨(some 2), .mv (.c (.bool false)), none⟩] [0])
 (.seq
 (.ops [⟨(some 6), .mv (.t 0), none⟩, ⟨(some 7), .call (.c (.func 50 [])) [(.t 6)], none⟩, ⟨(some 5), .mv (.t 7), none⟩, ⟨(some 8), .extract (.t 5) 0, none⟩, ⟨(some 9), .extract (.t 5) 1, none⟩, ⟨(some 3), .alloc 112 [(.int .i32 0), .nilfunc, .nilfunc], none⟩, ⟨none, .store 3 (.t 3) (.t 8), none⟩, ⟨(some 4), .mv (.t 9), none⟩] [4])
 (.seq
 (.ops [⟨(some 10), .mv (.t 4), none⟩, ⟨(some 2), .mv (.t 10), none⟩] [2])
 .ret))),
 none⟩
theorem c18 : cFunc Tryz.prog true none [[0], [4], [2]] Tryz.f18 = some m18 := by kernel_rfl

/-- slices.Clone[[]letterbox/wire.Token,letterbox/wire.Token] -/
def m19 : MFunc := ⟨8, 1, [.t 2],
 (.seq
 (.ops [⟨(some 2), .mv (.c .nilslice), none⟩] [0])
 (.seq
 (.seq
 (.ops [⟨(some 3), .mv (.t 0), none⟩, ⟨(some 4), .eqp false 2 (.t 3) (.c .nilslice), none⟩] [4, 0])
 (.cond (.t 4)
  (.seq
  (.ops [⟨(some 2), .mv (.c .nilslice), none⟩] [2])
  .ret)
  .skip))
 (.seq
 (.ops [⟨(some 5), .mkSlice 2 (.agg [(.int .i64 0), (.str [])]) 0 [], none⟩, ⟨(some 6), .mv (.t 0), none⟩, ⟨(some 7), .append 26 2 24 (.t 5) (.t 6), none⟩, ⟨(some 2), .mv (.t 7), none⟩] [2])
 .ret))),
 none⟩
theorem c19 : cFunc Tryz.prog true none [[0], [4, 0], [2], [2]] Tryz.f19 = some m19 := by kernel_rfl

/-- (*letterbox/search.reader).keys -/
def m20 : MFunc := ⟨32, 2, [.cell 4 (some 5)],
 (.seq
 (.ops [⟨(some 4), .alloc 30 [(.str []), (.str []), (.str []), (.int .i64 0), .nilslice], none⟩] [1, 0, 4])
 (.seq
 (.seq
 (.ops [⟨(some 6), .mv (.t 1), none⟩, ⟨(some 7), .bin .gtr (.t 6) (.c (.int .i64 32)), none⟩] [7, 0, 1, 4])
 (.cond (.t 7)
  (.ops [⟨(some 8), .mv (.t 0), none⟩, ⟨(some 9), .call (.c (.func 21 [])) [(.t 8), (.c (.int .i64 50))], none⟩] [0, 1, 4])
  .skip))
 (.seq
 (.ops [⟨(some 10), .mv (.t 0), none⟩, ⟨(some 11), .mv (.t 1), none⟩, ⟨(some 12), .bin .add (.t 11) (.c (.int .i64 1)), none⟩, ⟨(some 13), .call (.c (.func 51 [])) [(.t 10), (.t 12)], none⟩, ⟨(some 14), .mkSlice 5 (.agg [(.str []), (.str []), (.str []), (.int .i64 0), .nilslice]) 1 [(0, (.t 13))], none⟩, ⟨(some 15), .build [(.str []), (.str []), (.str []), (.int .i64 0), .nilslice] [(0, 1, (.c (.str [65, 78, 68]))), (4, 1, (.t 14))], none⟩, ⟨(some 5), .alloc 30 [(.str []), (.str []), (.str []), (.int .i64 0), .nilslice], none⟩, ⟨none, .store 5 (.t 5) (.t 15), none⟩] [0, 5, 1, 4])
 (.seq
 (.block 0
  (.loop [0, 5, 1, 4]
   (.seq
   (.seq
   (.ops [⟨(some 16), .mv (.t 0), none⟩, ⟨(some 17), .call (.c (.func 52 [])) [(.t 16)], none⟩, ⟨(some 18), .bin .eql (.t 17) (.c (.int .i64 5)), none⟩] [18, 0, 5, 1, 4])
   (.cond (.t 18)
    .skip
    (.exit 0)))
   (.block 1
    (.seq
    (.ops [⟨(some 19), .mv (.t 0), none⟩, ⟨(some 20), .mkSlice 1 (.int .i64 0) 1 [(0, (.c (.int .i64 5)))], none⟩, ⟨(some 21), .call (.c (.func 53 [])) [(.t 19), (.t 20)], none⟩] [5, 0, 1, 4])
    (.draw [⟨⟨(some 22), .fieldA (.t 5) 4, none⟩, none⟩, ⟨⟨(some 23), .load none (.t 22), none⟩, none⟩, ⟨⟨(some 24), .mv (.t 0), none⟩, none⟩, ⟨⟨(some 25), .mv (.t 1), none⟩, none⟩, ⟨⟨(some 26), .bin .add (.t 25) (.c (.int .i64 1)), none⟩, none⟩, ⟨⟨(some 27), .call (.c (.func 51 [])) [(.t 24), (.t 26)], none⟩, (some [5])⟩, ⟨⟨(some 28), .mkSlice 5 (.agg [(.str []), (.str []), (.str []), (.int .i64 0), .nilslice]) 1 [(0, (.t 27))], none⟩, none⟩, ⟨⟨(some 29), .append 30 5 80 (.t 23) (.t 28), none⟩, (some [5, 7])⟩, ⟨⟨(some 30), .fieldA (.t 5) 4, none⟩, none⟩, ⟨⟨none, .store 1 (.t 30) (.t 29), none⟩, (some [5, 7, 9])⟩] [(0, [5], [5]), (1, [5], [5])] [0, 5, 1, 4]))))))
 (.seq
 (.ops [⟨(some 31), .load (some 5) (.t 5), none⟩, ⟨none, .store 5 (.t 4) (.t 31), none⟩] [4])
 .ret))))),
 none⟩
theorem c20 : cFunc Tryz.prog true none [[1, 0, 4], [7, 0, 1, 4], [0, 1, 4], [0, 5, 1, 4], [0, 5, 1, 4], [18, 0, 5, 1, 4], [5, 0, 1, 4], [0, 5, 1, 4], [5], [4]] Tryz.f20 = some m20 := by kernel_rfl

/-- (*letterbox/search.reader).fail -/
def m21 : MFunc := ⟨13, 2, [],
 (.seq
 (.ops [⟨(some 4), .mv (.t 0), none⟩, ⟨(some 5), .nilCheck (.t 4), none⟩, ⟨(some 6), .fieldA (.t 5) 2, none⟩, ⟨(some 7), .load none (.t 6), none⟩, ⟨(some 8), .bin .eql (.t 7) (.c (.int .i64 0)), none⟩] [8, 0, 1])
 (.cond (.t 8)
  (.ops [⟨(some 9), .mv (.t 0), none⟩, ⟨(some 10), .mv (.t 1), none⟩, ⟨(some 11), .nilCheck (.t 9), none⟩, ⟨(some 12), .fieldA (.t 11) 2, none⟩, ⟨none, .store 1 (.t 12) (.t 10), none⟩] [])
  .skip)),
 none⟩
theorem c21 : cFunc Tryz.prog true none [[8, 0, 1], []] Tryz.f21 = some m21 := by kernel_rfl

/-- letterbox/search.Match$1 -/
def m25 : MFunc := ⟨11, 4, [.t 5],
 (.seq
 (.ops [⟨(some 4), .box 30 (.t 0), none⟩, ⟨(some 5), .mv (.c (.bool false)), none⟩] [1, 4, 2, 3])
 (.seq
 (.ops [⟨(some 6), .load (some 5) (.t 1), none⟩, ⟨(some 7), .load (some 5) (.t 4), none⟩, ⟨(some 8), .load none (.t 2), none⟩, ⟨(some 9), .load none (.t 3), none⟩, ⟨(some 10), .call (.c (.func 14 [])) [(.t 6), (.t 7), (.t 8), (.t 9)], none⟩, ⟨(some 5), .mv (.t 10), none⟩] [5])
 .ret)),
 none⟩
theorem c25 : cFunc Tryz.prog true none [[1, 4, 2, 3], [5]] Tryz.f25 = some m25 := by kernel_rfl

/-- slices.ContainsFunc[[]letterbox/search.Key,letterbox/search.Key] -/
def m26 : MFunc := ⟨9, 2, [.t 4],
 (.seq
 (.ops [⟨(some 4), .mv (.c (.bool false)), none⟩] [0, 1])
 (.seq
 (.ops [⟨(some 5), .mv (.t 0), none⟩, ⟨(some 6), .mv (.t 1), none⟩, ⟨(some 7), .call (.c (.func 57 [])) [(.t 5), (.t 6)], none⟩, ⟨(some 8), .bin .geq (.t 7) (.c (.int .i64 0)), none⟩, ⟨(some 4), .mv (.t 8), none⟩] [4])
 .ret)),
 none⟩
theorem c26 : cFunc Tryz.prog true none [[0, 1], [4]] Tryz.f26 = some m26 := by kernel_rfl

/-- letterbox/search.Match$2 -/
def m27 : MFunc := ⟨8, 2, [.t 3],
 (.seq
 (.ops [⟨(some 2), .box 30 (.t 0), none⟩, ⟨(some 3), .mv (.c (.bool false)), none⟩] [1, 2])
 (.seq
 (.ops [⟨(some 4), .load none (.t 1), none⟩, ⟨(some 5), .load (some 5) (.t 2), none⟩, ⟨(some 6), .call (.t 4) [(.t 5)], none⟩, ⟨(some 7), .un .not (.t 6), none⟩, ⟨(some 3), .mv (.t 7), none⟩] [3])
 .ret)),
 none⟩
theorem c27 : cFunc Tryz.prog true none [[1, 2], [3]] Tryz.f27 = some m27 := by kernel_rfl

/-- letterbox/search.in -/
def m28 : MFunc := ⟨18, 3, [.t 6],
 (.seq
 (.ops [⟨(some 6), .mv (.c (.bool false)), none⟩] [0, 1, 2])
 (.seq
 (.ops [⟨(some 10), .mv (.t 0), none⟩, ⟨(some 11), .call (.c (.func 58 [])) [(.t 10)], none⟩, ⟨(some 9), .mv (.t 11), none⟩, ⟨(some 12), .extract (.t 9) 0, none⟩, ⟨(some 13), .extract (.t 9) 1, none⟩, ⟨(some 7), .mv (.t 12), none⟩, ⟨(some 8), .mv (.t 13), none⟩] [7, 1, 2])
 (.seq
 (.ops [⟨(some 14), .mv (.t 7), none⟩, ⟨(some 15), .mv (.t 1), none⟩, ⟨(some 16), .mv (.t 2), none⟩, ⟨(some 17), .call (.c (.func 59 [])) [(.t 14), (.t 15), (.t 16)], none⟩, ⟨(some 6), .mv (.t 17), none⟩] [6])
 .ret))),
 none⟩
theorem c28 : cFunc Tryz.prog true none [[0, 1, 2], [7, 1, 2], [6]] Tryz.f28 = some m28 := by kernel_rfl

/-- (letterbox/search.Message).flagged -/
def m29 : MFunc := ⟨9, 2, [.t 4],
 (.seq
 (.ops [⟨(some 2), .box 45 (.t 0), none⟩, ⟨(some 3), .box 9 (.t 1), none⟩, ⟨(some 4), .mv (.c (.bool false)), none⟩] [2, 3])
 (.seq
 (.ops [⟨(some 5), .fieldA (.t 2) 2, none⟩, ⟨(some 6), .load none (.t 5), none⟩, ⟨(some 7), .func 61 [(.t 3)], none⟩, ⟨(some 8), .call (.c (.func 60 [])) [(.t 6), (.t 7)], none⟩, ⟨(some 4), .mv (.t 8), none⟩] [4])
 .ret)),
 none⟩
theorem c29 : cFunc Tryz.prog true none [[2, 3], [4]] Tryz.f29 = some m29 := by kernel_rfl

/-- letterbox/search.compared -/
def m30 : MFunc := ⟨21, 3, [.t 6],
 (.seq
 (.ops [⟨(some 6), .mv (.c (.bool false)), none⟩] [0, 1, 2])
 (.seq
 (.seq
 (.ops [⟨(some 7), .mv (.t 0), none⟩] [7, 1, 2])
 (.block 0
  (.seq
  (.ops [⟨(some 9), .bin .eql (.t 7) (.c (.str [66, 69, 70, 79, 82, 69])), none⟩, ⟨(some 8), .mv (.t 9), none⟩] [8, 1, 2, 7])
  (.cond (.t 8)
   (.seq
   (.ops [⟨(some 10), .mv (.t 1), none⟩, ⟨(some 11), .mv (.t 2), none⟩, ⟨(some 12), .bin .lss (.t 10) (.t 11), none⟩, ⟨(some 6), .mv (.t 12), none⟩] [6])
   .ret)
   (.seq
   (.ops [⟨(some 14), .bin .eql (.t 7) (.c (.str [79, 78])), none⟩, ⟨(some 13), .mv (.t 14), none⟩] [13, 1, 2])
   (.cond (.t 13)
    (.seq
    (.ops [⟨(some 15), .mv (.t 1), none⟩, ⟨(some 16), .mv (.t 2), none⟩, ⟨(some 17), .bin .eql (.t 15) (.t 16), none⟩, ⟨(some 6), .mv (.t 17), none⟩] [6])
    .ret)
    .skip))))))
 (.seq
 (.ops [⟨(some 18), .mv (.t 1), none⟩, ⟨(some 19), .mv (.t 2), none⟩, ⟨(some 20), .bin .geq (.t 18) (.t 19), none⟩, ⟨(some 6), .mv (.t 20), none⟩] [6])
 .ret))),
 none⟩
theorem c30 : cFunc Tryz.prog true none [[0, 1, 2], [7, 1, 2], [8, 1, 2, 7], [6], [13, 1, 2], [6], [6]] Tryz.f30 = some m30 := by kernel_rfl

/-- (letterbox/search.Message).sent -/
def m31 : MFunc := ⟨24, 1, [.t 2, .t 3],
 (.seq
 (.ops [⟨(some 1), .box 45 (.t 0), none⟩, ⟨(some 2), .mv (.c (.int .i64 0)), none⟩, ⟨(some 3), .mv (.c (.bool false)), none⟩] [1])
 (.seq
 (.ops [⟨(some 9), .load (some 5) (.t 1), none⟩, ⟨(some 10), .call (.c (.func 35 [])) [(.t 9)], none⟩, ⟨(some 8), .mv (.t 10), none⟩, ⟨(some 11), .extract (.t 8) 0, none⟩, ⟨(some 12), .extract (.t 8) 1, none⟩, ⟨(some 5), .alloc 82 [(.int .i64 0), (.int .i64 0), (.int .i64 0), (.int .i64 0), (.int .i64 0), .nilslice, .nilslice, (.int .i64 0), (.int .i64 0)], none⟩, ⟨(some 4), .mv (.t 11), none⟩, ⟨none, .store 9 (.t 5) (.t 12), none⟩] [1, 4])
 (.seq
 (.ops [⟨(some 14), .fieldA (.t 1) 4, none⟩, ⟨(some 15), .load none (.t 14), none⟩, ⟨(some 16), .mv (.t 4), none⟩, ⟨(some 17), .call (.c (.func 64 [])) [(.t 15), (.t 16), (.c (.str [100, 97, 116, 101]))], none⟩, ⟨(some 18), .call (.c (.func 63 [])) [(.t 17)], none⟩, ⟨(some 13), .mv (.t 18), none⟩, ⟨(some 19), .extract (.t 13) 0, none⟩, ⟨(some 20), .extract (.t 13) 1, none⟩, ⟨(some 6), .alloc 124 [(.int .i64 0), (.int .i64 0)], none⟩, ⟨none, .store 2 (.t 6) (.t 19), none⟩, ⟨(some 7), .mv (.t 20), none⟩] [6, 7])
 (.seq
 (.ops [⟨(some 21), .load (some 2) (.t 6), none⟩, ⟨(some 22), .call (.c (.func 65 [])) [(.t 21)], none⟩, ⟨(some 23), .mv (.t 7), none⟩, ⟨(some 2), .mv (.t 22), none⟩, ⟨(some 3), .mv (.t 23), none⟩] [2, 3])
 .ret)))),
 none⟩
theorem c31 : cFunc Tryz.prog true none [[1], [1, 4], [6, 7], [2, 3]] Tryz.f31 = some m31 := by kernel_rfl

/-- (letterbox/search.Message).has -/
def m32 : MFunc := ⟨17, 3, [.t 6],
 (.seq
 (.ops [⟨(some 3), .box 45 (.t 0), none⟩, ⟨(some 4), .box 9 (.t 1), none⟩, ⟨(some 5), .box 9 (.t 2), none⟩, ⟨(some 6), .mv (.c (.bool false)), none⟩] [3, 4, 5])
 (.seq
 (.ops [⟨(some 10), .load (some 5) (.t 3), none⟩, ⟨(some 11), .call (.c (.func 35 [])) [(.t 10)], none⟩, ⟨(some 9), .mv (.t 11), none⟩, ⟨(some 12), .extract (.t 9) 0, none⟩, ⟨(some 13), .extract (.t 9) 1, none⟩, ⟨(some 8), .alloc 82 [(.int .i64 0), (.int .i64 0), (.int .i64 0), (.int .i64 0), (.int .i64 0), .nilslice, .nilslice, (.int .i64 0), (.int .i64 0)], none⟩, ⟨(some 7), .mv (.t 12), none⟩, ⟨none, .store 9 (.t 8) (.t 13), none⟩] [7, 4, 3, 5])
 (.seq
 (.ops [⟨(some 14), .mv (.t 7), none⟩, ⟨(some 15), .func 67 [(.t 4), (.t 3), (.t 5)], none⟩, ⟨(some 16), .call (.c (.func 66 [])) [(.t 14), (.t 15)], none⟩, ⟨(some 6), .mv (.t 16), none⟩] [6])
 .ret))),
 none⟩
theorem c32 : cFunc Tryz.prog true none [[3, 4, 5], [7, 4, 3, 5], [6]] Tryz.f32 = some m32 := by kernel_rfl

/-- strings.Contains -/
def m33 : MFunc := ⟨9, 2, [.t 4],
 (.seq
 (.ops [⟨(some 4), .mv (.c (.bool false)), none⟩] [0, 1])
 (.seq
 (.ops [⟨(some 5), .mv (.t 0), none⟩, ⟨(some 6), .mv (.t 1), none⟩, ⟨(some 7), .call (.c (.func 70 [])) [(.t 5), (.t 6)], none⟩, ⟨(some 8), .bin .geq (.t 7) (.c (.int .i64 0)), none⟩, ⟨(some 4), .mv (.t 8), none⟩] [4])
 .ret)),
 none⟩
theorem c33 : cFunc Tryz.prog true none [[0, 1], [4]] Tryz.f33 = some m33 := by kernel_rfl

/-- letterbox/chars.Fold -/
def m34 : MFunc := ⟨23, 1, [.t 2],
 (.seq
 (.ops [⟨(some 2), .mv (.c (.str [])), none⟩] [0])
 (.seq
 (.ops [⟨(some 5), .mv (.t 0), none⟩, ⟨(some 6), .conv .strBytes (.t 5), none⟩, ⟨(some 3), .mv (.t 6), none⟩] [3])
 (.seq
 (.seq
 (.ops [⟨(some 7), .mv (.t 3), none⟩, ⟨(some 8), .lenL (.t 7), none⟩, ⟨(some 9), .mv (.c (.int .i64 0)), none⟩] [9, 8, 3])
 (.block 0
  (.loop [9, 8, 3]
   (.seq
   (.ops [⟨(some 10), .bin .lss (.t 9) (.t 8), none⟩] [10, 9, 3, 8])
   (.seq
   (.cond (.t 10)
    .skip
    (.exit 0))
   (.seq
   (.block 1
    (.seq
    (.ops [⟨(some 11), .mv (.t 9), none⟩, ⟨(some 4), .mv (.t 11), none⟩] [3, 4, 9, 8])
    (.ops [⟨(some 12), .mv (.t 3), none⟩, ⟨(some 13), .mv (.t 4), none⟩, ⟨(some 14), .mv (.t 3), none⟩, ⟨(some 15), .mv (.t 4), none⟩, ⟨(some 16), .idxA 1 (.t 14) (.t 15), none⟩, ⟨(some 17), .load none (.t 16), none⟩, ⟨(some 18), .call (.c (.func 71 [])) [(.t 17)], none⟩, ⟨(some 19), .idxA 1 (.t 12) (.t 13), none⟩, ⟨none, .store 1 (.t 19) (.t 18), none⟩] [9, 8, 3])))
   (.ops [⟨(some 20), .bin .add (.t 9) (.c (.int .i64 1)), none⟩, ⟨(some 9), .mv (.t 20), none⟩] [9, 8, 3])))))))
 (.seq
 (.ops [⟨(some 21), .mv (.t 3), none⟩, ⟨(some 22), .conv .bytesStr (.t 21), none⟩, ⟨(some 2), .mv (.t 22), none⟩] [2])
 .ret)))),
 none⟩
theorem c34 : cFunc Tryz.prog false none [[0], [3], [9, 8, 3], [9, 8, 3], [10, 9, 3, 8], [3, 4, 9, 8], [9, 8, 3], [9, 8, 3], [2]] Tryz.f34 = some m34 := by kernel_rfl

/-- (letterbox/search.Message).fields -/
def m35 : MFunc := ⟨24, 1, [.t 2, .cell 3 (some 9)],
 (.seq
 (.ops [⟨(some 1), .box 45 (.t 0), none⟩, ⟨(some 2), .mv (.c .nilslice), none⟩, ⟨(some 3), .alloc 82 [(.int .i64 0), (.int .i64 0), (.int .i64 0), (.int .i64 0), (.int .i64 0), .nilslice, .nilslice, (.int .i64 0), (.int .i64 0)], none⟩] [1, 3])
 (.seq
 (.ops [⟨(some 9), .fieldA (.t 1) 4, none⟩, ⟨(some 10), .load none (.t 9), none⟩, ⟨(some 11), .call (.c (.func 72 [])) [(.t 10)], none⟩, ⟨(some 8), .mv (.t 11), none⟩, ⟨(some 12), .extract (.t 8) 0, none⟩, ⟨(some 13), .extract (.t 8) 1, none⟩, ⟨(some 4), .alloc 82 [(.int .i64 0), (.int .i64 0), (.int .i64 0), (.int .i64 0), (.int .i64 0), .nilslice, .nilslice, (.int .i64 0), (.int .i64 0)], none⟩, ⟨none, .store 9 (.t 4) (.t 12), none⟩, ⟨(some 5), .mv (.t 13), none⟩] [1, 4, 3])
 (.seq
 (.ops [⟨(some 15), .fieldA (.t 1) 4, none⟩, ⟨(some 16), .load none (.t 15), none⟩, ⟨(some 17), .fieldA (.t 4) 1, none⟩, ⟨(some 18), .load (some 2) (.t 17), none⟩, ⟨(some 19), .call (.c (.func 73 [])) [(.t 16), (.t 18)], none⟩, ⟨(some 14), .mv (.t 19), none⟩, ⟨(some 20), .extract (.t 14) 0, none⟩, ⟨(some 21), .extract (.t 14) 1, none⟩, ⟨(some 6), .mv (.t 20), none⟩, ⟨(some 7), .mv (.t 21), none⟩] [6, 4, 3])
 (.seq
 (.draw [⟨⟨(some 22), .mv (.t 6), none⟩, none⟩, ⟨⟨(some 23), .load (some 9) (.t 4), none⟩, none⟩, ⟨⟨(some 2), .mv (.t 22), none⟩, none⟩, ⟨⟨none, .store 9 (.t 3) (.t 23), none⟩, (some [3])⟩] [] [2, 3])
 .ret)))),
 none⟩
theorem c35 : cFunc Tryz.prog true none [[1, 3], [1, 4, 3], [6, 4, 3], [2, 3], []] Tryz.f35 = some m35 := by kernel_rfl

/-- letterbox/fetch.Get -/
def m36 : MFunc := ⟨21, 3, [.t 6],
 (.seq
 (.ops [⟨(some 4), .box 82 (.t 1), none⟩, ⟨(some 5), .box 88 (.t 2), none⟩, ⟨(some 6), .mv (.c .nilslice), none⟩] [0, 4, 5])
 (.seq
 (.ops [⟨(some 8), .mv (.t 0), none⟩, ⟨(some 9), .load (some 9) (.t 4), none⟩, ⟨(some 10), .load (some 6) (.t 5), none⟩, ⟨(some 11), .call (.c (.func 74 [])) [(.t 8), (.t 9), (.t 10)], none⟩, ⟨(some 7), .mv (.t 11), none⟩] [5, 7])
 (.seq
 (.seq
 (.ops [⟨(some 12), .fieldA (.t 5) 3, none⟩, ⟨(some 13), .load none (.t 12), none⟩] [13, 7, 5])
 (.cond (.t 13)
  (.seq
  (.ops [⟨(some 14), .mv (.t 7), none⟩, ⟨(some 15), .fieldA (.t 5) 4, none⟩, ⟨(some 16), .load none (.t 15), none⟩, ⟨(some 17), .fieldA (.t 5) 5, none⟩, ⟨(some 18), .load none (.t 17), none⟩, ⟨(some 19), .call (.c (.func 75 [])) [(.t 14), (.t 16), (.t 18)], none⟩, ⟨(some 6), .mv (.t 19), none⟩] [6])
  .ret)
  .skip))
 (.seq
 (.ops [⟨(some 20), .mv (.t 7), none⟩, ⟨(some 6), .mv (.t 20), none⟩] [6])
 .ret)))),
 none⟩
theorem c36 : cFunc Tryz.prog true none [[0, 4, 5], [5, 7], [13, 7, 5], [6], [6]] Tryz.f36 = some m36 := by kernel_rfl

/-- letterbox/wire.next -/
def m49 : MFunc := ⟨62, 1, [.cell 2 (some 2), .t 3, .t 4],
 (.seq
 (.ops [⟨(some 2), .alloc 26 [(.int .i64 0), (.str [])], none⟩, ⟨(some 3), .mv (.c (.str [])), none⟩, ⟨(some 4), .mv (.c (.bool false)), none⟩] [0, 2])
 (.seq
 (.seq
 (.ops [⟨(some 12), .mv (.t 0), none⟩, ⟨(some 13), .idxStr (.t 12) (.c (.int .i64 0)), none⟩] [13, 0, 2])
 (.block 0
  (.seq
  (.ops [⟨(some 15), .bin .eql (.t 13) (.c (.int .u8 40)), none⟩, ⟨(some 14), .mv (.t 15), none⟩] [14, 0, 2, 13])
  (.cond (.t 14)
   (.seq
   (.draw [⟨⟨(some 16), .build [(.int .i64 0), (.str [])] [(0, 1, (.c (.int .i64 3)))], none⟩, none⟩, ⟨⟨(some 17), .mv (.t 0), none⟩, none⟩, ⟨⟨(some 18), .sliceStr (.t 17) (some (.c (.int .i64 1))) none, none⟩, none⟩, ⟨⟨none, .store 2 (.t 2) (.t 16), none⟩, (some [3])⟩, ⟨⟨(some 3), .mv (.t 18), none⟩, none⟩, ⟨⟨(some 4), .mv (.c (.bool true)), none⟩, none⟩] [(1, [3], [3]), (2, [3], [3])] [2, 3, 4])
   .ret)
   (.seq
   (.ops [⟨(some 20), .bin .eql (.t 13) (.c (.int .u8 41)), none⟩, ⟨(some 19), .mv (.t 20), none⟩] [19, 0, 2, 13])
   (.cond (.t 19)
    (.seq
    (.draw [⟨⟨(some 21), .build [(.int .i64 0), (.str [])] [(0, 1, (.c (.int .i64 4)))], none⟩, none⟩, ⟨⟨(some 22), .mv (.t 0), none⟩, none⟩, ⟨⟨(some 23), .sliceStr (.t 22) (some (.c (.int .i64 1))) none, none⟩, none⟩, ⟨⟨none, .store 2 (.t 2) (.t 21), none⟩, (some [3])⟩, ⟨⟨(some 3), .mv (.t 23), none⟩, none⟩, ⟨⟨(some 4), .mv (.c (.bool true)), none⟩, none⟩] [(1, [3], [3]), (2, [3], [3])] [2, 3, 4])
    .ret)
    (.seq
    (.ops [⟨(some 25), .bin .eql (.t 13) (.c (.int .u8 32)), none⟩, ⟨(some 24), .mv (.t 25), none⟩] [24, 0, 2, 13])
    (.cond (.t 24)
     (.seq
     (.draw [⟨⟨(some 26), .build [(.int .i64 0), (.str [])] [(0, 1, (.c (.int .i64 5)))], none⟩, none⟩, ⟨⟨(some 27), .mv (.t 0), none⟩, none⟩, ⟨⟨(some 28), .sliceStr (.t 27) (some (.c (.int .i64 1))) none, none⟩, none⟩, ⟨⟨none, .store 2 (.t 2) (.t 26), none⟩, (some [3])⟩, ⟨⟨(some 3), .mv (.t 28), none⟩, none⟩, ⟨⟨(some 4), .mv (.c (.bool true)), none⟩, none⟩] [(1, [3], [3]), (2, [3], [3])] [2, 3, 4])
     .ret)
     (.seq
     (.ops [⟨(some 30), .bin .eql (.t 13) (.c (.int .u8 34)), none⟩, ⟨(some 29), .mv (.t 30), none⟩] [29, 0, 2])
     (.cond (.t 29)
      (.seq
      (.ops [⟨(some 32), .mv (.t 0), none⟩, ⟨(some 33), .call (.c (.func 94 [])) [(.t 32)], none⟩, ⟨(some 31), .mv (.t 33), none⟩, ⟨(some 34), .extract (.t 31) 0, none⟩, ⟨(some 35), .extract (.t 31) 1, none⟩, ⟨(some 36), .extract (.t 31) 2, none⟩, ⟨(some 5), .mv (.t 34), none⟩, ⟨(some 6), .mv (.t 35), none⟩, ⟨(some 7), .mv (.t 36), none⟩] [5, 6, 7, 2])
      (.seq
      (.ops [⟨(some 37), .mv (.t 5), none⟩, ⟨(some 38), .build [(.int .i64 0), (.str [])] [(0, 1, (.c (.int .i64 2))), (1, 1, (.t 37))], none⟩, ⟨(some 39), .mv (.t 6), none⟩, ⟨(some 40), .mv (.t 7), none⟩, ⟨none, .store 2 (.t 2) (.t 38), none⟩, ⟨(some 3), .mv (.t 39), none⟩, ⟨(some 4), .mv (.t 40), none⟩] [2, 3, 4])
      .ret))
      .skip))))))))))
 (.seq
 (.seq
 (.ops [⟨(some 42), .mv (.t 0), none⟩, ⟨(some 43), .call (.c (.func 95 [])) [(.t 42)], none⟩, ⟨(some 41), .mv (.t 43), none⟩, ⟨(some 44), .extract (.t 41) 0, none⟩, ⟨(some 45), .extract (.t 41) 1, none⟩, ⟨(some 46), .extract (.t 41) 2, none⟩, ⟨(some 8), .mv (.t 44), none⟩, ⟨(some 9), .mv (.t 45), none⟩, ⟨(some 10), .mv (.t 46), none⟩] [10, 8, 9, 2, 0])
 (.seq
 (.ops [⟨(some 47), .mv (.t 10), none⟩] [47, 8, 9, 2, 0])
 (.cond (.t 47)
  (.seq
  (.ops [⟨(some 48), .mv (.t 8), none⟩, ⟨(some 49), .build [(.int .i64 0), (.str [])] [(0, 1, (.c (.int .i64 2))), (1, 1, (.t 48))], none⟩, ⟨(some 50), .mv (.t 9), none⟩, ⟨none, .store 2 (.t 2) (.t 49), none⟩, ⟨(some 3), .mv (.t 50), none⟩, ⟨(some 4), .mv (.c (.bool true)), none⟩] [2, 3, 4])
  .ret)
  .skip)))
 (.seq
 (.ops [⟨(some 51), .mv (.t 0), none⟩, ⟨(some 52), .call (.c (.func 96 [])) [(.t 51)], none⟩, ⟨(some 11), .mv (.t 52), none⟩] [0, 11, 2])
 (.seq
 (.draw [⟨⟨(some 53), .mv (.t 0), none⟩, none⟩, ⟨⟨(some 54), .mv (.t 11), none⟩, none⟩, ⟨⟨(some 55), .sliceStr (.t 53) none (some (.t 54)), none⟩, none⟩, ⟨⟨(some 56), .build [(.int .i64 0), (.str [])] [(0, 1, (.c (.int .i64 1))), (1, 1, (.t 55))], none⟩, none⟩, ⟨⟨(some 57), .mv (.t 0), none⟩, none⟩, ⟨⟨(some 58), .mv (.t 11), none⟩, none⟩, ⟨⟨(some 59), .sliceStr (.t 57) (some (.t 58)) none, none⟩, none⟩, ⟨⟨(some 60), .mv (.t 11), none⟩, none⟩, ⟨⟨(some 61), .bin .gtr (.t 60) (.c (.int .i64 0)), none⟩, none⟩, ⟨⟨none, .store 2 (.t 2) (.t 56), none⟩, (some [9])⟩, ⟨⟨(some 3), .mv (.t 59), none⟩, none⟩, ⟨⟨(some 4), .mv (.t 61), none⟩, none⟩] [(4, [9], [9]), (5, [9], [9]), (6, [9], [9]), (7, [9], [9]), (8, [9], [9])] [2, 3, 4])
 .ret))))),
 none⟩
theorem c49 : cFunc Tryz.prog true none [[0, 2], [13, 0, 2], [14, 0, 2, 13], [2, 3, 4], [], [19, 0, 2, 13], [2, 3, 4], [], [24, 0, 2, 13], [2, 3, 4], [], [29, 0, 2], [5, 6, 7, 2], [2, 3, 4], [10, 8, 9, 2, 0], [47, 8, 9, 2, 0], [2, 3, 4], [0, 11, 2], [2, 3, 4], []] Tryz.f49 = some m49 := by kernel_rfl

/-- (*letterbox/search.reader).key -/
def m51 : MFunc := ⟨59, 2, [.cell 4 (some 5)],
 (.seq
 (.ops [⟨(some 4), .alloc 30 [(.str []), (.str []), (.str []), (.int .i64 0), .nilslice], none⟩] [1, 0, 4])
 (.seq
 (.seq
 (.ops [⟨(some 12), .mv (.t 1), none⟩, ⟨(some 13), .bin .gtr (.t 12) (.c (.int .i64 32)), none⟩] [13, 0, 1, 4])
 (.cond (.t 13)
  (.ops [⟨(some 14), .mv (.t 0), none⟩, ⟨(some 15), .call (.c (.func 21 [])) [(.t 14), (.c (.int .i64 50))], none⟩] [0, 1, 4])
  .skip))
 (.seq
 (.seq
 (.ops [⟨(some 16), .mv (.t 0), none⟩, ⟨(some 17), .call (.c (.func 52 [])) [(.t 16)], none⟩, ⟨(some 18), .bin .eql (.t 17) (.c (.int .i64 3)), none⟩] [18, 0, 1, 4])
 (.cond (.t 18)
  (.seq
  (.ops [⟨(some 19), .mv (.t 0), none⟩, ⟨(some 20), .mkSlice 1 (.int .i64 0) 1 [(0, (.c (.int .i64 3)))], none⟩, ⟨(some 21), .call (.c (.func 53 [])) [(.t 19), (.t 20)], none⟩] [0, 1, 4])
  (.seq
  (.ops [⟨(some 22), .mv (.t 0), none⟩, ⟨(some 23), .mv (.t 1), none⟩, ⟨(some 24), .call (.c (.func 20 [])) [(.t 22), (.t 23)], none⟩, ⟨(some 5), .alloc 30 [(.str []), (.str []), (.str []), (.int .i64 0), .nilslice], none⟩, ⟨none, .store 5 (.t 5) (.t 24), none⟩] [0, 5, 4])
  (.seq
  (.ops [⟨(some 25), .mv (.t 0), none⟩, ⟨(some 26), .mkSlice 1 (.int .i64 0) 1 [(0, (.c (.int .i64 4)))], none⟩, ⟨(some 27), .call (.c (.func 53 [])) [(.t 25), (.t 26)], none⟩] [5, 4])
  (.seq
  (.ops [⟨(some 28), .load (some 5) (.t 5), none⟩, ⟨none, .store 5 (.t 4) (.t 28), none⟩] [4])
  .ret))))
  .skip))
 (.seq
 (.ops [⟨(some 29), .mv (.t 0), none⟩, ⟨(some 30), .mkSlice 1 (.int .i64 0) 1 [(0, (.c (.int .i64 1)))], none⟩, ⟨(some 31), .call (.c (.func 53 [])) [(.t 29), (.t 30)], none⟩, ⟨(some 6), .mv (.t 31), none⟩] [6, 0, 1, 4])
 (.seq
 (.ops [⟨(some 32), .mv (.t 6), none⟩, ⟨(some 33), .call (.c (.func 102 [])) [(.t 32)], none⟩, ⟨(some 34), .build [(.str []), (.str []), (.str []), (.int .i64 0), .nilslice] [(0, 1, (.t 33))], none⟩, ⟨(some 7), .alloc 30 [(.str []), (.str []), (.str []), (.int .i64 0), .nilslice], none⟩, ⟨none, .store 5 (.t 7) (.t 34), none⟩] [7, 0, 1, 4, 6])
 (.seq
 (.seq
 (.ops [⟨(some 36), .fieldA (.t 7) 0, none⟩, ⟨(some 37), .load none (.t 36), none⟩, ⟨(some 38), .call (.c (.func 103 [])) [(.t 37)], none⟩, ⟨(some 35), .mv (.t 38), none⟩, ⟨(some 39), .extract (.t 35) 0, none⟩, ⟨(some 40), .extract (.t 35) 1, none⟩, ⟨(some 8), .mv (.t 39), none⟩, ⟨(some 9), .mv (.t 40), none⟩] [9, 8, 0, 1, 7, 4, 6])
 (.seq
 (.ops [⟨(some 41), .mv (.t 9), none⟩] [41, 8, 0, 1, 7, 4, 6])
 (.cond (.t 41)
  (.seq
  (.ops [⟨(some 42), .mv (.t 8), none⟩, ⟨(some 43), .mv (.t 0), none⟩, ⟨(some 44), .mv (.t 1), none⟩, ⟨(some 45), .bin .add (.t 44) (.c (.int .i64 1)), none⟩, ⟨(some 46), .call (.t 42) [(.t 43), (.t 7), (.t 45)], none⟩] [7, 4])
  (.seq
  (.ops [⟨(some 47), .load (some 5) (.t 7), none⟩, ⟨none, .store 5 (.t 4) (.t 47), none⟩] [4])
  .ret))
  .skip)))
 (.seq
 (.seq
 (.ops [⟨(some 49), .mv (.t 6), none⟩, ⟨(some 50), .call (.c (.func 58 [])) [(.t 49)], none⟩, ⟨(some 48), .mv (.t 50), none⟩, ⟨(some 51), .extract (.t 48) 0, none⟩, ⟨(some 52), .extract (.t 48) 1, none⟩, ⟨(some 10), .mv (.t 51), none⟩, ⟨(some 11), .mv (.t 52), none⟩] [11, 0, 6, 4])
 (.seq
 (.ops [⟨(some 53), .mv (.t 11), none⟩, ⟨(some 54), .bin .neq (.t 53) (.c (.int .i64 0)), none⟩] [54, 0, 6, 4])
 (.cond (.t 54)
  (.ops [⟨(some 55), .mv (.t 0), none⟩, ⟨(some 56), .call (.c (.func 21 [])) [(.t 55), (.c (.int .i64 50))], none⟩] [6, 4])
  .skip)))
 (.seq
 (.ops [⟨(some 57), .mv (.t 6), none⟩, ⟨(some 58), .build [(.str []), (.str []), (.str []), (.int .i64 0), .nilslice] [(0, 1, (.c (.str [83, 69, 84]))), (1, 1, (.t 57))], none⟩, ⟨none, .store 5 (.t 4) (.t 58), none⟩] [4])
 .ret)))))))),
 none⟩
theorem c51 : cFunc Tryz.prog true none [[1, 0, 4], [13, 0, 1, 4], [0, 1, 4], [18, 0, 1, 4], [0, 1, 4], [0, 5, 4], [5, 4], [4], [6, 0, 1, 4], [7, 0, 1, 4, 6], [9, 8, 0, 1, 7, 4, 6], [41, 8, 0, 1, 7, 4, 6], [7, 4], [4], [11, 0, 6, 4], [54, 0, 6, 4], [6, 4], [4]] Tryz.f51 = some m51 := by kernel_rfl

/-- (*letterbox/search.reader).kind -/
def m52 : MFunc := ⟨23, 1, [.t 2],
 (.seq
 (.ops [⟨(some 2), .mv (.c (.int .i64 0)), none⟩] [0])
 (.seq
 (.seq
 (.ops [⟨(some 3), .mv (.t 0), none⟩, ⟨(some 4), .nilCheck (.t 3), none⟩, ⟨(some 5), .fieldA (.t 4) 0, none⟩, ⟨(some 6), .load none (.t 5), none⟩, ⟨(some 7), .lenL (.t 6), none⟩, ⟨(some 8), .bin .eql (.t 7) (.c (.int .i64 0)), none⟩, ⟨(some 9), .mv (.t 8), none⟩, ⟨(some 10), .mv (.t 0), (some (9, false))⟩, ⟨(some 11), .nilCheck (.t 10), (some (9, false))⟩, ⟨(some 12), .fieldA (.t 11) 2, (some (9, false))⟩, ⟨(some 13), .load none (.t 12), (some (9, false))⟩, ⟨(some 14), .bin .neq (.t 13) (.c (.int .i64 0)), (some (9, false))⟩, ⟨(some 15), .pick (.t 9) (.c (.bool true)) (.t 14), none⟩] [15, 0])
 (.cond (.t 15)
  (.seq
  (.ops [⟨(some 2), .mv (.c (.int .i64 0)), none⟩] [2])
  .ret)
  .skip))
 (.seq
 (.ops [⟨(some 16), .mv (.t 0), none⟩, ⟨(some 17), .nilCheck (.t 16), none⟩, ⟨(some 18), .fieldA (.t 17) 0, none⟩, ⟨(some 19), .load none (.t 18), none⟩, ⟨(some 20), .idxA 2 (.t 19) (.c (.int .i64 0)), none⟩, ⟨(some 21), .fieldA (.t 20) 0, none⟩, ⟨(some 22), .load none (.t 21), none⟩, ⟨(some 2), .mv (.t 22), none⟩] [2])
 .ret))),
 none⟩
theorem c52 : cFunc Tryz.prog true none [[0], [15, 0], [2], [2]] Tryz.f52 = some m52 := by kernel_rfl

/-- (*letterbox/search.reader).take -/
def m53 : MFunc := ⟨29, 2, [.t 4],
 (.seq
 (.ops [⟨(some 4), .mv (.c (.str [])), none⟩] [1, 0])
 (.seq
 (.seq
 (.ops [⟨(some 6), .mv (.t 1), none⟩, ⟨(some 7), .mv (.t 0), none⟩, ⟨(some 8), .call (.c (.func 52 [])) [(.t 7)], none⟩, ⟨(some 9), .call (.c (.func 104 [])) [(.t 6), (.t 8)], none⟩, ⟨(some 10), .un .not (.t 9), none⟩] [10, 0])
 (.cond (.t 10)
  (.seq
  (.ops [⟨(some 11), .mv (.t 0), none⟩, ⟨(some 12), .call (.c (.func 21 [])) [(.t 11), (.c (.int .i64 50))], none⟩] [])
  (.seq
  (.ops [⟨(some 4), .mv (.c (.str [])), none⟩] [4])
  .ret))
  .skip))
 (.seq
 (.ops [⟨(some 13), .mv (.t 0), none⟩, ⟨(some 14), .nilCheck (.t 13), none⟩, ⟨(some 15), .fieldA (.t 14) 0, none⟩, ⟨(some 16), .load none (.t 15), none⟩, ⟨(some 17), .idxA 2 (.t 16) (.c (.int .i64 0)), none⟩, ⟨(some 18), .fieldA (.t 17) 1, none⟩, ⟨(some 19), .load none (.t 18), none⟩, ⟨(some 5), .mv (.t 19), none⟩] [0, 5])
 (.seq
 (.ops [⟨(some 20), .mv (.t 0), none⟩, ⟨(some 21), .mv (.t 0), none⟩, ⟨(some 22), .nilCheck (.t 21), none⟩, ⟨(some 23), .fieldA (.t 22) 0, none⟩, ⟨(some 24), .load none (.t 23), none⟩, ⟨(some 25), .slice 2 (.t 24) (some (.c (.int .i64 1))) none none, none⟩, ⟨(some 26), .nilCheck (.t 20), none⟩, ⟨(some 27), .fieldA (.t 26) 0, none⟩, ⟨none, .store 1 (.t 27) (.t 25), none⟩] [5])
 (.seq
 (.ops [⟨(some 28), .mv (.t 5), none⟩, ⟨(some 4), .mv (.t 28), none⟩] [4])
 .ret))))),
 none⟩
theorem c53 : cFunc Tryz.prog true none [[1, 0], [10, 0], [], [4], [0, 5], [5], [4]] Tryz.f53 = some m53 := by kernel_rfl

/-- slices.IndexFunc[[]letterbox/search.Key,letterbox/search.Key] -/
def m57 : MFunc := ⟨19, 2, [.t 4],
 (.seq
 (.ops [⟨(some 4), .mv (.c (.int .i64 0)), none⟩] [0, 1])
 (.seq
 (.seq
 (.ops [⟨(some 6), .mv (.t 0), none⟩, ⟨(some 7), .lenL (.t 6), none⟩, ⟨(some 8), .mv (.c (.int .i64 0)), none⟩] [8, 7, 1, 0])
 (.block 0
  (.loop [8, 7, 1, 0]
   (.seq
   (.ops [⟨(some 9), .bin .lss (.t 8) (.t 7), none⟩] [9, 8, 1, 0, 7])
   (.seq
   (.cond (.t 9)
    .skip
    (.exit 0))
   (.seq
   (.block 1
    (.seq
    (.ops [⟨(some 10), .mv (.t 8), none⟩, ⟨(some 5), .mv (.t 10), none⟩] [1, 0, 5, 8, 7])
    (.seq
    (.ops [⟨(some 11), .mv (.t 1), none⟩, ⟨(some 12), .mv (.t 0), none⟩, ⟨(some 13), .mv (.t 5), none⟩, ⟨(some 14), .idxA 5 (.t 12) (.t 13), none⟩, ⟨(some 15), .load (some 5) (.t 14), none⟩, ⟨(some 16), .call (.t 11) [(.t 15)], none⟩] [16, 5, 8, 7, 1, 0])
    (.cond (.t 16)
     (.seq
     (.ops [⟨(some 17), .mv (.t 5), none⟩, ⟨(some 4), .mv (.t 17), none⟩] [4])
     .ret)
     .skip))))
   (.ops [⟨(some 18), .bin .add (.t 8) (.c (.int .i64 1)), none⟩, ⟨(some 8), .mv (.t 18), none⟩] [8, 7, 1, 0])))))))
 (.seq
 (.ops [⟨(some 4), .mv (.c (.int .i64 (-1))), none⟩] [4])
 .ret))),
 none⟩
theorem c57 : cFunc Tryz.prog true none [[0, 1], [8, 7, 1, 0], [8, 7, 1, 0], [9, 8, 1, 0, 7], [1, 0, 5, 8, 7], [16, 5, 8, 7, 1, 0], [4], [8, 7, 1, 0], [4]] Tryz.f57 = some m57 := by kernel_rfl

/-- letterbox/seqset.Parse -/
def m58 : MFunc := ⟨52, 1, [.t 2, .t 3],
 (.seq
 (.ops [⟨(some 2), .mv (.c .nilslice), none⟩, ⟨(some 3), .mv (.c (.int .i64 0)), none⟩] [0])
 (.seq
 (.ops [⟨(some 4), .mv (.c .nilslice), none⟩] [0, 4])
 (.seq
 (.ops [⟨(some 12), .mv (.t 0), none⟩, ⟨(some 13), .call (.c (.func 111 [])) [(.t 12), (.c (.int .u8 44))], none⟩, ⟨(some 5), .mv (.t 13), none⟩] [5, 4])
 (.seq
 (.seq
 (.ops [⟨(some 14), .mv (.t 5), none⟩, ⟨(some 15), .lenL (.t 14), none⟩, ⟨(some 16), .mv (.c (.int .i64 0)), none⟩] [16, 15, 14, 4, 5])
 (.block 0
  (.loop [16, 15, 14, 4, 5]
   (.seq
   (.ops [⟨(some 17), .bin .lss (.t 16) (.t 15), none⟩] [17, 14, 16, 4, 15, 5])
   (.seq
   (.cond (.t 17)
    .skip
    (.exit 0))
   (.seq
   (.block 1
    (.seq
    (.ops [⟨(some 18), .idxA 1 (.t 14) (.t 16), none⟩, ⟨(some 19), .load none (.t 18), none⟩, ⟨(some 7), .mv (.t 19), none⟩] [7, 4, 16, 15, 14, 5])
    (.seq
    (.ops [⟨(some 21), .mv (.t 7), none⟩, ⟨(some 22), .call (.c (.func 112 [])) [(.t 21), (.c (.str [58]))], none⟩, ⟨(some 20), .mv (.t 22), none⟩, ⟨(some 23), .extract (.t 20) 0, none⟩, ⟨(some 24), .extract (.t 20) 1, none⟩, ⟨(some 25), .extract (.t 20) 2, none⟩, ⟨(some 8), .mv (.t 23), none⟩, ⟨(some 9), .mv (.t 24), none⟩, ⟨(some 10), .mv (.t 25), none⟩] [8, 10, 9, 4, 16, 15, 14, 5])
    (.seq
    (.ops [⟨(some 26), .mv (.t 8), none⟩, ⟨(some 27), .call (.c (.func 113 [])) [(.t 26)], none⟩, ⟨(some 28), .mv (.t 8), none⟩, ⟨(some 29), .call (.c (.func 113 [])) [(.t 28)], none⟩, ⟨(some 30), .build [(.int .i64 0), (.int .i64 0)] [(0, 1, (.t 27)), (1, 1, (.t 29))], none⟩, ⟨(some 11), .alloc 172 [(.int .i64 0), (.int .i64 0)], none⟩, ⟨none, .store 2 (.t 11) (.t 30), none⟩] [10, 9, 11, 4, 16, 15, 14, 5])
    (.seq
    (.seq
    (.ops [⟨(some 31), .mv (.t 10), none⟩] [31, 9, 11, 4, 16, 15, 14, 5])
    (.cond (.t 31)
     (.ops [⟨(some 32), .mv (.t 9), none⟩, ⟨(some 33), .call (.c (.func 113 [])) [(.t 32)], none⟩, ⟨(some 34), .fieldA (.t 11) 1, none⟩, ⟨none, .store 1 (.t 34) (.t 33), none⟩] [11, 4, 16, 15, 14, 5])
     .skip))
    (.seq
    (.seq
    (.ops [⟨(some 35), .fieldA (.t 11) 0, none⟩, ⟨(some 36), .load none (.t 35), none⟩, ⟨(some 37), .bin .lss (.t 36) (.c (.int .i64 0)), none⟩, ⟨(some 38), .mv (.t 37), none⟩, ⟨(some 39), .fieldA (.t 11) 1, (some (38, false))⟩, ⟨(some 40), .load none (.t 39), (some (38, false))⟩, ⟨(some 41), .bin .lss (.t 40) (.c (.int .i64 0)), (some (38, false))⟩, ⟨(some 42), .pick (.t 38) (.c (.bool true)) (.t 41), none⟩] [42, 4, 11, 16, 15, 14, 5])
    (.cond (.t 42)
     (.seq
     (.ops [⟨(some 2), .mv (.c .nilslice), none⟩, ⟨(some 3), .mv (.c (.int .i64 50)), none⟩] [2, 3])
     .ret)
     .skip))
    (.ops [⟨(some 43), .mv (.t 4), none⟩, ⟨(some 44), .load (some 2) (.t 11), none⟩, ⟨(some 45), .mkSlice 2 (.agg [(.int .i64 0), (.int .i64 0)]) 1 [(0, (.t 44))], none⟩, ⟨(some 46), .append 172 2 16 (.t 43) (.t 45), none⟩, ⟨(some 4), .mv (.t 46), none⟩] [16, 15, 14, 4, 5])))))))
   (.ops [⟨(some 47), .bin .add (.t 16) (.c (.int .i64 1)), none⟩, ⟨(some 16), .mv (.t 47), none⟩] [16, 15, 14, 4, 5])))))))
 (.seq
 (.seq
 (.ops [⟨(some 48), .mv (.t 5), none⟩, ⟨(some 49), .lenL (.t 48), none⟩, ⟨(some 50), .bin .gtr (.t 49) (.c (.int .i64 1000)), none⟩] [50, 4])
 (.cond (.t 50)
  (.seq
  (.ops [⟨(some 2), .mv (.c .nilslice), none⟩, ⟨(some 3), .mv (.c (.int .i64 13)), none⟩] [2, 3])
  .ret)
  .skip))
 (.seq
 (.ops [⟨(some 51), .mv (.t 4), none⟩, ⟨(some 2), .mv (.t 51), none⟩, ⟨(some 3), .mv (.c (.int .i64 0)), none⟩] [2, 3])
 .ret)))))),
 none⟩
theorem c58 : cFunc Tryz.prog true none [[0], [0, 4], [5, 4], [16, 15, 14, 4, 5], [16, 15, 14, 4, 5], [17, 14, 16, 4, 15, 5], [7, 4, 16, 15, 14, 5], [8, 10, 9, 4, 16, 15, 14, 5], [10, 9, 11, 4, 16, 15, 14, 5], [31, 9, 11, 4, 16, 15, 14, 5], [11, 4, 16, 15, 14, 5], [42, 4, 11, 16, 15, 14, 5], [2, 3], [16, 15, 14, 4, 5], [16, 15, 14, 4, 5], [50, 4], [2, 3], [2, 3]] Tryz.f58 = some m58 := by kernel_rfl

/-- letterbox/seqset.Has -/
def m59 : MFunc := ⟨12, 3, [.t 6],
 (.seq
 (.ops [⟨(some 4), .box 3 (.t 1), none⟩, ⟨(some 5), .box 3 (.t 2), none⟩, ⟨(some 6), .mv (.c (.bool false)), none⟩] [5, 0, 4])
 (.seq
 (.ops [⟨(some 8), .func 114 [(.t 5)], none⟩, ⟨(some 7), .alloc 173 [.nilfunc], none⟩, ⟨none, .store 1 (.t 7) (.t 8), none⟩] [0, 7, 4])
 (.seq
 (.ops [⟨(some 9), .mv (.t 0), none⟩, ⟨(some 10), .func 116 [(.t 7), (.t 4)], none⟩, ⟨(some 11), .call (.c (.func 115 [])) [(.t 9), (.t 10)], none⟩, ⟨(some 6), .mv (.t 11), none⟩] [6])
 .ret))),
 none⟩
theorem c59 : cFunc Tryz.prog true none [[5, 0, 4], [0, 7, 4], [6]] Tryz.f59 = some m59 := by kernel_rfl

/-- slices.ContainsFunc[[]string,string] -/
def m60 : MFunc := ⟨9, 2, [.t 4],
 (.seq
 (.ops [⟨(some 4), .mv (.c (.bool false)), none⟩] [0, 1])
 (.seq
 (.ops [⟨(some 5), .mv (.t 0), none⟩, ⟨(some 6), .mv (.t 1), none⟩, ⟨(some 7), .call (.c (.func 117 [])) [(.t 5), (.t 6)], none⟩, ⟨(some 8), .bin .geq (.t 7) (.c (.int .i64 0)), none⟩, ⟨(some 4), .mv (.t 8), none⟩] [4])
 .ret)),
 none⟩
theorem c60 : cFunc Tryz.prog true none [[0, 1], [4]] Tryz.f60 = some m60 := by kernel_rfl

/-- (letterbox/search.Message).flagged$1 -/
def m61 : MFunc := ⟨7, 2, [.t 3],
 (.seq
 (.ops [⟨(some 3), .mv (.c (.bool false)), none⟩] [0, 1])
 (.seq
 (.ops [⟨(some 4), .mv (.t 0), none⟩, ⟨(some 5), .load none (.t 1), none⟩, ⟨(some 6), .call (.c (.func 62 [])) [(.t 4), (.t 5)], none⟩, ⟨(some 3), .mv (.t 6), none⟩] [3])
 .ret)),
 none⟩
theorem c61 : cFunc Tryz.prog true none [[0, 1], [3]] Tryz.f61 = some m61 := by kernel_rfl

/-- letterbox/chars.Same -/
def m62 : MFunc := ⟨10, 2, [.t 4],
 (.seq
 (.ops [⟨(some 4), .mv (.c (.bool false)), none⟩] [0, 1])
 (.seq
 (.ops [⟨(some 5), .mv (.t 0), none⟩, ⟨(some 6), .call (.c (.func 34 [])) [(.t 5)], none⟩, ⟨(some 7), .mv (.t 1), none⟩, ⟨(some 8), .call (.c (.func 34 [])) [(.t 7)], none⟩, ⟨(some 9), .bin .eql (.t 6) (.t 8), none⟩, ⟨(some 4), .mv (.t 9), none⟩] [4])
 .ret)),
 none⟩
theorem c62 : cFunc Tryz.prog true none [[0, 1], [4]] Tryz.f62 = some m62 := by kernel_rfl

/-- letterbox/date.Parse -/
def m63 : MFunc := ⟨93, 1, [.cell 2 (some 2), .t 3],
 (.seq
 (.ops [⟨(some 2), .alloc 124 [(.int .i64 0), (.int .i64 0)], none⟩, ⟨(some 3), .mv (.c (.bool false)), none⟩] [0, 2])
 (.seq
 (.ops [⟨(some 11), .mv (.t 0), none⟩, ⟨(some 12), .call (.c (.func 119 [])) [(.t 11)], none⟩, ⟨(some 13), .call (.c (.func 118 [])) [(.t 12)], none⟩, ⟨(some 4), .mv (.t 13), none⟩] [4, 2])
 (.seq
 (.seq
 (.ops [⟨(some 14), .mv (.t 4), none⟩, ⟨(some 15), .lenL (.t 14), none⟩, ⟨(some 16), .bin .gtr (.t 15) (.c (.int .i64 0)), none⟩, ⟨(some 17), .mv (.t 16), none⟩, ⟨(some 18), .mv (.t 4), (some (17, true))⟩, ⟨(some 19), .idxA 1 (.t 18) (.c (.int .i64 0)), (some (17, true))⟩, ⟨(some 20), .load none (.t 19), (some (17, true))⟩, ⟨(some 21), .lenS (.t 20), (some (17, true))⟩, ⟨(some 22), .bin .eql (.t 21) (.c (.int .i64 4)), (some (17, true))⟩, ⟨(some 23), .pick (.t 17) (.t 22) (.c (.bool false)), none⟩, ⟨(some 24), .mv (.t 23), none⟩, ⟨(some 25), .mv (.t 4), (some (24, true))⟩, ⟨(some 26), .idxA 1 (.t 25) (.c (.int .i64 0)), (some (24, true))⟩, ⟨(some 27), .load none (.t 26), (some (24, true))⟩, ⟨(some 28), .idxStr (.t 27) (.c (.int .i64 3)), (some (24, true))⟩, ⟨(some 29), .bin .eql (.t 28) (.c (.int .u8 44)), (some (24, true))⟩, ⟨(some 30), .pick (.t 24) (.t 29) (.c (.bool false)), none⟩] [30, 4, 2])
 (.cond (.t 30)
  (.ops [⟨(some 31), .mv (.t 4), none⟩, ⟨(some 32), .slice 1 (.t 31) (some (.c (.int .i64 1))) none none, none⟩, ⟨(some 4), .mv (.t 32), none⟩] [4, 2])
  .skip))
 (.seq
 (.seq
 (.ops [⟨(some 33), .mv (.t 4), none⟩, ⟨(some 34), .lenL (.t 33), none⟩, ⟨(some 35), .bin .lss (.t 34) (.c (.int .i64 4)), none⟩, ⟨(some 36), .mv (.t 35), none⟩, ⟨(some 37), .mv (.t 4), (some (36, false))⟩, ⟨(some 38), .lenL (.t 37), (some (36, false))⟩, ⟨(some 39), .bin .gtr (.t 38) (.c (.int .i64 5)), (some (36, false))⟩, ⟨(some 40), .pick (.t 36) (.c (.bool true)) (.t 39), none⟩] [40, 2, 4])
 (.cond (.t 40)
  (.seq
  (.ops [⟨(some 41), .build [(.int .i64 0), (.int .i64 0)] [], none⟩, ⟨none, .store 2 (.t 2) (.t 41), none⟩, ⟨(some 3), .mv (.c (.bool false)), none⟩] [2, 3])
  .ret)
  .skip))
 (.seq
 (.ops [⟨(some 42), .mv (.t 4), none⟩, ⟨(some 43), .idxA 1 (.t 42) (.c (.int .i64 1)), none⟩, ⟨(some 44), .load none (.t 43), none⟩, ⟨(some 45), .call (.c (.func 120 [])) [(.t 44)], none⟩, ⟨(some 5), .mv (.t 45), none⟩, ⟨(some 6), .mv (.c (.int .i64 0)), none⟩, ⟨(some 7), .mv (.c (.bool true)), none⟩] [4, 5, 2, 7, 6])
 (.seq
 (.seq
 (.ops [⟨(some 46), .mv (.t 4), none⟩, ⟨(some 47), .lenL (.t 46), none⟩, ⟨(some 48), .bin .eql (.t 47) (.c (.int .i64 5)), none⟩] [48, 4, 5, 2, 7, 6])
 (.cond (.t 48)
  (.ops [⟨(some 50), .mv (.t 4), none⟩, ⟨(some 51), .idxA 1 (.t 50) (.c (.int .i64 4)), none⟩, ⟨(some 52), .load none (.t 51), none⟩, ⟨(some 53), .call (.c (.func 121 [])) [(.t 52)], none⟩, ⟨(some 49), .mv (.t 53), none⟩, ⟨(some 54), .extract (.t 49) 0, none⟩, ⟨(some 55), .extract (.t 49) 1, none⟩, ⟨(some 6), .mv (.t 54), none⟩, ⟨(some 7), .mv (.t 55), none⟩] [4, 5, 7, 2, 6])
  .skip))
 (.seq
 (.ops [⟨(some 56), .mv (.t 4), none⟩, ⟨(some 57), .idxA 1 (.t 56) (.c (.int .i64 3)), none⟩, ⟨(some 58), .load none (.t 57), none⟩, ⟨(some 59), .mkSlice 1 (.int .i64 0) 2 [(0, (.c (.int .i64 2))), (1, (.c (.int .i64 3)))], none⟩, ⟨(some 60), .call (.c (.func 122 [])) [(.t 58), (.c (.int .i64 60)), (.t 59)], none⟩, ⟨(some 8), .mv (.t 60), none⟩] [5, 7, 8, 2, 4, 6])
 (.seq
 (.seq
 (.ops [⟨(some 61), .mv (.t 5), none⟩, ⟨(some 62), .bin .lss (.t 61) (.c (.int .i64 0)), none⟩, ⟨(some 63), .mv (.t 62), none⟩, ⟨(some 64), .mv (.t 7), (some (63, false))⟩, ⟨(some 65), .un .not (.t 64), (some (63, false))⟩, ⟨(some 66), .pick (.t 63) (.c (.bool true)) (.t 65), none⟩, ⟨(some 67), .mv (.t 66), none⟩, ⟨(some 68), .mv (.t 8), (some (67, false))⟩, ⟨(some 69), .bin .lss (.t 68) (.c (.int .i64 0)), (some (67, false))⟩, ⟨(some 70), .pick (.t 67) (.c (.bool true)) (.t 69), none⟩] [70, 2, 4, 5, 8, 6])
 (.cond (.t 70)
  (.seq
  (.ops [⟨(some 71), .build [(.int .i64 0), (.int .i64 0)] [], none⟩, ⟨none, .store 2 (.t 2) (.t 71), none⟩, ⟨(some 3), .mv (.c (.bool false)), none⟩] [2, 3])
  .ret)
  .skip))
 (.seq
 (.draw [⟨⟨(some 73), .mv (.t 4), none⟩, none⟩, ⟨⟨(some 74), .idxA 1 (.t 73) (.c (.int .i64 2)), none⟩, none⟩, ⟨⟨(some 75), .load none (.t 74), none⟩, none⟩, ⟨⟨(some 76), .call (.c (.func 124 [])) [(.t 75)], none⟩, none⟩, ⟨⟨(some 77), .mv (.t 5), none⟩, none⟩, ⟨⟨(some 78), .mv (.t 4), none⟩, none⟩, ⟨⟨(some 79), .idxA 1 (.t 78) (.c (.int .i64 0)), none⟩, none⟩, ⟨⟨(some 80), .load none (.t 79), none⟩, none⟩, ⟨⟨(some 81), .mkSlice 1 (.int .i64 0) 2 [(0, (.c (.int .i64 1))), (1, (.c (.int .i64 2)))], none⟩, none⟩, ⟨⟨(some 82), .call (.c (.func 125 [])) [(.t 80), (.t 81)], none⟩, none⟩, ⟨⟨(some 83), .call (.c (.func 123 [])) [(.t 76), (.t 77), (.t 82)], none⟩, none⟩, ⟨⟨(some 72), .mv (.t 83), none⟩, none⟩, ⟨⟨(some 84), .extract (.t 72) 0, none⟩, none⟩, ⟨⟨(some 85), .extract (.t 72) 1, none⟩, none⟩, ⟨⟨(some 9), .mv (.t 84), none⟩, none⟩, ⟨⟨(some 10), .mv (.t 85), none⟩, none⟩] [] [10, 2, 9, 8, 6])
 (.seq
 (.seq
 (.ops [⟨(some 86), .mv (.t 10), none⟩, ⟨(some 87), .un .not (.t 86), none⟩] [87, 2, 9, 8, 6])
 (.cond (.t 87)
  (.seq
  (.ops [⟨(some 88), .build [(.int .i64 0), (.int .i64 0)] [], none⟩, ⟨none, .store 2 (.t 2) (.t 88), none⟩, ⟨(some 3), .mv (.c (.bool false)), none⟩] [2, 3])
  .ret)
  .skip))
 (.seq
 (.ops [⟨(some 89), .mv (.t 9), none⟩, ⟨(some 90), .mv (.t 8), none⟩, ⟨(some 91), .mv (.t 6), none⟩, ⟨(some 92), .call (.c (.func 126 [])) [(.t 89), (.t 90), (.t 91)], none⟩, ⟨none, .store 2 (.t 2) (.t 92), none⟩, ⟨(some 3), .mv (.c (.bool true)), none⟩] [2, 3])
 .ret))))))))))),
 none⟩
theorem c63 : cFunc Tryz.prog true none [[0, 2], [4, 2], [30, 4, 2], [4, 2], [40, 2, 4], [2, 3], [4, 5, 2, 7, 6], [48, 4, 5, 2, 7, 6], [4, 5, 7, 2, 6], [5, 7, 8, 2, 4, 6], [70, 2, 4, 5, 8, 6], [2, 3], [10, 2, 9, 8, 6], [], [87, 2, 9, 8, 6], [2, 3], [2, 3]] Tryz.f63 = some m63 := by kernel_rfl

/-- letterbox/header.Value -/
def m64 : MFunc := ⟨20, 3, [.t 6],
 (.seq
 (.ops [⟨(some 6), .mv (.c (.str [])), none⟩] [1, 2, 0])
 (.seq
 (.ops [⟨(some 10), .mv (.t 1), none⟩, ⟨(some 11), .mv (.t 2), none⟩, ⟨(some 12), .call (.c (.func 127 [])) [(.t 10), (.t 11)], none⟩, ⟨(some 9), .mv (.t 12), none⟩, ⟨(some 13), .extract (.t 9) 0, none⟩, ⟨(some 14), .extract (.t 9) 1, none⟩, ⟨(some 7), .alloc 131 [(.str []), (.int .i64 0), (.int .i64 0), (.int .i64 0)], none⟩, ⟨none, .store 4 (.t 7) (.t 13), none⟩, ⟨(some 8), .mv (.t 14), none⟩] [8, 0, 7])
 (.seq
 (.seq
 (.ops [⟨(some 15), .mv (.t 8), none⟩, ⟨(some 16), .un .not (.t 15), none⟩] [16, 0, 7])
 (.cond (.t 16)
  (.seq
  (.ops [⟨(some 6), .mv (.c (.str [])), none⟩] [6])
  .ret)
  .skip))
 (.seq
 (.ops [⟨(some 17), .mv (.t 0), none⟩, ⟨(some 18), .load (some 4) (.t 7), none⟩, ⟨(some 19), .call (.c (.func 69 [])) [(.t 17), (.t 18)], none⟩, ⟨(some 6), .mv (.t 19), none⟩] [6])
 .ret)))),
 none⟩
theorem c64 : cFunc Tryz.prog true none [[1, 2, 0], [8, 0, 7], [16, 0, 7], [6], [6]] Tryz.f64 = some m64 := by kernel_rfl

/-- letterbox/date.Day -/
def m65 : MFunc := ⟨10, 1, [.t 2],
 (.seq
 (.ops [⟨(some 1), .box 124 (.t 0), none⟩, ⟨(some 2), .mv (.c (.int .i64 0)), none⟩] [1])
 (.seq
 (.ops [⟨(some 3), .fieldA (.t 1) 0, none⟩, ⟨(some 4), .load none (.t 3), none⟩, ⟨(some 5), .fieldA (.t 1) 1, none⟩, ⟨(some 6), .load none (.t 5), none⟩, ⟨(some 7), .bin .mul (.t 6) (.c (.int .i64 60)), none⟩, ⟨(some 8), .bin .add (.t 4) (.t 7), none⟩, ⟨(some 9), .call (.c (.func 128 [])) [(.t 8), (.c (.int .i64 86400))], none⟩, ⟨(some 2), .mv (.t 9), none⟩] [2])
 .ret)),
 none⟩
theorem c65 : cFunc Tryz.prog true none [[1], [2]] Tryz.f65 = some m65 := by kernel_rfl

/-- slices.ContainsFunc[[]letterbox/header.Field,letterbox/header.Field] -/
def m66 : MFunc := ⟨9, 2, [.t 4],
 (.seq
 (.ops [⟨(some 4), .mv (.c (.bool false)), none⟩] [0, 1])
 (.seq
 (.ops [⟨(some 5), .mv (.t 0), none⟩, ⟨(some 6), .mv (.t 1), none⟩, ⟨(some 7), .call (.c (.func 129 [])) [(.t 5), (.t 6)], none⟩, ⟨(some 8), .bin .geq (.t 7) (.c (.int .i64 0)), none⟩, ⟨(some 4), .mv (.t 8), none⟩] [4])
 .ret)),
 none⟩
theorem c66 : cFunc Tryz.prog true none [[0, 1], [4]] Tryz.f66 = some m66 := by kernel_rfl

/-- (letterbox/search.Message).has$1 -/
def m67 : MFunc := ⟨20, 4, [.t 5],
 (.seq
 (.ops [⟨(some 4), .box 131 (.t 0), none⟩, ⟨(some 5), .mv (.c (.bool false)), none⟩] [4, 1, 2, 3])
 (.seq
 (.draw [⟨⟨(some 6), .fieldA (.t 4) 0, none⟩, none⟩, ⟨⟨(some 7), .load none (.t 6), none⟩, none⟩, ⟨⟨(some 8), .load none (.t 1), none⟩, none⟩, ⟨⟨(some 9), .call (.c (.func 62 [])) [(.t 7), (.t 8)], none⟩, none⟩, ⟨⟨(some 10), .mv (.t 9), none⟩, none⟩, ⟨⟨(some 11), .fieldA (.t 2) 4, (some (10, true))⟩, none⟩, ⟨⟨(some 12), .load none (.t 11), (some (10, true))⟩, none⟩, ⟨⟨(some 13), .load (some 4) (.t 4), (some (10, true))⟩, none⟩, ⟨⟨(some 14), .call (.c (.func 69 [])) [(.t 12), (.t 13)], (some (10, true))⟩, none⟩, ⟨⟨(some 15), .call (.c (.func 68 [])) [(.t 14)], (some (10, true))⟩, none⟩, ⟨⟨(some 16), .call (.c (.func 34 [])) [(.t 15)], (some (10, true))⟩, none⟩, ⟨⟨(some 17), .load none (.t 3), (some (10, true))⟩, none⟩, ⟨⟨(some 18), .call (.c (.func 33 [])) [(.t 16), (.t 17)], (some (10, true))⟩, none⟩, ⟨⟨(some 19), .pick (.t 10) (.t 18) (.c (.bool false)), none⟩, none⟩, ⟨⟨(some 5), .mv (.t 19), none⟩, none⟩] [] [5])
 .ret)),
 none⟩
theorem c67 : cFunc Tryz.prog true none [[4, 1, 2, 3], [5], []] Tryz.f67 = some m67 := by kernel_rfl

/-- letterbox/words.Decode -/
def m68 : MFunc := ⟨40, 1, [.t 2],
 (.seq
 (.ops [⟨(some 2), .mv (.c (.str [])), none⟩] [0])
 (.seq
 (.ops [⟨(some 3), .alloc 186 [.nilptr, .nilslice], none⟩] [0, 3])
 (.seq
 (.ops [⟨(some 4), .mv (.c (.bool false)), none⟩] [0, 4, 3])
 (.seq
 (.block 0
  (.loop [0, 4, 3]
   (.seq
   (.seq
   (.ops [⟨(some 8), .mv (.t 0), none⟩, ⟨(some 9), .lenS (.t 8), none⟩, ⟨(some 10), .bin .gtr (.t 9) (.c (.int .i64 0)), none⟩] [10, 4, 0, 3])
   (.cond (.t 10)
    .skip
    (.exit 0)))
   (.block 1
    (.seq
    (.ops [⟨(some 5), .mv (.c (.int .i64 0)), none⟩] [4, 0, 3, 5])
    (.seq
    (.seq
    (.ops [⟨(some 11), .mv (.t 4), none⟩] [11, 0, 3, 5])
    (.cond (.t 11)
     (.ops [⟨(some 12), .mv (.t 0), none⟩, ⟨(some 13), .call (.c (.func 130 [])) [(.t 12)], none⟩, ⟨(some 5), .mv (.t 13), none⟩] [0, 5, 3])
     .skip))
    (.seq
    (.ops [⟨(some 15), .mv (.t 0), none⟩, ⟨(some 16), .mv (.t 5), none⟩, ⟨(some 17), .sliceStr (.t 15) (some (.t 16)) none, none⟩, ⟨(some 18), .call (.c (.func 131 [])) [(.t 17)], none⟩, ⟨(some 14), .mv (.t 18), none⟩, ⟨(some 19), .extract (.t 14) 0, none⟩, ⟨(some 20), .extract (.t 14) 1, none⟩, ⟨(some 6), .mv (.t 19), none⟩, ⟨(some 7), .mv (.t 20), none⟩] [7, 6, 3, 0, 5])
    (.seq
    (.seq
    (.ops [⟨(some 21), .mv (.t 7), none⟩, ⟨(some 22), .bin .gtr (.t 21) (.c (.int .i64 0)), none⟩] [22, 6, 3, 0, 5, 7])
    (.cond (.t 22)
     (.seq
     (.ops [⟨(some 23), .mv (.t 6), none⟩, ⟨(some 24), .call (.c (.func 132 [])) [(.t 3), (.t 23)], none⟩] [0, 5, 7, 3])
     (.seq
     (.ops [⟨(some 25), .mv (.t 0), none⟩, ⟨(some 26), .mv (.t 5), none⟩, ⟨(some 27), .mv (.t 7), none⟩, ⟨(some 28), .bin .add (.t 26) (.t 27), none⟩, ⟨(some 29), .sliceStr (.t 25) (some (.t 28)) none, none⟩, ⟨(some 0), .mv (.t 29), none⟩, ⟨(some 4), .mv (.c (.bool true)), none⟩] [0, 4, 3])
     (.exit 1)))
     .skip))
    (.seq
    (.ops [⟨(some 30), .mv (.t 5), none⟩, ⟨(some 31), .minmax true (.t 30) (.c (.int .i64 1)), none⟩, ⟨(some 7), .mv (.t 31), none⟩] [0, 7, 3])
    (.seq
    (.ops [⟨(some 32), .mv (.t 0), none⟩, ⟨(some 33), .mv (.t 7), none⟩, ⟨(some 34), .sliceStr (.t 32) none (some (.t 33)), none⟩, ⟨(some 35), .call (.c (.func 132 [])) [(.t 3), (.t 34)], none⟩] [0, 7, 3])
    (.ops [⟨(some 36), .mv (.t 0), none⟩, ⟨(some 37), .mv (.t 7), none⟩, ⟨(some 38), .sliceStr (.t 36) (some (.t 37)) none, none⟩, ⟨(some 0), .mv (.t 38), none⟩, ⟨(some 4), .mv (.c (.bool false)), none⟩] [0, 4, 3])))))))))))
 (.seq
 (.ops [⟨(some 39), .call (.c (.func 133 [])) [(.t 3)], none⟩, ⟨(some 2), .mv (.t 39), none⟩] [2])
 .ret))))),
 none⟩
theorem c68 : cFunc Tryz.prog true none [[0], [0, 3], [0, 4, 3], [0, 4, 3], [10, 4, 0, 3], [4, 0, 3, 5], [11, 0, 3, 5], [0, 5, 3], [7, 6, 3, 0, 5], [22, 6, 3, 0, 5, 7], [0, 5, 7, 3], [0, 4, 3], [0, 7, 3], [0, 7, 3], [0, 4, 3], [2]] Tryz.f68 = some m68 := by kernel_rfl

/-- letterbox/header.Body -/
def m69 : MFunc := ⟨27, 2, [.t 4],
 (.seq
 (.ops [⟨(some 3), .box 131 (.t 1), none⟩, ⟨(some 4), .mv (.c (.str [])), none⟩] [0, 3])
 (.seq
 (.ops [⟨(some 5), .alloc 186 [.nilptr, .nilslice], none⟩] [0, 3, 5])
 (.seq
 (.seq
 (.ops [⟨(some 8), .mv (.t 0), none⟩, ⟨(some 9), .fieldA (.t 3) 2, none⟩, ⟨(some 10), .load none (.t 9), none⟩, ⟨(some 11), .fieldA (.t 3) 3, none⟩, ⟨(some 12), .load none (.t 11), none⟩, ⟨(some 13), .build [(.int .i64 0), (.int .i64 0)] [(0, 1, (.t 10)), (1, 1, (.t 12))], none⟩, ⟨(some 14), .call (.c (.func 134 [])) [(.t 8), (.t 13)], none⟩, ⟨(some 15), .lenL (.t 14), none⟩, ⟨(some 16), .mv (.c (.int .i64 0)), none⟩] [16, 15, 14, 0, 5])
 (.block 0
  (.loop [16, 15, 14, 0, 5]
   (.seq
   (.ops [⟨(some 17), .bin .lss (.t 16) (.t 15), none⟩] [17, 14, 16, 0, 5, 15])
   (.seq
   (.cond (.t 17)
    .skip
    (.exit 0))
   (.seq
   (.block 1
    (.seq
    (.ops [⟨(some 18), .idxA 3 (.t 14) (.t 16), none⟩, ⟨(some 19), .load (some 3) (.t 18), none⟩, ⟨(some 7), .alloc 196 [(.int .i64 0), (.int .i64 0), (.int .i64 0)], none⟩, ⟨none, .store 3 (.t 7) (.t 19), none⟩] [0, 7, 5, 16, 15, 14])
    (.ops [⟨(some 20), .mv (.t 0), none⟩, ⟨(some 21), .load (some 3) (.t 7), none⟩, ⟨(some 22), .call (.c (.func 135 [])) [(.t 20), (.t 21)], none⟩, ⟨(some 23), .call (.c (.func 132 [])) [(.t 5), (.t 22)], none⟩] [16, 15, 14, 0, 5])))
   (.ops [⟨(some 24), .bin .add (.t 16) (.c (.int .i64 1)), none⟩, ⟨(some 16), .mv (.t 24), none⟩] [16, 15, 14, 0, 5])))))))
 (.seq
 (.ops [⟨(some 25), .call (.c (.func 133 [])) [(.t 5)], none⟩, ⟨(some 26), .call (.c (.func 136 [])) [(.t 25)], none⟩, ⟨(some 4), .mv (.t 26), none⟩] [4])
 .ret)))),
 none⟩
theorem c69 : cFunc Tryz.prog true none [[0, 3], [0, 3, 5], [16, 15, 14, 0, 5], [16, 15, 14, 0, 5], [17, 14, 16, 0, 5, 15], [0, 7, 5, 16, 15, 14], [16, 15, 14, 0, 5], [16, 15, 14, 0, 5], [4]] Tryz.f69 = some m69 := by kernel_rfl

/-- strings.Index -/
def m70 : MFunc := ⟨8, 2, [.t 4],
 (.seq
 (.ops [⟨(some 4), .mv (.c (.int .i64 0)), none⟩] [0, 1])
 (.seq
 (.ops [⟨(some 5), .mv (.t 0), none⟩, ⟨(some 6), .mv (.t 1), none⟩, ⟨(some 7), .call (.c (.func 137 [])) [(.t 5), (.t 6)], none⟩, ⟨(some 4), .mv (.t 7), none⟩] [4])
 .ret)),
 none⟩
theorem c70 : cFunc Tryz.prog true none [[0, 1], [4]] Tryz.f70 = some m70 := by kernel_rfl

/-- letterbox/chars.Lower -/
def m71 : MFunc := ⟨13, 1, [.t 2],
 (.seq
 (.ops [⟨(some 2), .mv (.c (.int .u8 0)), none⟩] [0])
 (.seq
 (.seq
 (.ops [⟨(some 3), .mv (.t 0), none⟩, ⟨(some 4), .bin .geq (.t 3) (.c (.int .u8 65)), none⟩, ⟨(some 5), .mv (.t 4), none⟩, ⟨(some 6), .mv (.t 0), (some (5, true))⟩, ⟨(some 7), .bin .leq (.t 6) (.c (.int .u8 90)), (some (5, true))⟩, ⟨(some 8), .pick (.t 5) (.t 7) (.c (.bool false)), none⟩] [8, 0])
 (.cond (.t 8)
  (.seq
  (.ops [⟨(some 9), .mv (.t 0), none⟩, ⟨(some 10), .bin .sub (.t 9) (.c (.int .u8 65)), none⟩, ⟨(some 11), .bin .add (.t 10) (.c (.int .u8 97)), none⟩, ⟨(some 2), .mv (.t 11), none⟩] [2])
  .ret)
  .skip))
 (.seq
 (.ops [⟨(some 12), .mv (.t 0), none⟩, ⟨(some 2), .mv (.t 12), none⟩] [2])
 .ret))),
 none⟩
theorem c71 : cFunc Tryz.prog true none [[0], [8, 0], [2], [2]] Tryz.f71 = some m71 := by kernel_rfl

/-- letterbox/tree.Parse -/
def m72 : MFunc := ⟨17, 1, [.cell 2 (some 9), .t 3],
 (.seq
 (.ops [⟨(some 2), .alloc 82 [(.int .i64 0), (.int .i64 0), (.int .i64 0), (.int .i64 0), (.int .i64 0), .nilslice, .nilslice, (.int .i64 0), (.int .i64 0)], none⟩, ⟨(some 3), .mv (.c (.int .i64 0)), none⟩] [0, 2])
 (.seq
 (.seq
 (.ops [⟨(some 5), .mv (.t 0), none⟩, ⟨(some 6), .lenL (.t 5), none⟩, ⟨(some 7), .bin .gtr (.t 6) (.c (.int .i64 67108864)), none⟩] [7, 2, 0])
 (.cond (.t 7)
  (.seq
  (.ops [⟨(some 8), .build [(.int .i64 0), (.int .i64 0), (.int .i64 0), (.int .i64 0), (.int .i64 0), .nilslice, .nilslice, (.int .i64 0), (.int .i64 0)] [], none⟩, ⟨none, .store 9 (.t 2) (.t 8), none⟩, ⟨(some 3), .mv (.c (.int .i64 13)), none⟩] [2, 3])
  .ret)
  .skip))
 (.seq
 (.ops [⟨(some 9), .mv (.t 0), none⟩, ⟨(some 10), .build [.nilslice, (.int .i64 0)] [(0, 1, (.t 9)), (1, 1, (.c (.int .i64 1)))], none⟩, ⟨(some 11), .box 200 (.t 10), none⟩, ⟨(some 4), .mv (.t 11), none⟩] [4, 0, 2])
 (.seq
 (.ops [⟨(some 12), .mv (.t 4), none⟩, ⟨(some 13), .mv (.t 0), none⟩, ⟨(some 14), .lenL (.t 13), none⟩, ⟨(some 15), .build [(.int .i64 0), (.int .i64 0)] [(0, 1, (.c (.int .i64 0))), (1, 1, (.t 14))], none⟩, ⟨(some 16), .call (.c (.func 138 [])) [(.t 12), (.t 15), (.c (.int .i64 0)), (.c (.bool false))], none⟩, ⟨none, .store 9 (.t 2) (.t 16), none⟩, ⟨(some 3), .mv (.c (.int .i64 0)), none⟩] [2, 3])
 .ret)))),
 none⟩
theorem c72 : cFunc Tryz.prog true none [[0, 2], [7, 2, 0], [2, 3], [4, 0, 2], [2, 3]] Tryz.f72 = some m72 := by kernel_rfl

/-- letterbox/header.Of -/
def m73 : MFunc := ⟨88, 2, [.t 4, .t 5],
 (.seq
 (.ops [⟨(some 3), .box 78 (.t 1), none⟩, ⟨(some 4), .mv (.c .nilslice), none⟩, ⟨(some 5), .mv (.c (.int .i64 0)), none⟩] [0, 3])
 (.scope
 (.seq
 (.ops [⟨(some 17), .mv (.t 0), none⟩, ⟨(some 18), .load (some 2) (.t 3), none⟩, ⟨(some 19), .call (.c (.func 134 [])) [(.t 17), (.t 18)], none⟩, ⟨(some 6), .mv (.t 19), none⟩] [6, 3, 0])
 (.seq
 (.seq
 (.ops [⟨(some 20), .mv (.t 6), none⟩, ⟨(some 21), .lenL (.t 20), none⟩, ⟨(some 22), .bin .eql (.t 21) (.c (.int .i64 0)), none⟩] [22, 3, 6, 0])
 (.cond (.t 22)
  (.seq
  (.draw [⟨⟨(some 23), .fieldA (.t 3) 0, none⟩, none⟩, ⟨⟨(some 24), .load none (.t 23), none⟩, none⟩, ⟨⟨(some 4), .mv (.c .nilslice), none⟩, none⟩, ⟨⟨(some 5), .mv (.t 24), none⟩, none⟩] [] [4, 5])
  .ret)
  .skip))
 (.seq
 (.ops [⟨(some 25), .mv (.t 6), none⟩, ⟨(some 26), .mv (.t 6), none⟩, ⟨(some 27), .lenL (.t 26), none⟩, ⟨(some 28), .bin .sub (.t 27) (.c (.int .i64 1)), none⟩, ⟨(some 29), .idxA 3 (.t 25) (.t 28), none⟩, ⟨(some 30), .fieldA (.t 29) 2, none⟩, ⟨(some 31), .load none (.t 30), none⟩, ⟨(some 7), .mv (.t 31), none⟩] [6, 0, 7])
 (.seq
 (.seq
 (.ops [⟨(some 32), .mv (.t 6), none⟩, ⟨(some 33), .call (.c (.func 139 [])) [(.t 32)], none⟩, ⟨(some 8), .mv (.t 33), none⟩] [8, 6, 0, 7])
 (.seq
 (.ops [⟨(some 34), .mv (.t 8), none⟩, ⟨(some 35), .bin .geq (.t 34) (.c (.int .i64 0)), none⟩] [35, 6, 8, 0, 7])
 (.cond (.t 35)
  (.draw [⟨⟨(some 36), .mv (.t 6), none⟩, none⟩, ⟨⟨(some 37), .mv (.t 8), none⟩, none⟩, ⟨⟨(some 38), .idxA 3 (.t 36) (.t 37), none⟩, none⟩, ⟨⟨(some 39), .fieldA (.t 38) 2, none⟩, none⟩, ⟨⟨(some 40), .load none (.t 39), none⟩, none⟩, ⟨⟨(some 41), .mv (.t 6), none⟩, none⟩, ⟨⟨(some 42), .mv (.t 8), none⟩, none⟩, ⟨⟨(some 43), .slice 3 (.t 41) none (some (.t 42)) none, none⟩, none⟩, ⟨⟨(some 7), .mv (.t 40), none⟩, none⟩, ⟨⟨(some 6), .mv (.t 43), none⟩, none⟩] [] [6, 0, 7])
  .skip)))
 (.seq
 (.ops [⟨(some 9), .mv (.c .nilslice), none⟩] [6, 0, 9, 7])
 (.seq
 (.ops [⟨(some 10), .mv (.c (.bool false)), none⟩] [6, 0, 10, 9, 7])
 (.seq
 .skip
 (.seq
 (.seq
 (.ops [⟨(some 44), .mv (.t 6), none⟩, ⟨(some 45), .lenL (.t 44), none⟩, ⟨(some 46), .mv (.c (.int .i64 0)), none⟩] [46, 45, 44, 0, 10, 9, 7])
 (.block 0
  (.loop [46, 45, 44, 0, 10, 9, 7]
   (.seq
   (.ops [⟨(some 47), .bin .lss (.t 46) (.t 45), none⟩] [47, 44, 46, 0, 10, 9, 45, 7])
   (.seq
   (.cond (.t 47)
    .skip
    (.exit 0))
   (.seq
   (.block 1
    (.seq
    (.ops [⟨(some 48), .idxA 3 (.t 44) (.t 46), none⟩, ⟨(some 49), .load (some 3) (.t 48), none⟩, ⟨(some 12), .alloc 196 [(.int .i64 0), (.int .i64 0), (.int .i64 0)], none⟩, ⟨none, .store 3 (.t 12) (.t 49), none⟩] [0, 12, 10, 9, 46, 45, 44, 7])
    (.seq
    (.ops [⟨(some 50), .mv (.t 0), none⟩, ⟨(some 51), .load (some 3) (.t 12), none⟩, ⟨(some 52), .call (.c (.func 135 [])) [(.t 50), (.t 51)], none⟩, ⟨(some 13), .mv (.t 52), none⟩] [13, 10, 9, 12, 46, 45, 44, 0, 7])
    (.seq
    (.seq
    (.ops [⟨(some 53), .mv (.t 13), none⟩, ⟨(some 54), .call (.c (.func 140 [])) [(.t 53)], none⟩] [54, 10, 9, 12, 46, 45, 44, 0, 7, 13])
    (.cond (.t 54)
     (.seq
     (.seq
     (.ops [⟨(some 55), .mv (.t 10), none⟩] [55, 9, 12, 46, 45, 44, 0, 10, 7])
     (.cond (.t 55)
      (.ops [⟨(some 56), .mv (.t 9), none⟩, ⟨(some 57), .mv (.t 9), none⟩, ⟨(some 58), .lenL (.t 57), none⟩, ⟨(some 59), .bin .sub (.t 58) (.c (.int .i64 1)), none⟩, ⟨(some 60), .fieldA (.t 12) 2, none⟩, ⟨(some 61), .load none (.t 60), none⟩, ⟨(some 62), .idxA 4 (.t 56) (.t 59), none⟩, ⟨(some 63), .fieldA (.t 62) 3, none⟩, ⟨none, .store 1 (.t 63) (.t 61), none⟩] [46, 45, 44, 0, 10, 9, 7])
      .skip))
     (.exit 1))
     .skip))
    (.seq
    (.ops [⟨(some 65), .mv (.t 13), none⟩, ⟨(some 66), .call (.c (.func 141 [])) [(.t 65)], none⟩, ⟨(some 64), .mv (.t 66), none⟩, ⟨(some 67), .extract (.t 64) 0, none⟩, ⟨(some 68), .extract (.t 64) 1, none⟩, ⟨(some 69), .extract (.t 64) 2, none⟩, ⟨(some 14), .mv (.t 67), none⟩, ⟨(some 15), .mv (.t 68), none⟩, ⟨(some 16), .mv (.t 69), none⟩] [16, 9, 14, 12, 15, 46, 45, 44, 0, 7])
    (.seq
    (.ops [⟨(some 70), .mv (.t 16), none⟩, ⟨(some 10), .mv (.t 70), none⟩] [16, 9, 14, 12, 15, 46, 45, 44, 0, 10, 7])
    (.seq
    (.ops [⟨(some 71), .mv (.t 16), none⟩] [71, 9, 14, 12, 15, 46, 45, 44, 0, 10, 7])
    (.cond (.t 71)
     (.ops [⟨(some 72), .mv (.t 9), none⟩, ⟨(some 73), .mv (.t 14), none⟩, ⟨(some 74), .fieldA (.t 12) 0, none⟩, ⟨(some 75), .load none (.t 74), none⟩, ⟨(some 76), .fieldA (.t 12) 0, none⟩, ⟨(some 77), .load none (.t 76), none⟩, ⟨(some 78), .mv (.t 15), none⟩, ⟨(some 79), .bin .add (.t 77) (.t 78), none⟩, ⟨(some 80), .fieldA (.t 12) 2, none⟩, ⟨(some 81), .load none (.t 80), none⟩, ⟨(some 82), .build [(.str []), (.int .i64 0), (.int .i64 0), (.int .i64 0)] [(0, 1, (.t 73)), (1, 1, (.t 75)), (2, 1, (.t 79)), (3, 1, (.t 81))], none⟩, ⟨(some 83), .mkSlice 4 (.agg [(.str []), (.int .i64 0), (.int .i64 0), (.int .i64 0)]) 1 [(0, (.t 82))], none⟩, ⟨(some 84), .append 131 4 40 (.t 72) (.t 83), none⟩, ⟨(some 9), .mv (.t 84), none⟩] [46, 45, 44, 0, 10, 9, 7])
     .skip))))))))
   (.ops [⟨(some 85), .bin .add (.t 46) (.c (.int .i64 1)), none⟩, ⟨(some 46), .mv (.t 85), none⟩] [46, 45, 44, 0, 10, 9, 7])))))))
 (.seq
 (.ops [⟨(some 86), .mv (.t 9), none⟩, ⟨(some 87), .mv (.t 7), none⟩, ⟨(some 4), .mv (.t 86), none⟩, ⟨(some 5), .mv (.t 87), none⟩] [4, 5])
 .ret))))))))))),
 none⟩
theorem c73 : cFunc Tryz.prog true none [[0, 3], [6, 3, 0], [22, 3, 6, 0], [4, 5], [], [6, 0, 7], [8, 6, 0, 7], [35, 6, 8, 0, 7], [6, 0, 7], [], [6, 0, 9, 7], [6, 0, 10, 9, 7], [46, 45, 44, 0, 10, 9, 7], [46, 45, 44, 0, 10, 9, 7], [47, 44, 46, 0, 10, 9, 45, 7], [0, 12, 10, 9, 46, 45, 44, 7], [13, 10, 9, 12, 46, 45, 44, 0, 7], [54, 10, 9, 12, 46, 45, 44, 0, 7, 13], [55, 9, 12, 46, 45, 44, 0, 10, 7], [46, 45, 44, 0, 10, 9, 7], [16, 9, 14, 12, 15, 46, 45, 44, 0, 7], [16, 9, 14, 12, 15, 46, 45, 44, 0, 10, 7], [71, 9, 14, 12, 15, 46, 45, 44, 0, 10, 7], [46, 45, 44, 0, 10, 9, 7], [46, 45, 44, 0, 10, 9, 7], [4, 5]] Tryz.f73 = some m73 := by kernel_rfl

/-- letterbox/fetch.all -/
def m74 : MFunc := ⟨65, 3, [.t 6],
 (.seq
 (.ops [⟨(some 4), .box 82 (.t 1), none⟩, ⟨(some 5), .box 88 (.t 2), none⟩, ⟨(some 6), .mv (.c .nilslice), none⟩] [5, 0, 4])
 (.seq
 (.block 0
  (.seq
  (.ops [⟨(some 10), .load (some 6) (.t 5), none⟩, ⟨(some 11), .call (.c (.func 142 [])) [(.t 10)], none⟩, ⟨(some 12), .bin .neq (.t 11) (.c (.int .i64 0)), none⟩, ⟨(some 9), .mv (.t 12), none⟩] [9, 5, 0, 4])
  (.cond (.t 9)
   (.seq
   (.ops [⟨(some 6), .mv (.c .nilslice), none⟩] [6])
   .ret)
   (.seq
   (.ops [⟨(some 14), .fieldA (.t 5) 0, none⟩, ⟨(some 15), .load none (.t 14), none⟩, ⟨(some 16), .lenL (.t 15), none⟩, ⟨(some 17), .bin .eql (.t 16) (.c (.int .i64 0)), none⟩, ⟨(some 13), .mv (.t 17), none⟩] [13, 0, 4, 5])
   (.cond (.t 13)
    (.seq
    (.ops [⟨(some 18), .mv (.t 0), none⟩, ⟨(some 19), .load (some 9) (.t 4), none⟩, ⟨(some 20), .load (some 6) (.t 5), none⟩, ⟨(some 21), .call (.c (.func 143 [])) [(.t 18), (.t 19), (.t 20)], none⟩, ⟨(some 6), .mv (.t 21), none⟩] [6])
    .ret)
    .skip)))))
 (.seq
 (.ops [⟨(some 23), .load (some 9) (.t 4), none⟩, ⟨(some 24), .fieldA (.t 5) 0, none⟩, ⟨(some 25), .load none (.t 24), none⟩, ⟨(some 26), .call (.c (.func 144 [])) [(.t 23), (.t 25)], none⟩, ⟨(some 22), .mv (.t 26), none⟩, ⟨(some 27), .extract (.t 22) 0, none⟩, ⟨(some 28), .extract (.t 22) 1, none⟩, ⟨(some 7), .alloc 82 [(.int .i64 0), (.int .i64 0), (.int .i64 0), (.int .i64 0), (.int .i64 0), .nilslice, .nilslice, (.int .i64 0), (.int .i64 0)], none⟩, ⟨none, .store 9 (.t 7) (.t 27), none⟩, ⟨(some 8), .mv (.t 28), none⟩] [8, 5, 0, 7])
 (.seq
 (.block 1
  (.seq
  (.ops [⟨(some 30), .mv (.t 8), none⟩, ⟨(some 31), .un .not (.t 30), none⟩, ⟨(some 29), .mv (.t 31), none⟩] [29, 5, 0, 7])
  (.cond (.t 29)
   (.seq
   (.ops [⟨(some 6), .mv (.c .nilslice), none⟩] [6])
   .ret)
   (.seq
   (.ops [⟨(some 33), .fieldA (.t 5) 1, none⟩, ⟨(some 34), .load none (.t 33), none⟩, ⟨(some 35), .bin .eql (.t 34) (.c (.int .i64 0)), none⟩, ⟨(some 32), .mv (.t 35), none⟩] [32, 0, 7, 5])
   (.cond (.t 32)
    (.seq
    (.ops [⟨(some 36), .mv (.t 0), none⟩, ⟨(some 37), .fieldA (.t 7) 3, none⟩, ⟨(some 38), .load (some 2) (.t 37), none⟩, ⟨(some 39), .call (.c (.func 145 [])) [(.t 36), (.t 38)], none⟩, ⟨(some 6), .mv (.t 39), none⟩] [6])
    .ret)
    (.seq
    (.ops [⟨(some 41), .fieldA (.t 5) 1, none⟩, ⟨(some 42), .load none (.t 41), none⟩, ⟨(some 43), .bin .eql (.t 42) (.c (.int .i64 5)), none⟩, ⟨(some 40), .mv (.t 43), none⟩] [40, 0, 7, 5])
    (.cond (.t 40)
     (.seq
     (.ops [⟨(some 44), .mv (.t 0), none⟩, ⟨(some 45), .fieldA (.t 7) 1, none⟩, ⟨(some 46), .load (some 2) (.t 45), none⟩, ⟨(some 47), .call (.c (.func 145 [])) [(.t 44), (.t 46)], none⟩, ⟨(some 6), .mv (.t 47), none⟩] [6])
     .ret)
     (.seq
     (.ops [⟨(some 49), .fieldA (.t 7) 0, none⟩, ⟨(some 50), .load none (.t 49), none⟩, ⟨(some 51), .bin .eql (.t 50) (.c (.int .i64 2)), none⟩, ⟨(some 52), .mv (.t 51), none⟩, ⟨(some 53), .fieldA (.t 7) 5, (some (52, true))⟩, ⟨(some 54), .load none (.t 53), (some (52, true))⟩, ⟨(some 55), .lenL (.t 54), (some (52, true))⟩, ⟨(some 56), .bin .gtr (.t 55) (.c (.int .i64 0)), (some (52, true))⟩, ⟨(some 57), .pick (.t 52) (.t 56) (.c (.bool false)), none⟩, ⟨(some 48), .mv (.t 57), none⟩] [48, 0, 7, 5])
     (.cond (.t 48)
      (.seq
      (.draw [⟨⟨(some 58), .mv (.t 0), none⟩, none⟩, ⟨⟨(some 59), .fieldA (.t 7) 5, none⟩, none⟩, ⟨⟨(some 60), .load none (.t 59), none⟩, none⟩, ⟨⟨(some 61), .idxA 9 (.t 60) (.c (.int .i64 0)), none⟩, none⟩, ⟨⟨(some 62), .load (some 9) (.t 61), none⟩, none⟩, ⟨⟨(some 63), .load (some 6) (.t 5), none⟩, none⟩, ⟨⟨(some 64), .call (.c (.func 143 [])) [(.t 58), (.t 62), (.t 63)], none⟩, none⟩, ⟨⟨(some 6), .mv (.t 64), none⟩, none⟩] [] [6])
      .ret)
      .skip)))))))))
 (.seq
 (.ops [⟨(some 6), .mv (.c .nilslice), none⟩] [6])
 .ret))))),
 none⟩
theorem c74 : cFunc Tryz.prog true none [[5, 0, 4], [9, 5, 0, 4], [6], [13, 0, 4, 5], [6], [8, 5, 0, 7], [29, 5, 0, 7], [6], [32, 0, 7, 5], [6], [40, 0, 7, 5], [6], [48, 0, 7, 5], [6], [], [6]] Tryz.f74 = some m74 := by kernel_rfl

/-- letterbox/fetch.Cut -/
def m75 : MFunc := ⟨31, 3, [.t 6],
 (.seq
 (.ops [⟨(some 6), .mv (.c .nilslice), none⟩] [1, 0, 2])
 (.seq
 (.seq
 (.ops [⟨(some 7), .mv (.t 1), none⟩, ⟨(some 8), .bin .lss (.t 7) (.c (.int .i64 0)), none⟩, ⟨(some 9), .mv (.t 8), none⟩, ⟨(some 10), .mv (.t 1), (some (9, false))⟩, ⟨(some 11), .mv (.t 0), (some (9, false))⟩, ⟨(some 12), .lenL (.t 11), (some (9, false))⟩, ⟨(some 13), .bin .gtr (.t 10) (.t 12), (some (9, false))⟩, ⟨(some 14), .pick (.t 9) (.c (.bool true)) (.t 13), none⟩, ⟨(some 15), .mv (.t 14), none⟩, ⟨(some 16), .mv (.t 2), (some (15, false))⟩, ⟨(some 17), .bin .lss (.t 16) (.c (.int .i64 1)), (some (15, false))⟩, ⟨(some 18), .pick (.t 15) (.c (.bool true)) (.t 17), none⟩] [18, 0, 1, 2])
 (.cond (.t 18)
  (.seq
  (.ops [⟨(some 6), .mv (.c .nilslice), none⟩] [6])
  .ret)
  .skip))
 (.seq
 (.ops [⟨(some 19), .mv (.t 0), none⟩, ⟨(some 20), .mv (.t 1), none⟩, ⟨(some 21), .mv (.t 1), none⟩, ⟨(some 22), .mv (.t 2), none⟩, ⟨(some 23), .mv (.t 0), none⟩, ⟨(some 24), .lenL (.t 23), none⟩, ⟨(some 25), .mv (.t 1), none⟩, ⟨(some 26), .bin .sub (.t 24) (.t 25), none⟩, ⟨(some 27), .minmax false (.t 22) (.t 26), none⟩, ⟨(some 28), .bin .add (.t 21) (.t 27), none⟩, ⟨(some 29), .slice 1 (.t 19) (some (.t 20)) (some (.t 28)) none, none⟩, ⟨(some 30), .call (.c (.func 146 [])) [(.t 29)], none⟩, ⟨(some 6), .mv (.t 30), none⟩] [6])
 .ret))),
 none⟩
theorem c75 : cFunc Tryz.prog true none [[1, 0, 2], [18, 0, 1, 2], [6], [6]] Tryz.f75 = some m75 := by kernel_rfl

/-- letterbox/wire.quoted -/
def m94 : MFunc := ⟨52, 1, [.t 2, .t 3, .t 4],
 (.seq
 (.ops [⟨(some 2), .mv (.c (.str [])), none⟩, ⟨(some 3), .mv (.c (.str [])), none⟩, ⟨(some 4), .mv (.c (.bool false)), none⟩] [0])
 (.seq
 (.ops [⟨(some 5), .mv (.c .nilslice), none⟩] [0, 5])
 (.seq
 (.seq
 (.ops [⟨(some 6), .mv (.c (.int .i64 1)), none⟩] [6, 0, 5])
 (.block 0
  (.loop [6, 0, 5]
   (.seq
   (.seq
   (.ops [⟨(some 8), .mv (.t 6), none⟩, ⟨(some 9), .mv (.t 0), none⟩, ⟨(some 10), .lenS (.t 9), none⟩, ⟨(some 11), .bin .lss (.t 8) (.t 10), none⟩] [11, 0, 6, 5])
   (.cond (.t 11)
    .skip
    (.exit 0)))
   (.seq
   (.block 1
    (.seq
    (.seq
    (.ops [⟨(some 14), .mv (.t 0), none⟩, ⟨(some 15), .mv (.t 6), none⟩, ⟨(some 16), .idxStr (.t 14) (.t 15), none⟩, ⟨(some 7), .mv (.t 16), none⟩] [7, 5, 0, 6])
    (.seq
    (.ops [⟨(some 17), .mv (.t 7), none⟩] [17, 5, 0, 6])
    (.block 2
     (.seq
     (.ops [⟨(some 19), .bin .eql (.t 17) (.c (.int .u8 34)), none⟩, ⟨(some 18), .mv (.t 19), none⟩] [18, 5, 0, 6, 17])
     (.cond (.t 18)
      (.seq
      (.draw [⟨⟨(some 20), .mv (.t 5), none⟩, none⟩, ⟨⟨(some 21), .conv .bytesStr (.t 20), none⟩, none⟩, ⟨⟨(some 22), .mv (.t 0), none⟩, none⟩, ⟨⟨(some 23), .mv (.t 6), none⟩, none⟩, ⟨⟨(some 24), .bin .add (.t 23) (.c (.int .i64 1)), none⟩, none⟩, ⟨⟨(some 25), .sliceStr (.t 22) (some (.t 24)) none, none⟩, none⟩, ⟨⟨(some 2), .mv (.t 21), none⟩, none⟩, ⟨⟨(some 3), .mv (.t 25), none⟩, none⟩, ⟨⟨(some 4), .mv (.c (.bool true)), none⟩, none⟩] [] [2, 3, 4])
      .ret)
      (.seq
      (.ops [⟨(some 27), .bin .eql (.t 17) (.c (.int .u8 92)), none⟩, ⟨(some 26), .mv (.t 27), none⟩] [26, 6, 0, 5])
      (.cond (.t 26)
       (.seq
       (.ops [⟨(some 28), .mv (.t 6), none⟩, ⟨(some 29), .bin .add (.t 28) (.c (.int .i64 1)), none⟩, ⟨(some 6), .mv (.t 29), none⟩] [6, 0, 5])
       (.seq
       (.ops [⟨(some 30), .mv (.t 6), none⟩, ⟨(some 31), .mv (.t 0), none⟩, ⟨(some 32), .lenS (.t 31), none⟩, ⟨(some 33), .bin .eql (.t 30) (.t 32), none⟩, ⟨(some 34), .mv (.t 33), none⟩, ⟨(some 35), .mv (.t 0), (some (34, false))⟩, ⟨(some 36), .mv (.t 6), (some (34, false))⟩, ⟨(some 37), .idxStr (.t 35) (.t 36), (some (34, false))⟩, ⟨(some 38), .bin .neq (.t 37) (.c (.int .u8 34)), (some (34, false))⟩, ⟨(some 39), .mv (.t 38), (some (34, false))⟩, ⟨(some 40), .mv (.t 0), (some (39, true))⟩, ⟨(some 41), .mv (.t 6), (some (39, true))⟩, ⟨(some 42), .idxStr (.t 40) (.t 41), (some (39, true))⟩, ⟨(some 43), .bin .neq (.t 42) (.c (.int .u8 92)), (some (39, true))⟩, ⟨(some 44), .pick (.t 39) (.t 43) (.c (.bool false)), (some (34, false))⟩, ⟨(some 45), .pick (.t 34) (.c (.bool true)) (.t 44), none⟩] [45, 5, 0, 6])
       (.cond (.t 45)
        (.seq
        (.ops [⟨(some 2), .mv (.c (.str [])), none⟩, ⟨(some 3), .mv (.c (.str [])), none⟩, ⟨(some 4), .mv (.c (.bool false)), none⟩] [2, 3, 4])
        .ret)
        .skip)))
       .skip)))))))
    (.ops [⟨(some 46), .mv (.t 5), none⟩, ⟨(some 47), .mv (.t 0), none⟩, ⟨(some 48), .mv (.t 6), none⟩, ⟨(some 49), .idxStr (.t 47) (.t 48), none⟩, ⟨(some 50), .mkSlice 1 (.int .u8 0) 1 [(0, (.t 49))], none⟩, ⟨(some 51), .append 5 1 1 (.t 46) (.t 50), none⟩, ⟨(some 5), .mv (.t 51), none⟩] [6, 0, 5])))
   (.ops [⟨(some 12), .mv (.t 6), none⟩, ⟨(some 13), .bin .add (.t 12) (.c (.int .i64 1)), none⟩, ⟨(some 6), .mv (.t 13), none⟩] [6, 0, 5]))))))
 (.seq
 (.ops [⟨(some 2), .mv (.c (.str [])), none⟩, ⟨(some 3), .mv (.c (.str [])), none⟩, ⟨(some 4), .mv (.c (.bool false)), none⟩] [2, 3, 4])
 .ret)))),
 none⟩
theorem c94 : cFunc Tryz.prog true none [[0], [0, 5], [6, 0, 5], [6, 0, 5], [11, 0, 6, 5], [7, 5, 0, 6], [17, 5, 0, 6], [18, 5, 0, 6, 17], [2, 3, 4], [], [26, 6, 0, 5], [6, 0, 5], [45, 5, 0, 6], [2, 3, 4], [6, 0, 5], [6, 0, 5], [2, 3, 4]] Tryz.f94 = some m94 := by kernel_rfl

/-- letterbox/wire.literal -/
def m95 : MFunc := ⟨39, 1, [.t 2, .t 3, .t 4],
 (.seq
 (.ops [⟨(some 2), .mv (.c (.str [])), none⟩, ⟨(some 3), .mv (.c (.str [])), none⟩, ⟨(some 4), .mv (.c (.bool false)), none⟩] [0])
 (.seq
 (.ops [⟨(some 11), .mv (.t 0), none⟩, ⟨(some 12), .call (.c (.func 154 [])) [(.t 11)], none⟩, ⟨(some 10), .mv (.t 12), none⟩, ⟨(some 13), .extract (.t 10) 0, none⟩, ⟨(some 14), .extract (.t 10) 1, none⟩, ⟨(some 15), .extract (.t 10) 2, none⟩, ⟨(some 5), .mv (.t 13), none⟩, ⟨(some 6), .mv (.t 14), none⟩, ⟨(some 7), .mv (.t 15), none⟩] [5, 0, 6])
 (.seq
 (.seq
 (.ops [⟨(some 16), .mv (.t 5), none⟩, ⟨(some 17), .bin .eql (.t 16) (.c (.int .i64 0)), none⟩] [17, 0, 5, 6])
 (.cond (.t 17)
  (.seq
  (.ops [⟨(some 2), .mv (.c (.str [])), none⟩, ⟨(some 3), .mv (.c (.str [])), none⟩, ⟨(some 4), .mv (.c (.bool false)), none⟩] [2, 3, 4])
  .ret)
  .skip))
 (.seq
 (.ops [⟨(some 19), .mv (.t 0), none⟩, ⟨(some 20), .mv (.t 5), none⟩, ⟨(some 21), .sliceStr (.t 19) (some (.t 20)) none, none⟩, ⟨(some 22), .call (.c (.func 155 [])) [(.t 21), (.c (.str [13, 10]))], none⟩, ⟨(some 18), .mv (.t 22), none⟩, ⟨(some 23), .extract (.t 18) 0, none⟩, ⟨(some 24), .extract (.t 18) 1, none⟩, ⟨(some 8), .mv (.t 23), none⟩, ⟨(some 9), .mv (.t 24), none⟩] [9, 8, 6])
 (.seq
 (.seq
 (.ops [⟨(some 25), .mv (.t 9), none⟩, ⟨(some 26), .un .not (.t 25), none⟩, ⟨(some 27), .mv (.t 26), none⟩, ⟨(some 28), .mv (.t 8), (some (27, false))⟩, ⟨(some 29), .lenS (.t 28), (some (27, false))⟩, ⟨(some 30), .mv (.t 6), (some (27, false))⟩, ⟨(some 31), .bin .lss (.t 29) (.t 30), (some (27, false))⟩, ⟨(some 32), .pick (.t 27) (.c (.bool true)) (.t 31), none⟩] [32, 8, 6])
 (.cond (.t 32)
  (.seq
  (.ops [⟨(some 2), .mv (.c (.str [])), none⟩, ⟨(some 3), .mv (.c (.str [])), none⟩, ⟨(some 4), .mv (.c (.bool false)), none⟩] [2, 3, 4])
  .ret)
  .skip))
 (.seq
 (.draw [⟨⟨(some 33), .mv (.t 8), none⟩, none⟩, ⟨⟨(some 34), .mv (.t 6), none⟩, none⟩, ⟨⟨(some 35), .sliceStr (.t 33) none (some (.t 34)), none⟩, none⟩, ⟨⟨(some 36), .mv (.t 8), none⟩, none⟩, ⟨⟨(some 37), .mv (.t 6), none⟩, none⟩, ⟨⟨(some 38), .sliceStr (.t 36) (some (.t 37)) none, none⟩, none⟩, ⟨⟨(some 2), .mv (.t 35), none⟩, none⟩, ⟨⟨(some 3), .mv (.t 38), none⟩, none⟩, ⟨⟨(some 4), .mv (.c (.bool true)), none⟩, none⟩] [] [2, 3, 4])
 .ret)))))),
 none⟩
theorem c95 : cFunc Tryz.prog true none [[0], [5, 0, 6], [17, 0, 5, 6], [2, 3, 4], [9, 8, 6], [32, 8, 6], [2, 3, 4], [2, 3, 4], []] Tryz.f95 = some m95 := by kernel_rfl

/-- letterbox/wire.word -/
def m96 : MFunc := ⟨68, 1, [.t 2],
 (.seq
 (.ops [⟨(some 2), .mv (.c (.int .i64 0)), none⟩] [0])
 (.scope
 (.seq
 (.ops [⟨(some 3), .mv (.c (.int .i64 0)), none⟩] [3, 0])
 (.seq
 .skip
 (.seq
 (.block 0
  (.loop [3, 0]
   (.seq
   (.seq
   (.ops [⟨(some 9), .mv (.t 3), none⟩, ⟨(some 10), .mv (.t 0), none⟩, ⟨(some 11), .lenS (.t 10), none⟩, ⟨(some 12), .bin .lss (.t 9) (.t 11), none⟩] [12, 0, 3])
   (.cond (.t 12)
    .skip
    (.exit 0)))
   (.block 1
    (.seq
    (.ops [⟨(some 13), .mv (.t 0), none⟩, ⟨(some 14), .mv (.t 3), none⟩, ⟨(some 15), .idxStr (.t 13) (.t 14), none⟩, ⟨(some 4), .mv (.t 15), none⟩] [4, 3, 0])
    (.block 2
     (.seq
     (.ops [⟨(some 19), .mv (.t 4), none⟩, ⟨(some 20), .bin .leq (.t 19) (.c (.int .u8 32)), none⟩, ⟨(some 21), .mv (.t 20), none⟩, ⟨(some 22), .mv (.t 4), (some (21, false))⟩, ⟨(some 23), .bin .geq (.t 22) (.c (.int .u8 127)), (some (21, false))⟩, ⟨(some 24), .pick (.t 21) (.c (.bool true)) (.t 23), none⟩, ⟨(some 25), .mv (.t 24), none⟩, ⟨(some 26), .mv (.t 4), (some (25, false))⟩, ⟨(some 27), .bin .eql (.t 26) (.c (.int .u8 40)), (some (25, false))⟩, ⟨(some 28), .pick (.t 25) (.c (.bool true)) (.t 27), none⟩, ⟨(some 29), .mv (.t 28), none⟩, ⟨(some 30), .mv (.t 4), (some (29, false))⟩, ⟨(some 31), .bin .eql (.t 30) (.c (.int .u8 41)), (some (29, false))⟩, ⟨(some 32), .pick (.t 29) (.c (.bool true)) (.t 31), none⟩, ⟨(some 33), .mv (.t 32), none⟩, ⟨(some 34), .mv (.t 4), (some (33, false))⟩, ⟨(some 35), .bin .eql (.t 34) (.c (.int .u8 34)), (some (33, false))⟩, ⟨(some 36), .pick (.t 33) (.c (.bool true)) (.t 35), none⟩, ⟨(some 18), .mv (.t 36), none⟩] [18, 3, 4, 0])
     (.cond (.t 18)
      (.exit 0)
      (.seq
      (.ops [⟨(some 38), .mv (.t 4), none⟩, ⟨(some 39), .bin .eql (.t 38) (.c (.int .u8 123)), none⟩, ⟨(some 40), .mv (.t 39), none⟩, ⟨(some 41), .mv (.t 4), (some (40, false))⟩, ⟨(some 42), .bin .eql (.t 41) (.c (.int .u8 126)), (some (40, false))⟩, ⟨(some 43), .pick (.t 40) (.c (.bool true)) (.t 42), none⟩, ⟨(some 37), .mv (.t 43), none⟩] [37, 0, 3, 4])
      (.cond (.t 37)
       (.seq
       (.seq
       (.ops [⟨(some 45), .mv (.t 0), none⟩, ⟨(some 46), .mv (.t 3), none⟩, ⟨(some 47), .sliceStr (.t 45) (some (.t 46)) none, none⟩, ⟨(some 48), .call (.c (.func 95 [])) [(.t 47)], none⟩, ⟨(some 44), .mv (.t 48), none⟩, ⟨(some 49), .extract (.t 44) 0, none⟩, ⟨(some 50), .extract (.t 44) 1, none⟩, ⟨(some 51), .extract (.t 44) 2, none⟩, ⟨(some 5), .mv (.t 49), none⟩, ⟨(some 6), .mv (.t 50), none⟩, ⟨(some 7), .mv (.t 51), none⟩] [7, 3, 0])
       (.seq
       (.ops [⟨(some 52), .mv (.t 7), none⟩] [52, 3, 0])
       (.cond (.t 52)
        (.exit 0)
        .skip)))
       (.ops [⟨(some 53), .mv (.t 3), none⟩, ⟨(some 54), .bin .add (.t 53) (.c (.int .i64 1)), none⟩, ⟨(some 3), .mv (.t 54), none⟩] [3, 0]))
       (.seq
       (.ops [⟨(some 56), .mv (.t 4), none⟩, ⟨(some 57), .bin .eql (.t 56) (.c (.int .u8 91)), none⟩, ⟨(some 55), .mv (.t 57), none⟩] [55, 0, 3])
       (.cond (.t 55)
        (.seq
        (.ops [⟨(some 58), .mv (.t 0), none⟩, ⟨(some 59), .mv (.t 3), none⟩, ⟨(some 60), .sliceStr (.t 58) (some (.t 59)) none, none⟩, ⟨(some 61), .call (.c (.func 156 [])) [(.t 60)], none⟩, ⟨(some 8), .mv (.t 61), none⟩] [8, 3, 0])
        (.seq
        (.seq
        (.ops [⟨(some 62), .mv (.t 8), none⟩, ⟨(some 63), .bin .eql (.t 62) (.c (.int .i64 0)), none⟩] [63, 3, 8, 0])
        (.cond (.t 63)
         (.seq
         (.ops [⟨(some 2), .mv (.c (.int .i64 0)), none⟩] [2])
         .ret)
         .skip))
        (.ops [⟨(some 64), .mv (.t 3), none⟩, ⟨(some 65), .mv (.t 8), none⟩, ⟨(some 66), .bin .add (.t 64) (.t 65), none⟩, ⟨(some 3), .mv (.t 66), none⟩] [3, 0])))
        (.ops [⟨(some 16), .mv (.t 3), none⟩, ⟨(some 17), .bin .add (.t 16) (.c (.int .i64 1)), none⟩, ⟨(some 3), .mv (.t 17), none⟩] [3, 0])))))))))))))
 (.seq
 (.ops [⟨(some 67), .mv (.t 3), none⟩, ⟨(some 2), .mv (.t 67), none⟩] [2])
 .ret)))))),
 none⟩
theorem c96 : cFunc Tryz.prog true none [[0], [3, 0], [3, 0], [12, 0, 3], [4, 3, 0], [18, 3, 4, 0], [37, 0, 3, 4], [7, 3, 0], [52, 3, 0], [3, 0], [55, 0, 3], [8, 3, 0], [63, 3, 8, 0], [2], [3, 0], [3, 0], [2]] Tryz.f96 = some m96 := by kernel_rfl

/-- letterbox/charset.find$1 -/
def m97 : MFunc := ⟨6, 1, [.cell 2 (some 3)],
 (.seq
 (.ops [⟨(some 2), .alloc 112 [(.int .i32 0), .nilfunc, .nilfunc], none⟩] [0, 2])
 (.seq
 (.ops [⟨(some 3), .mv (.t 0), none⟩, ⟨(some 4), .build [(.int .i32 0)] [(0, 1, (.t 3))], none⟩, ⟨(some 5), .build [(.int .i32 0), .nilfunc, .nilfunc] [(0, 1, (.t 4)), (1, 1, (.c (.func 98 []))), (2, 1, (.c (.func 99 [])))], none⟩, ⟨none, .store 3 (.t 2) (.t 5), none⟩] [2])
 .ret)),
 none⟩
theorem c97 : cFunc Tryz.prog true none [[0, 2], [2]] Tryz.f97 = some m97 := by kernel_rfl

/-- (letterbox/charset.set).text -/
def m98 : MFunc := ⟨28, 2, [.t 4, .t 5],
 (.seq
 (.ops [⟨(some 2), .box 108 (.t 0), none⟩, ⟨(some 4), .mv (.c (.str [])), none⟩, ⟨(some 5), .mv (.c (.bool false)), none⟩] [1, 2])
 (.seq
 (.ops [⟨(some 6), .mv (.c .nilslice), none⟩] [1, 2, 6])
 (.seq
 (.seq
 (.ops [⟨(some 9), .mv (.t 1), none⟩, ⟨(some 10), .lenL (.t 9), none⟩, ⟨(some 11), .mv (.c (.int .i64 0)), none⟩] [11, 10, 9, 2, 6])
 (.block 0
  (.loop [11, 10, 9, 2, 6]
   (.seq
   (.ops [⟨(some 12), .bin .lss (.t 11) (.t 10), none⟩] [12, 9, 11, 2, 6, 10])
   (.seq
   (.cond (.t 12)
    .skip
    (.exit 0))
   (.seq
   (.block 1
    (.seq
    (.ops [⟨(some 13), .idxA 1 (.t 9) (.t 11), none⟩, ⟨(some 14), .load none (.t 13), none⟩, ⟨(some 8), .mv (.t 14), none⟩] [8, 2, 6, 11, 10, 9])
    (.seq
    (.seq
    (.ops [⟨(some 15), .mv (.t 8), none⟩, ⟨(some 16), .conv (.int .i32) (.t 15), none⟩, ⟨(some 17), .fieldA (.t 2) 0, none⟩, ⟨(some 18), .load none (.t 17), none⟩, ⟨(some 19), .bin .geq (.t 16) (.t 18), none⟩] [19, 6, 8, 11, 10, 9, 2])
    (.cond (.t 19)
     (.seq
     (.ops [⟨(some 4), .mv (.c (.str [])), none⟩, ⟨(some 5), .mv (.c (.bool false)), none⟩] [4, 5])
     .ret)
     .skip))
    (.ops [⟨(some 20), .mv (.t 6), none⟩, ⟨(some 21), .mv (.t 8), none⟩, ⟨(some 22), .conv (.int .i32) (.t 21), none⟩, ⟨(some 23), .mkSlice 1 (.int .i32 0) 1 [(0, (.t 22))], none⟩, ⟨(some 24), .append 21 1 4 (.t 20) (.t 23), none⟩, ⟨(some 6), .mv (.t 24), none⟩] [11, 10, 9, 2, 6]))))
   (.ops [⟨(some 25), .bin .add (.t 11) (.c (.int .i64 1)), none⟩, ⟨(some 11), .mv (.t 25), none⟩] [11, 10, 9, 2, 6])))))))
 (.seq
 (.ops [⟨(some 26), .mv (.t 6), none⟩, ⟨(some 27), .conv .runesStr (.t 26), none⟩, ⟨(some 4), .mv (.t 27), none⟩, ⟨(some 5), .mv (.c (.bool true)), none⟩] [4, 5])
 .ret)))),
 none⟩
theorem c98 : cFunc Tryz.prog true none [[1, 2], [1, 2, 6], [11, 10, 9, 2, 6], [11, 10, 9, 2, 6], [12, 9, 11, 2, 6, 10], [8, 2, 6, 11, 10, 9], [19, 6, 8, 11, 10, 9, 2], [4, 5], [11, 10, 9, 2, 6], [11, 10, 9, 2, 6], [4, 5]] Tryz.f98 = some m98 := by kernel_rfl

/-- (letterbox/charset.set).bytes -/
def m99 : MFunc := ⟨24, 2, [.t 4, .t 5],
 (.seq
 (.ops [⟨(some 2), .box 108 (.t 0), none⟩, ⟨(some 4), .mv (.c .nilslice), none⟩, ⟨(some 5), .mv (.c (.bool false)), none⟩] [1, 2])
 (.seq
 (.ops [⟨(some 6), .mv (.c .nilslice), none⟩] [1, 2, 6])
 (.seq
 (.seq
 (.ops [⟨(some 9), .mv (.t 1), none⟩, ⟨(some 10), .rangeStr (.t 9), none⟩] [10, 2, 6])
 (.block 0
  (.loop [10, 2, 6]
   (.seq
   (.ops [⟨(some 11), .nextStr (.t 10), none⟩, ⟨(some 12), .extract (.t 11) 0, none⟩] [12, 11, 2, 6, 10])
   (.seq
   (.cond (.t 12)
    .skip
    (.exit 0))
   (.block 1
    (.seq
    (.ops [⟨(some 13), .extract (.t 11) 2, none⟩, ⟨(some 8), .mv (.t 13), none⟩] [8, 2, 6, 10])
    (.seq
    (.seq
    (.ops [⟨(some 14), .mv (.t 8), none⟩, ⟨(some 15), .fieldA (.t 2) 0, none⟩, ⟨(some 16), .load none (.t 15), none⟩, ⟨(some 17), .bin .geq (.t 14) (.t 16), none⟩] [17, 6, 8, 10, 2])
    (.cond (.t 17)
     (.seq
     (.ops [⟨(some 4), .mv (.c .nilslice), none⟩, ⟨(some 5), .mv (.c (.bool false)), none⟩] [4, 5])
     .ret)
     .skip))
    (.ops [⟨(some 18), .mv (.t 6), none⟩, ⟨(some 19), .mv (.t 8), none⟩, ⟨(some 20), .conv (.int .u8) (.t 19), none⟩, ⟨(some 21), .mkSlice 1 (.int .u8 0) 1 [(0, (.t 20))], none⟩, ⟨(some 22), .append 5 1 1 (.t 18) (.t 21), none⟩, ⟨(some 6), .mv (.t 22), none⟩] [10, 2, 6])))))))))
 (.seq
 (.ops [⟨(some 23), .mv (.t 6), none⟩, ⟨(some 4), .mv (.t 23), none⟩, ⟨(some 5), .mv (.c (.bool true)), none⟩] [4, 5])
 .ret)))),
 none⟩
theorem c99 : cFunc Tryz.prog true none [[1, 2], [1, 2, 6], [10, 2, 6], [10, 2, 6], [12, 11, 2, 6, 10], [8, 2, 6, 10], [17, 6, 8, 10, 2], [4, 5], [10, 2, 6], [4, 5]] Tryz.f99 = some m99 := by kernel_rfl

/-- (letterbox/charset.set).wide -/
def m100 : MFunc := ⟨10, 2, [.t 4, .t 5],
 (.seq
 (.ops [⟨(some 2), .box 108 (.t 0), none⟩, ⟨(some 4), .mv (.c (.str [])), none⟩, ⟨(some 5), .mv (.c (.bool false)), none⟩] [1])
 (.seq
 (.draw [⟨⟨(some 6), .mv (.t 1), none⟩, none⟩, ⟨⟨(some 7), .conv .bytesStr (.t 6), none⟩, none⟩, ⟨⟨(some 8), .mv (.t 1), none⟩, none⟩, ⟨⟨(some 9), .call (.c (.func 157 [])) [(.t 8)], none⟩, none⟩, ⟨⟨(some 4), .mv (.t 7), none⟩, none⟩, ⟨⟨(some 5), .mv (.t 9), none⟩, none⟩] [] [4, 5])
 .ret)),
 none⟩
theorem c100 : cFunc Tryz.prog true none [[1], [4, 5], []] Tryz.f100 = some m100 := by kernel_rfl

/-- (letterbox/charset.set).plain -/
def m101 : MFunc := ⟨8, 2, [.t 4, .t 5],
 (.seq
 (.ops [⟨(some 2), .box 108 (.t 0), none⟩, ⟨(some 4), .mv (.c .nilslice), none⟩, ⟨(some 5), .mv (.c (.bool false)), none⟩] [1])
 (.seq
 (.ops [⟨(some 6), .mv (.t 1), none⟩, ⟨(some 7), .conv .frozen (.t 6), none⟩, ⟨(some 4), .mv (.t 7), none⟩, ⟨(some 5), .mv (.c (.bool true)), none⟩] [4, 5])
 .ret)),
 none⟩
theorem c101 : cFunc Tryz.prog true none [[1], [4, 5]] Tryz.f101 = some m101 := by kernel_rfl

/-- letterbox/search.upper -/
def m102 : MFunc := ⟨30, 1, [.t 2],
 (.seq
 (.ops [⟨(some 2), .mv (.c (.str [])), none⟩] [0])
 (.seq
 (.ops [⟨(some 6), .mv (.t 0), none⟩, ⟨(some 7), .conv .strBytes (.t 6), none⟩, ⟨(some 3), .mv (.t 7), none⟩] [3])
 (.seq
 (.seq
 (.ops [⟨(some 8), .mv (.t 3), none⟩, ⟨(some 9), .lenL (.t 8), none⟩, ⟨(some 10), .mv (.c (.int .i64 0)), none⟩] [10, 9, 8, 3])
 (.block 0
  (.loop [10, 9, 8, 3]
   (.seq
   (.ops [⟨(some 11), .bin .lss (.t 10) (.t 9), none⟩] [11, 10, 8, 3, 9])
   (.seq
   (.cond (.t 11)
    .skip
    (.exit 0))
   (.seq
   (.block 1
    (.seq
    (.ops [⟨(some 12), .mv (.t 10), none⟩, ⟨(some 13), .idxA 1 (.t 8) (.t 10), none⟩, ⟨(some 14), .load none (.t 13), none⟩, ⟨(some 4), .mv (.t 12), none⟩, ⟨(some 5), .mv (.t 14), none⟩] [5, 3, 4, 10, 9, 8])
    (.seq
    (.ops [⟨(some 15), .mv (.t 5), none⟩, ⟨(some 16), .bin .geq (.t 15) (.c (.int .u8 97)), none⟩, ⟨(some 17), .mv (.t 16), none⟩, ⟨(some 18), .mv (.t 5), (some (17, true))⟩, ⟨(some 19), .bin .leq (.t 18) (.c (.int .u8 122)), (some (17, true))⟩, ⟨(some 20), .pick (.t 17) (.t 19) (.c (.bool false)), none⟩] [20, 3, 4, 5, 10, 9, 8])
    (.cond (.t 20)
     (.ops [⟨(some 21), .mv (.t 3), none⟩, ⟨(some 22), .mv (.t 4), none⟩, ⟨(some 23), .mv (.t 5), none⟩, ⟨(some 24), .bin .sub (.t 23) (.c (.int .u8 97)), none⟩, ⟨(some 25), .bin .add (.t 24) (.c (.int .u8 65)), none⟩, ⟨(some 26), .idxA 1 (.t 21) (.t 22), none⟩, ⟨none, .store 1 (.t 26) (.t 25), none⟩] [10, 9, 8, 3])
     .skip))))
   (.ops [⟨(some 27), .bin .add (.t 10) (.c (.int .i64 1)), none⟩, ⟨(some 10), .mv (.t 27), none⟩] [10, 9, 8, 3])))))))
 (.seq
 (.ops [⟨(some 28), .mv (.t 3), none⟩, ⟨(some 29), .conv .bytesStr (.t 28), none⟩, ⟨(some 2), .mv (.t 29), none⟩] [2])
 .ret)))),
 none⟩
theorem c102 : cFunc Tryz.prog false none [[0], [3], [10, 9, 8, 3], [10, 9, 8, 3], [11, 10, 8, 3, 9], [5, 3, 4, 10, 9, 8], [20, 3, 4, 5, 10, 9, 8], [10, 9, 8, 3], [10, 9, 8, 3], [2]] Tryz.f102 = some m102 := by kernel_rfl

/-- letterbox/search.need -/
def m103 : MFunc := ⟨39, 1, [.t 2, .t 3],
 (.seq
 (.ops [⟨(some 2), .mv (.c .nilfunc), none⟩, ⟨(some 3), .mv (.c (.bool false)), none⟩] [0])
 (.seq
 (.seq
 (.ops [⟨(some 6), .mv (.t 0), none⟩] [6, 0])
 (.block 0
  (.seq
  (.seq
  (.ops [⟨(some 8), .bin .eql (.t 6) (.c (.str [65, 76, 76])), none⟩, ⟨(some 7), .mv (.t 8), none⟩] [7, 6, 0])
  (.cond (.t 7)
   .skip
   (.seq
   (.ops [⟨(some 9), .bin .eql (.t 6) (.c (.str [65, 78, 83, 87, 69, 82, 69, 68])), none⟩, ⟨(some 7), .mv (.t 9), none⟩] [7, 6, 0])
   (.cond (.t 7)
    .skip
    (.seq
    (.ops [⟨(some 10), .bin .eql (.t 6) (.c (.str [68, 69, 76, 69, 84, 69, 68])), none⟩, ⟨(some 7), .mv (.t 10), none⟩] [7, 6, 0])
    (.cond (.t 7)
     .skip
     (.seq
     (.ops [⟨(some 11), .bin .eql (.t 6) (.c (.str [68, 82, 65, 70, 84])), none⟩, ⟨(some 7), .mv (.t 11), none⟩] [7, 6, 0])
     (.cond (.t 7)
      .skip
      (.seq
      (.ops [⟨(some 12), .bin .eql (.t 6) (.c (.str [70, 76, 65, 71, 71, 69, 68])), none⟩, ⟨(some 7), .mv (.t 12), none⟩] [7, 6, 0])
      (.cond (.t 7)
       .skip
       (.seq
       (.ops [⟨(some 13), .bin .eql (.t 6) (.c (.str [78, 69, 87])), none⟩, ⟨(some 7), .mv (.t 13), none⟩] [7, 6, 0])
       (.cond (.t 7)
        .skip
        (.seq
        (.ops [⟨(some 14), .bin .eql (.t 6) (.c (.str [79, 76, 68])), none⟩, ⟨(some 7), .mv (.t 14), none⟩] [7, 6, 0])
        (.cond (.t 7)
         .skip
         (.seq
         (.ops [⟨(some 15), .bin .eql (.t 6) (.c (.str [82, 69, 67, 69, 78, 84])), none⟩, ⟨(some 7), .mv (.t 15), none⟩] [7, 6, 0])
         (.cond (.t 7)
          .skip
          (.seq
          (.ops [⟨(some 16), .bin .eql (.t 6) (.c (.str [83, 69, 69, 78])), none⟩, ⟨(some 7), .mv (.t 16), none⟩] [7, 6, 0])
          (.cond (.t 7)
           .skip
           (.seq
           (.ops [⟨(some 17), .bin .eql (.t 6) (.c (.str [85, 78, 65, 78, 83, 87, 69, 82, 69, 68])), none⟩, ⟨(some 7), .mv (.t 17), none⟩] [7, 6, 0])
           (.cond (.t 7)
            .skip
            (.seq
            (.ops [⟨(some 18), .bin .eql (.t 6) (.c (.str [85, 78, 68, 69, 76, 69, 84, 69, 68])), none⟩, ⟨(some 7), .mv (.t 18), none⟩] [7, 6, 0])
            (.cond (.t 7)
             .skip
             (.seq
             (.ops [⟨(some 19), .bin .eql (.t 6) (.c (.str [85, 78, 68, 82, 65, 70, 84])), none⟩, ⟨(some 7), .mv (.t 19), none⟩] [7, 6, 0])
             (.cond (.t 7)
              .skip
              (.seq
              (.ops [⟨(some 20), .bin .eql (.t 6) (.c (.str [85, 78, 70, 76, 65, 71, 71, 69, 68])), none⟩, ⟨(some 7), .mv (.t 20), none⟩] [7, 6, 0])
              (.cond (.t 7)
               .skip
               (.ops [⟨(some 21), .bin .eql (.t 6) (.c (.str [85, 78, 83, 69, 69, 78])), none⟩, ⟨(some 7), .mv (.t 21), none⟩] [7, 6, 0])))))))))))))))))))))))))))
  (.cond (.t 7)
   (.seq
   (.ops [⟨(some 2), .mv (.c (.func 158 [])), none⟩, ⟨(some 3), .mv (.c (.bool true)), none⟩] [2, 3])
   .ret)
   (.seq
   (.seq
   (.ops [⟨(some 23), .bin .eql (.t 6) (.c (.str [66, 67, 67])), none⟩, ⟨(some 22), .mv (.t 23), none⟩] [22, 0, 6])
   (.cond (.t 22)
    .skip
    (.seq
    (.ops [⟨(some 24), .bin .eql (.t 6) (.c (.str [66, 79, 68, 89])), none⟩, ⟨(some 22), .mv (.t 24), none⟩] [22, 0, 6])
    (.cond (.t 22)
     .skip
     (.seq
     (.ops [⟨(some 25), .bin .eql (.t 6) (.c (.str [67, 67])), none⟩, ⟨(some 22), .mv (.t 25), none⟩] [22, 0, 6])
     (.cond (.t 22)
      .skip
      (.seq
      (.ops [⟨(some 26), .bin .eql (.t 6) (.c (.str [70, 82, 79, 77])), none⟩, ⟨(some 22), .mv (.t 26), none⟩] [22, 0, 6])
      (.cond (.t 22)
       .skip
       (.seq
       (.ops [⟨(some 27), .bin .eql (.t 6) (.c (.str [83, 85, 66, 74, 69, 67, 84])), none⟩, ⟨(some 22), .mv (.t 27), none⟩] [22, 0, 6])
       (.cond (.t 22)
        .skip
        (.seq
        (.ops [⟨(some 28), .bin .eql (.t 6) (.c (.str [84, 69, 88, 84])), none⟩, ⟨(some 22), .mv (.t 28), none⟩] [22, 0, 6])
        (.cond (.t 22)
         .skip
         (.ops [⟨(some 29), .bin .eql (.t 6) (.c (.str [84, 79])), none⟩, ⟨(some 22), .mv (.t 29), none⟩] [22, 0])))))))))))))
   (.cond (.t 22)
    (.seq
    (.ops [⟨(some 2), .mv (.c (.func 159 [])), none⟩, ⟨(some 3), .mv (.c (.bool true)), none⟩] [2, 3])
    .ret)
    .skip))))))
 (.seq
 (.ops [⟨(some 31), .makeMap none, none⟩, ⟨none, .insert none (.t 31) (.c (.str [75, 69, 89, 87, 79, 82, 68])) (.c (.func 160 [])), none⟩, ⟨none, .insert none (.t 31) (.c (.str [85, 78, 75, 69, 89, 87, 79, 82, 68])) (.c (.func 160 [])), none⟩, ⟨none, .insert none (.t 31) (.c (.str [72, 69, 65, 68, 69, 82])) (.c (.func 161 [])), none⟩, ⟨none, .insert none (.t 31) (.c (.str [66, 69, 70, 79, 82, 69])) (.c (.func 162 [])), none⟩, ⟨none, .insert none (.t 31) (.c (.str [79, 78])) (.c (.func 162 [])), none⟩, ⟨none, .insert none (.t 31) (.c (.str [83, 73, 78, 67, 69])) (.c (.func 162 [])), none⟩, ⟨none, .insert none (.t 31) (.c (.str [83, 69, 78, 84, 66, 69, 70, 79, 82, 69])) (.c (.func 162 [])), none⟩, ⟨none, .insert none (.t 31) (.c (.str [83, 69, 78, 84, 79, 78])) (.c (.func 162 [])), none⟩, ⟨none, .insert none (.t 31) (.c (.str [83, 69, 78, 84, 83, 73, 78, 67, 69])) (.c (.func 162 [])), none⟩, ⟨none, .insert none (.t 31) (.c (.str [76, 65, 82, 71, 69, 82])) (.c (.func 163 [])), none⟩, ⟨none, .insert none (.t 31) (.c (.str [83, 77, 65, 76, 76, 69, 82])) (.c (.func 163 [])), none⟩, ⟨none, .insert none (.t 31) (.c (.str [78, 79, 84])) (.c (.func 164 [])), none⟩, ⟨none, .insert none (.t 31) (.c (.str [79, 82])) (.c (.func 165 [])), none⟩, ⟨none, .insert none (.t 31) (.c (.str [85, 73, 68])) (.c (.func 166 [])), none⟩, ⟨(some 32), .mv (.t 31), none⟩, ⟨(some 33), .mv (.t 0), none⟩, ⟨(some 34), .lookup none .nilfunc true (.t 32) (.t 33), none⟩, ⟨(some 30), .mv (.t 34), none⟩, ⟨(some 35), .extract (.t 30) 0, none⟩, ⟨(some 36), .extract (.t 30) 1, none⟩, ⟨(some 4), .mv (.t 35), none⟩, ⟨(some 5), .mv (.t 36), none⟩] [4, 5])
 (.seq
 (.ops [⟨(some 37), .mv (.t 4), none⟩, ⟨(some 38), .mv (.t 5), none⟩, ⟨(some 2), .mv (.t 37), none⟩, ⟨(some 3), .mv (.t 38), none⟩] [2, 3])
 .ret)))),
 none⟩
theorem c103 : cFunc Tryz.prog true none [[0], [6, 0], [7, 6, 0], [7, 6, 0], [7, 6, 0], [7, 6, 0], [7, 6, 0], [7, 6, 0], [7, 6, 0], [7, 6, 0], [7, 6, 0], [7, 6, 0], [7, 6, 0], [7, 6, 0], [7, 6, 0], [7, 6, 0], [2, 3], [22, 0, 6], [22, 0, 6], [22, 0, 6], [22, 0, 6], [22, 0, 6], [22, 0, 6], [22, 0], [2, 3], [4, 5], [2, 3]] Tryz.f103 = some m103 := by kernel_rfl

/-- slices.Contains[[]int,int] -/
def m104 : MFunc := ⟨9, 2, [.t 4],
 (.seq
 (.ops [⟨(some 4), .mv (.c (.bool false)), none⟩] [0, 1])
 (.seq
 (.ops [⟨(some 5), .mv (.t 0), none⟩, ⟨(some 6), .mv (.t 1), none⟩, ⟨(some 7), .call (.c (.func 167 [])) [(.t 5), (.t 6)], none⟩, ⟨(some 8), .bin .geq (.t 7) (.c (.int .i64 0)), none⟩, ⟨(some 4), .mv (.t 8), none⟩] [4])
 .ret)),
 none⟩
theorem c104 : cFunc Tryz.prog true none [[0, 1], [4]] Tryz.f104 = some m104 := by kernel_rfl

/-- letterbox/chars.Split -/
def m111 : MFunc := ⟨34, 2, [.t 4],
 (.seq
 (.ops [⟨(some 4), .mv (.c .nilslice), none⟩] [0, 1])
 (.seq
 (.ops [⟨(some 5), .mv (.c .nilslice), none⟩] [0, 1, 5])
 (.seq
 (.ops [⟨(some 6), .mv (.c (.int .i64 0)), none⟩] [0, 1, 5, 6])
 (.seq
 (.seq
 (.ops [⟨(some 8), .mv (.t 0), none⟩, ⟨(some 9), .lenS (.t 8), none⟩, ⟨(some 10), .mv (.c (.int .i64 0)), none⟩] [10, 9, 0, 1, 5, 6])
 (.block 0
  (.loop [10, 9, 0, 1, 5, 6]
   (.seq
   (.ops [⟨(some 11), .bin .lss (.t 10) (.t 9), none⟩] [11, 10, 0, 1, 5, 6, 9])
   (.seq
   (.cond (.t 11)
    .skip
    (.exit 0))
   (.seq
   (.block 1
    (.seq
    (.ops [⟨(some 12), .mv (.t 10), none⟩, ⟨(some 7), .mv (.t 12), none⟩] [0, 7, 1, 5, 6, 10, 9])
    (.seq
    (.ops [⟨(some 13), .mv (.t 0), none⟩, ⟨(some 14), .mv (.t 7), none⟩, ⟨(some 15), .idxStr (.t 13) (.t 14), none⟩, ⟨(some 16), .mv (.t 1), none⟩, ⟨(some 17), .bin .eql (.t 15) (.t 16), none⟩] [17, 5, 0, 6, 7, 10, 9, 1])
    (.cond (.t 17)
     (.ops [⟨(some 18), .mv (.t 5), none⟩, ⟨(some 19), .mv (.t 0), none⟩, ⟨(some 20), .mv (.t 6), none⟩, ⟨(some 21), .mv (.t 7), none⟩, ⟨(some 22), .sliceStr (.t 19) (some (.t 20)) (some (.t 21)), none⟩, ⟨(some 23), .mkSlice 1 (.str []) 1 [(0, (.t 22))], none⟩, ⟨(some 24), .append 9 1 16 (.t 18) (.t 23), none⟩, ⟨(some 25), .mv (.t 7), none⟩, ⟨(some 26), .bin .add (.t 25) (.c (.int .i64 1)), none⟩, ⟨(some 5), .mv (.t 24), none⟩, ⟨(some 6), .mv (.t 26), none⟩] [10, 9, 0, 1, 5, 6])
     .skip))))
   (.ops [⟨(some 27), .bin .add (.t 10) (.c (.int .i64 1)), none⟩, ⟨(some 10), .mv (.t 27), none⟩] [10, 9, 0, 1, 5, 6])))))))
 (.seq
 (.ops [⟨(some 28), .mv (.t 5), none⟩, ⟨(some 29), .mv (.t 0), none⟩, ⟨(some 30), .mv (.t 6), none⟩, ⟨(some 31), .sliceStr (.t 29) (some (.t 30)) none, none⟩, ⟨(some 32), .mkSlice 1 (.str []) 1 [(0, (.t 31))], none⟩, ⟨(some 33), .append 9 1 16 (.t 28) (.t 32), none⟩, ⟨(some 4), .mv (.t 33), none⟩] [4])
 .ret))))),
 none⟩
theorem c111 : cFunc Tryz.prog true none [[0, 1], [0, 1, 5], [0, 1, 5, 6], [10, 9, 0, 1, 5, 6], [10, 9, 0, 1, 5, 6], [11, 10, 0, 1, 5, 6, 9], [0, 7, 1, 5, 6, 10, 9], [17, 5, 0, 6, 7, 10, 9, 1], [10, 9, 0, 1, 5, 6], [10, 9, 0, 1, 5, 6], [4]] Tryz.f111 = some m111 := by kernel_rfl
end Go.Proofs.YtnnclgadfbaldaaGreatDoor
