/-
  SearchFlags: what the evaluator finds: its states.
-/
import Derived.Test.YtnnclgadfbaldaaGreatDoorAvSpecA
import Derived.Test.YtnnclgadfbaldaaGreatDoorAvD
import Derived.IntWalk
namespace Go.Proofs.YtnnclgadfbaldaaGreatDoor
open Go Go.Av Go.RowKit Go.Proofs

/-- The environment without what is answered by what it computes. -/
def envS : Nat → Option MFunc := fun f => if f = 8 ∨ f = 34 ∨ f = 62 then none else envOf env f
theorem envS_ok : EnvOk Tryz.prog envS := fun f m h => by
  unfold envS at h
  split at h
  · cases h
  · exact env_ok f m h
def envS9 : Nat → Option MFunc := fun f => if f = 34 ∨ f = 62 then none else envOf env f
theorem envS9_ok : EnvOk Tryz.prog envS9 := fun f m h => by
  unfold envS9 at h
  split at h
  · cases h
  · exact env_ok f m h
theorem awk (m : Int) : call (GM m) orcC envS9 100 (fun _ => true) 8 [] [] = some (.bool true, []) := by kernel_rfl
def orcL : CallF := orcPlus orcC 8 [] (.bool true)
theorem orcL_ok (m : Int) : CallOk (GM m) Tryz.prog orcL := orcPlus_ok (orcC_ok m) (call_ok hmix (orcC_ok m) envS9_ok 100) rfl rfl (awk m)
theorem law_cf (m : Int) (n : Nat) : CallOk (GM m) Tryz.prog (call (GM m) orcL envS n) := call_ok hmix (orcL_ok m) envS_ok n

def namesA : List AV := [.str [97, 110, 115, 119, 101, 114, 101, 100], .str [100, 101, 108, 101, 116, 101, 100], .str [100, 114, 97, 102, 116], .str [102, 108, 97, 103, 103, 101, 100], .str [115, 101, 101, 110]]
def wordsA : List AV := [.str [92, 65, 110, 115, 119, 101, 114, 101, 100], .str [92, 68, 69, 76, 69, 84, 69, 68], .str [92, 100, 114, 97, 102, 116], .str [92, 70, 108, 97, 103, 103, 101, 100], .str [92, 83, 101, 101, 110]]
def bitOf (f i : Nat) : Bool := f / 2 ^ i % 2 == 1
def flagsOf (f : Nat) : List AV := (List.range 5).filterMap fun i => if bitOf f i then wordsA[i]? else none
def heapF (f : Nat) : List Blk := match flagsOf f with
  | [] => [.var 45 [.int .i64 1, .int .i64 1, .nilslice, .int .i64 0, .nilslice]]
  | l => [.var 45 [.int .i64 1, .int .i64 1, .mslice 1 0 l.length, .int .i64 0, .nilslice], .arr (some 9) 1 l]
def stF7 (f : Nat) (X : AV) : St := { fr := [(23, .bool false), (1, .int .u8 f), (9, .int .i64 5), (8, .mptr 0 0), (7, .slice true wordsA), (0, X), (6, .slice true namesA)], base := 0, esc := none, h := heapF f }
def stF8 (f : Nat) (X : AV) : St := { fr := [(1, .int .u8 f), (10, X), (6, .slice true namesA), (8, .mptr 0 0)], base := 0, esc := none, h := heapF f }
def stF9 (f n : Nat) : St := { fr := [(6, .slice true namesA), (10, .int .i64 n), (8, .mptr 0 0), (11, .bool (bitOf f n))], base := 0, esc := none, h := heapF f }
def tl7 : M := m6.body.snd.snd.snd.snd.snd.snd.snd
abbrev cfA (m : Int) : CallF := call (GM m) orcL envS 99

end Go.Proofs.YtnnclgadfbaldaaGreatDoor
