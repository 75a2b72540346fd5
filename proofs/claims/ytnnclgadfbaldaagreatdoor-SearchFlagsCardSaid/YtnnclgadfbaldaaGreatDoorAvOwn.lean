/-
  DERIVED: THE SHELF's CONTRACTS AT THIS DUMP, IN PLAIN WORDS (tools/lay-plain.mjs out of 'TryzShelf.lean', which tools/lay-shelf.mjs wrote): THE SAME DECLARATIONS UNDER THE SAME NAMES: 'import', 'namespace', 'open', 'def', 'theorem' AND NOTHING ELSE: no command of the shelf's: FOR A HAND-IN. Each laying: the table of numbers ('.._ren') and one theorem, a field a fact of the dump's own or the kernel's comparison; each contract: ONE APPLICATION.
-/
import Derived.Shelf.Strings.Search1
import Derived.Shelf.Strings.Search2
import Derived.Shelf.Strings.Search3
import Derived.Test.YtnnclgadfbaldaaGreatDoorProg
import Derived.Test.YtnnclgadfbaldaaGreatDoorChecked
import Derived.Shelf.Strings.Builder1
import Derived.Test.YtnnclgadfbaldaaGreatDoorAvLines
namespace Go.Proofs
open Go.Shelf
def Tryz.lays217_ren : Go.Shelf.Ren := ⟨fun | 217 => 188 | 266 => 231 | n => n, fun | 9 => 9 | 5 => 5 | 3 => 3 | n => n, fun | n => n⟩
theorem Tryz.lays217 : Go.Proofs.Lays.n217 Tryz.prog Tryz.lays217_ren := {
  mixed := by kernel_rfl
  f217 := Tryz.func188.trans (congrArg some (by kernel_rfl))
  f266 := Tryz.func231.trans (congrArg some (by kernel_rfl))
  t3 := Tryz.underlying3
  a3 := Tryz.isAgg3
  z3 := Tryz.sizeOf3
  v3 := Tryz.zeroValue3
  t5 := Tryz.underlying5
  a5 := Tryz.isAgg5
  z5 := Tryz.sizeOf5
  v5 := Tryz.zeroValue5
  t9 := Tryz.underlying9
  a9 := Tryz.isAgg9
  z9 := Tryz.sizeOf9
  v9 := Tryz.zeroValue9 }
theorem Tryz.stringslite_IndexByte (s : ByteArray) (c : Int) (w : World) :
    Calls Tryz.prog 188 #[.string s, .int .u8 c] w fun e w' => e = .returned (.int .i64 (Lib.indexByte s.data.toList c.toNat.toUInt8)) ∧ w' = w := Any.stringslite_IndexByte Tryz.lays217 s c w
def Tryz.lays219_ren : Go.Shelf.Ren := ⟨fun | 219 => 137 | 217 => 188 | 225 => 189 | 224 => 190 | 267 => 191 | 266 => 231 | 314 => 232 | n => n, fun | 9 => 9 | 3 => 3 | 4 => 4 | 5 => 5 | 46 => 52 | 146 => 273 | 51 => 272 | n => n, fun | 1 => 1 | n => n⟩
theorem Tryz.lays219 : Go.Proofs.Lays.n219 Tryz.prog Tryz.lays219_ren := {
  mixed := by kernel_rfl
  f217 := Tryz.func188.trans (congrArg some (by kernel_rfl))
  f219 := Tryz.func137.trans (congrArg some (by kernel_rfl))
  f224 := Tryz.func190.trans (congrArg some (by kernel_rfl))
  f225 := Tryz.func189.trans (congrArg some (by kernel_rfl))
  f266 := Tryz.func231.trans (congrArg some (by kernel_rfl))
  f267 := Tryz.func191.trans (congrArg some (by kernel_rfl))
  f314 := Tryz.func232.trans (congrArg some (by kernel_rfl))
  t3 := Tryz.underlying3
  a3 := Tryz.isAgg3
  z3 := Tryz.sizeOf3
  v3 := Tryz.zeroValue3
  t4 := Tryz.underlying4
  a4 := Tryz.isAgg4
  z4 := Tryz.sizeOf4
  v4 := Tryz.zeroValue4
  t5 := Tryz.underlying5
  a5 := Tryz.isAgg5
  z5 := Tryz.sizeOf5
  v5 := Tryz.zeroValue5
  t9 := Tryz.underlying9
  a9 := Tryz.isAgg9
  z9 := Tryz.sizeOf9
  v9 := Tryz.zeroValue9
  t46 := Tryz.underlying52
  a46 := Tryz.isAgg52
  z46 := Tryz.sizeOf52
  v46 := Tryz.zeroValue52
  t51 := Tryz.underlying272
  a51 := Tryz.isAgg272
  z51 := Tryz.sizeOf272
  v51 := Tryz.zeroValue272
  t146 := Tryz.underlying273
  a146 := Tryz.isAgg273
  z146 := Tryz.sizeOf273
  v146 := Tryz.zeroValue273
  g1 := by kernel_rfl }
theorem Tryz.stringslite_Index (s sub : ByteArray) (m : Int) (w : World) (hs : s.size < 4294967281) (hm : w.cell? ⟨1, 0, none⟩ = some (.int .i64 m)) :
    Calls Tryz.prog 137 #[.string s, .string sub] w fun e w' => e = .returned (.int .i64 (Lib.index s.data.toList sub.data.toList)) ∧ w' = w := Any.stringslite_Index Tryz.lays219 s sub m w hs hm
end Go.Proofs

/-
  The library's own check of a strings.Builder, walked at this program.
-/
namespace Go.Proofs
open Go.Shelf Go.RowKit

set_option maxHeartbeats 1000000 in
set_option maxRecDepth 100000 in
theorem Tryz.copy_used (b : Nat) (w : World) (h0 : w.cell? ⟨b, 0, none⟩ = some (.pointer (some ⟨b, 0, none⟩))) :
    Calls Tryz.prog 184 #[.pointer (some ⟨b, 0, none⟩)] w fun e w' => e = .returned (.tuple #[]) ∧ w' = w := by
  obtain ⟨j, hj, _⟩ : ∃ j, Tryz.prog.info? 186 = some j ∧ j.size = 2 := Option.map_eq_some_iff.1 (by kernel_rfl : (Tryz.prog.info? 186).map (·.size) = some 2)
  go_enter Tryz.func184, Tryz.ntmps184
  go_wp2
  rw [Lib.run_neq_ptr_same w _ Tryz.underlying184 hj]
  go_wp2
  go_end0
  exact ⟨rfl, rfl⟩

set_option maxHeartbeats 1000000 in
set_option maxRecDepth 100000 in
theorem Tryz.copy_fresh (b : Nat) (w : World) (h0 : w.cell? ⟨b, 0, none⟩ = some (.pointer none)) (hsh : w.shape? b = some (186, 2)) (hfz : w.frozen? ⟨b, 0, none⟩ = false) :
    Calls Tryz.prog 184 #[.pointer (some ⟨b, 0, none⟩)] w fun e w' => e = .returned (.tuple #[]) ∧ w' = w.setCell ⟨b, 0, none⟩ (.pointer (some ⟨b, 0, none⟩)) := by
  obtain ⟨j, hj, hjs⟩ : ∃ j, Tryz.prog.info? 186 = some j ∧ j.size = 2 := Option.map_eq_some_iff.1 (by kernel_rfl : (Tryz.prog.info? 186).map (·.size) = some 2)
  go_enter Tryz.func184, Tryz.ntmps184
  go_wp2
  rw [Lib.run_to_unsafe w ⟨b, 0, none⟩ Tryz.underlying184 Tryz.underlying268 hj (by rw [hjs]; decide) hsh (Nat.zero_lt_succ 1)]
  simp only [Result.andThen]
  rw [Oper.upon_value]
  go_wp2
  rw [run_callFunc_extern Tryz.func227 (by kernel_rfl) (by kernel_rfl) (by kernel_rfl) (e := Extern.AbiNoEscape.same) (by kernel_rfl)]
  rw [Lib.run_noEscape]
  simp only [Result.andThen]
  rw [Oper.upon_value]
  go_wp2
  rw [Lib.run_from_unsafe w ⟨b, 0, none⟩ Tryz.underlying268 Tryz.underlying184 hj hsh (by kernel_rfl)]
  simp only [Result.andThen]
  rw [Oper.upon_value]
  go_wp2
  go_end0
  exact ⟨rfl, rfl⟩

set_option maxHeartbeats 2000000 in
set_option maxRecDepth 100000 in
theorem Tryz.string_nil (b : Nat) (p : Value) (w : World) (hbk : w.heap[b]? = some (.cells #[p, .slice none 0 0] 186 (0, 0))) :
    Calls Tryz.prog 133 #[.pointer (some ⟨b, 0, none⟩)] w fun e w' => e = .returned (.string ⟨#[]⟩) ∧ ∃ n, w' = { w with drawn := n } := by
  have hUS : ∀ (W : World) (q : Option Addr), (Builtin.unsafeString_ #[234, 3] 9 #[.pointer q, .int .i64 0]).run Tryz.prog W = .ok (.string .empty) W := fun W q => Lib.run_unsafeString_none W _ _ _ q
  have c1 : w.drew.cell? ⟨b, 1, none⟩ = some (.slice none 0 0) := by
    have : w.drew.heap[b]? = some (.cells #[p, .slice none 0 0] 186 (0, 0)) := hbk
    rw [Lib.cell_of_heap this]; rfl
  have hSD : (Builtin.unsafeSliceData_ #[43] 234 #[.slice none 0 0]).run Tryz.prog w.drew = .ok (.pointer none) w.drew := rfl
  have mixed : Tryz.prog.follows .mixedOrders = true := by kernel_rfl
  go_enter Tryz.func133, Tryz.ntmps133
  go_wp2
  go_region_o
  all_goals (go_wp2; go_ret; exact ⟨rfl, _, rfl⟩)

set_option maxHeartbeats 2000000 in
set_option maxRecDepth 100000 in
theorem Tryz.string_row (b : Nat) (p : Value) (g cap : Nat) (cur : Array Value) (l : List UInt8) (w : World) (hbk : w.heap[b]? = some (.cells #[p, .slice (some ⟨g, 0, none⟩) l.length cap] 186 (0, 0))) (hg : w.heap[g]? = some (.cells cur 5 (0, 0)))
    (h0 : l ≠ []) (hcap : l.length ≤ cap) (hcs : cap = cur.size) (hlen : l.length < 4294967296) (hcell : ∀ (j : Nat) x, l[j]? = some x → cur[j]? = some (.int .u8 x.toNat)) :
    Calls Tryz.prog 133 #[.pointer (some ⟨b, 0, none⟩)] w fun e w' => e = .returned (.string ⟨l.toArray⟩) ∧ ∃ n, w' = { w.freeze ⟨g, 0, none⟩ l.length with drawn := n } := by
  have hl0 : l.length ≠ 0 := by simpa using h0
  subst hcs
  have hc0 : cur.size ≠ 0 := by omega
  have c1 : w.drew.cell? ⟨b, 1, none⟩ = some (.slice (some ⟨g, 0, none⟩) l.length cur.size) := by
    have : w.drew.heap[b]? = some (.cells #[p, .slice (some ⟨g, 0, none⟩) l.length cur.size] 186 (0, 0)) := hbk
    rw [Lib.cell_of_heap this]; rfl
  have hSD : (Builtin.unsafeSliceData_ #[43] 234 #[.slice (some ⟨g, 0, none⟩) l.length cur.size]).run Tryz.prog w.drew = .ok (.pointer (some ⟨g, 0, none⟩)) w.drew :=
    Lib.run_unsafeSliceData_row _ _ _ _ _ _ (by omega)
  have hUS : (Builtin.unsafeString_ #[234, 3] 9 #[.pointer (some ⟨g, 0, none⟩), .int .i64 l.length]).run Tryz.prog w.drew = .ok (.string ⟨l.toArray⟩) (w.drew.freeze ⟨g, 0, none⟩ l.length) := by
    refine Lib.run_unsafeString_row w.drew 234 3 9 5 Tryz.underlying234 (by kernel_rfl) g cur.size (by have hg' : w.drew.heap[g]? = some (.cells cur 5 (0, 0)) := hg; simp [World.shape?, hg']) l h0 (by omega) (by omega) ?_
    intro j x hx
    have hg' : w.drew.heap[g]? = some (.cells cur 5 (0, 0)) := hg
    have ha : ({ block := g, off := 0 } : Addr).add j = ⟨g, j, none⟩ := by simp [Addr.add]; intro h; exact h.symm
    rw [ha, Lib.cell_of_heap hg']
    exact hcell j x hx
  have hfr : ∃ n, w.drew.freeze ⟨g, 0, none⟩ l.length = { w.freeze ⟨g, 0, none⟩ l.length with drawn := n } := by
    unfold World.freeze
    rw [if_neg hl0, if_neg hl0]
    exact ⟨_, rfl⟩
  have mixed : Tryz.prog.follows .mixedOrders = true := by kernel_rfl
  go_enter Tryz.func133, Tryz.ntmps133
  go_wp2
  clear hcell hg hbk
  go_region_o
  all_goals (go_wp2; go_ret; exact ⟨rfl, hfr⟩)
end Go.Proofs

/-
  What is answered without a function's own text is what the given program's functions do; so are all calls of the evaluator.
-/
namespace Go.Proofs.YtnnclgadfbaldaaGreatDoor
open Go Go.Av Go.RowKit Go.Proofs
section
variable {G : Nat → Option (List AV)}

theorem orc_ok {m : Int} (hG : G 1 = some [.int .i64 m]) : CallOk G Tryz.prog (orcOf N0) := callOk_of fun (f : Nat) => by
  by_cases h1 : f = 137
  · subst h1; exact index_ok (N := N0) (g := 1) hG ⟨_, Tryz.func137, by kernel_rfl, by kernel_rfl⟩ Tryz.stringslite_Index
  by_cases h2 : f = 188
  · subst h2; exact indexByte_ok (N := N0) (by decide) ⟨_, Tryz.func188, by kernel_rfl, by kernel_rfl⟩ Tryz.stringslite_IndexByte
  by_cases h3 : f = 184
  · subst h3; exact copyCheck_ok (N := N0) (by decide) (by decide) ⟨_, Tryz.func184, by kernel_rfl, by kernel_rfl⟩ Tryz.copy_used Tryz.copy_fresh
  by_cases h4 : f = 133
  · subst h4; exact builderString_ok (N := N0) (by decide) (by decide) (by decide) ⟨_, Tryz.func133, by kernel_rfl, by kernel_rfl⟩ Tryz.string_nil Tryz.string_row
  by_cases h5 : f = 134
  · subst h5; exact linesOf_ok
  by_cases h6 : f = 50
  · subst h6; exact find_ok (by kernel_rfl)
  · intro lim args H r H' hz
    rw [orcOf_none (N := N0) (f := f) h1 h2 h3 h4 h5 h6] at hz
    cases hz
end
end Go.Proofs.YtnnclgadfbaldaaGreatDoor
