/-
  The given program's package-level variables, and the types of what its laws are given.
-/
import Derived.Test.YtnnclgadfbaldaaGreatDoorAvE
import Derived.Test.YtnnclgadfbaldaaGreatDoorAvOwn
import Derived.Test.YtnnclgadfbaldaaGreatDoorAvSeatE
import Derived.Test.YtnnclgadfbaldaaGreatDoorRows
import Derived.Shelf.Vars
import Derived.Lay
namespace Go.Proofs.YtnnclgadfbaldaaGreatDoor
open Go Go.Av Go.RowKit Go.Proofs

noncomputable def tyL : List TypeId := closeT Tryz.prog 12 ([3, 4, 5, 9, 22, 30, 45] ++ (List.range 4).filterMap fun g => (Tryz.prog.globals[g]?).map (·.type))
theorem tyL_closed : closedT Tryz.prog tyL = true := by kernel_rfl

def laid3 : List (String × DataW Unit) := [("unicode/utf8.acceptRanges", Rows.laid_unicode_utf8_acceptRanges), ("letterbox/date.months", Rows.laid_letterbox_date_months), ("unicode/utf8.first", Rows.laid_unicode_utf8_first)]

def monthsA : List AV := [[74, 97, 110], [70, 101, 98], [77, 97, 114], [65, 112, 114], [77, 97, 121], [74, 117, 110], [74, 117, 108], [65, 117, 103], [83, 101, 112], [79, 99, 116], [78, 111, 118], [68, 101, 99]].map AV.str
def firstA : List AV := Go.Pinned.utf8FirstZ.map fun (n : Nat) => AV.int .u8 (n : Int)
def rangesA : List AV := ([128, 191, 160, 191, 128, 159, 144, 191, 128, 143] ++ List.replicate 22 0).map fun (n : Nat) => AV.int .u8 (n : Int)
def GM (m : Int) : Nat → Option (List AV) := fun g => if g = 1 then some [.int .i64 m] else if g = 0 then some monthsA else if g = 2 then some firstA else if g = 3 then some rangesA else none

theorem months_eq : avC (H := Unit) Rows.laid_letterbox_date_months = monthsA := by kernel_rfl
theorem first_eq : avC (H := Unit) Rows.laid_unicode_utf8_first = firstA := by kernel_rfl
theorem ranges_eq : avC (H := Unit) Rows.laid_unicode_utf8_acceptRanges = rangesA := by kernel_rfl

theorem maxLen_cell (W : World) (h : W.ShapedOpen Tryz.prog) : ∃ m, W.cell? ⟨1, 0, none⟩ = some (.int .i64 m) := by
  have hk : (((begin Tryz.prog (fun _ _ => 0) default).world.heap[1]?).bind Obj.row?).map (fun x => (x.1.size, x.2)) = some (1, 3) := by kernel_rfl
  obtain ⟨⟨zero, t⟩, h0, hz⟩ := Option.map_eq_some_iff.1 hk
  simp only [Prod.mk.injEq] at hz
  obtain ⟨hz1, rfl⟩ := hz
  exact cell_of_shapedOpen_int h (of_decide_eq_true (by kernel_rfl)) h0 hz1 (by kernel_rfl) (by kernel_rfl) Tryz.underlying3

theorem glob_all (W : World) (h : W.ShapedOpen Tryz.prog) (hL : laidMetH Tryz.prog laid3 W) : ∃ m, ∀ g cs, GM m g = some cs → Rel0 noBlk W (.iptr cs 0) (.pointer (some ⟨g, 0, none⟩)) := by
  obtain ⟨m, hm⟩ := maxLen_cell W h
  rw [MakeChecks.laidMetH_plain _ _ _ (by kernel_rfl)] at hL
  obtain ⟨ps, hV, _⟩ := hL
  refine ⟨m, fun g cs hg => ?_⟩
  unfold GM at hg
  split at hg
  · rename_i e; subst e; cases hg; exact cell_rel hm
  · split at hg
    · rename_i e; subst e; cases hg
      have := laid_rel tyL_closed hV "letterbox/date.months" Rows.laid_letterbox_date_months (by simp [laid3]) 0 _ (by kernel_rfl) rfl (by decide +kernel)
      rwa [months_eq] at this
    · split at hg
      · rename_i e; subst e; cases hg
        have := laid_rel tyL_closed hV "unicode/utf8.first" Rows.laid_unicode_utf8_first (by simp [laid3]) 2 _ (by kernel_rfl) rfl (by decide +kernel)
        rwa [first_eq] at this
      · split at hg
        · rename_i e; subst e; cases hg
          have := laid_rel tyL_closed hV "unicode/utf8.acceptRanges" Rows.laid_unicode_utf8_acceptRanges (by simp [laid3]) 3 _ (by kernel_rfl) rfl (by decide +kernel)
          rwa [ranges_eq] at this
        · cases hg
end Go.Proofs.YtnnclgadfbaldaaGreatDoor
