/-
  NARROWER THAN 'FOR EVERY INPUT', by the rows' own cells (each row's printed sentence says how): SearchParses: laid · SearchMatches: loops, laid · SearchLogic: loops, laid · SearchFlags: laid · SearchTexts: laid.
  DERIVED. THE GIVEN ROWS OF THIS SEAT. 5 by the template 'for every input the law returns true; each argument reads behind the call as it read before'; 0 by the template 'total and deterministic' (their statements: YtnnclgadfbaldaaGreatDoorTotals.lean).
  GIVEN WITH THE SEED: the statements are not yours to turn. If you find one false, say at which input.
  Laid BY PROGRAM, IN A SANDBOX (cutbox-rows.mjs): the forced cells as the released guide's own fill.sh prints them over the translation 052f16fb79e567bc… (all of the seat's roots in one cut). By AI agents, Wed Nov 11 2026. No macro, syntax, notation, axiom, sorry.
-/
import Derived.Test.YtnnclgadfbaldaaGreatDoorChecked
import GoSem.PinnedTables
import GoSem.Claim
import GoSem.ClaimJoined
import GoSem.ClaimMapViews
import Derived.JoinedTies
import Derived.KernelRfl
namespace Go.Proofs.YtnnclgadfbaldaaGreatDoor
/- THE CELL 'sum', in the pinned program and in every row, IS THE sha256 OF THE DUMP (.gsa) THAT YtnnclgadfbaldaaGreatDoorProg.lean LOADS. Nothing in Lean hashes anything: it is a label: what it is worth is what the hold of that sum in a sandbox is worth. -/
noncomputable def Tryz.pinned : Pinned := { name := "ytnnclgadfbaldaagreatdoor", sum := "052f16fb79e567bcfbf10c2f0c36071c66bf0f3a2c4b84c10c372ab0a2cba642", checked := Tryz.checked }
namespace Rows
def none {H : Type} : Left H := { results := [], args := [] }

/- WHAT THE LISTED PACKAGE-LEVEL VARIABLES READ AS WHEN THE CALL BEGINS. Each datum BY PROGRAM (the guide's laid-datum.mjs) off the statement by which the dump's own 'gosem.cut.vars' lays the variable. In a bare row this is a premise. The card (YtnnclgadfbaldaaGreatDoorCards.lean) ties it to the program's text. -/
def laid_unicode_utf8_acceptRanges {H : Type} : DataW H := .agg [.agg [.lit (.int .u8 128), .lit (.int .u8 191)], .agg [.lit (.int .u8 160), .lit (.int .u8 191)], .agg [.lit (.int .u8 128), .lit (.int .u8 159)], .agg [.lit (.int .u8 144), .lit (.int .u8 191)], .agg [.lit (.int .u8 128), .lit (.int .u8 143)], .agg [.lit (.int .u8 0), .lit (.int .u8 0)], .agg [.lit (.int .u8 0), .lit (.int .u8 0)], .agg [.lit (.int .u8 0), .lit (.int .u8 0)], .agg [.lit (.int .u8 0), .lit (.int .u8 0)], .agg [.lit (.int .u8 0), .lit (.int .u8 0)], .agg [.lit (.int .u8 0), .lit (.int .u8 0)], .agg [.lit (.int .u8 0), .lit (.int .u8 0)], .agg [.lit (.int .u8 0), .lit (.int .u8 0)], .agg [.lit (.int .u8 0), .lit (.int .u8 0)], .agg [.lit (.int .u8 0), .lit (.int .u8 0)], .agg [.lit (.int .u8 0), .lit (.int .u8 0)]]
def laid_letterbox_date_months {H : Type} : DataW H := .agg [.lit (.string [74, 97, 110]), .lit (.string [70, 101, 98]), .lit (.string [77, 97, 114]), .lit (.string [65, 112, 114]), .lit (.string [77, 97, 121]), .lit (.string [74, 117, 110]), .lit (.string [74, 117, 108]), .lit (.string [65, 117, 103]), .lit (.string [83, 101, 112]), .lit (.string [79, 99, 116]), .lit (.string [78, 111, 118]), .lit (.string [68, 101, 99])]
/-- One of Go's own tables, pinned by name: the form's constant. -/
def laid_unicode_utf8_first : DataW Unit := Go.Pinned.utf8First

/-- 'letterboxlaw23.SearchParses': WHATEVER THE INPUT: true; the input reads as it did. -/
def searchParsesSpec : ChangeSpec := { name := "searchParses", fn := fun _ => fun
  | [d1, d2] => { results := [.lit (.bool true)], args := [d1, d2] }
  | _ => none }
def searchParsesRow : OpenClaim := { program := "ytnnclgadfbaldaagreatdoor", sum := "052f16fb79e567bcfbf10c2f0c36071c66bf0f3a2c4b84c10c372ab0a2cba642", func := "letterbox/letterboxlaw23.SearchParses", spec := "searchParses", inPlace := ["internal/bytealg.IndexByteString", "internal/bytealg.CountString", "internal/bytealg.IndexString", "internal/abi.NoEscape"], unfollowed := true, recurses := true, named := ["unicode/utf8.first", "unicode/utf8.acceptRanges", "internal/bytealg.MaxLen", "letterbox/date.months"], apart := false, laid := [("unicode/utf8.acceptRanges", laid_unicode_utf8_acceptRanges), ("letterbox/date.months", laid_letterbox_date_months), ("unicode/utf8.first", laid_unicode_utf8_first)] }
def SearchParsesSaid : Prop := searchParsesRow.holds Tryz.pinned (OpenSpec.ofChange searchParsesSpec)

/-- ITS FALSE NEIGHBOUR: 'it returns false'. Refute it at one input. -/
def searchParsesWrong : ChangeSpec := { name := "searchParses", fn := fun _ => fun
  | [d1, d2] => { results := [.lit (.bool false)], args := [d1, d2] }
  | _ => none }
def SearchParsesWrongFalsely : Prop := searchParsesRow.holds Tryz.pinned (OpenSpec.ofChange searchParsesWrong)

/-- 'letterboxlaw23.SearchMatches': WHATEVER THE INPUT: true; the input reads as it did. -/
def searchMatchesSpec : ChangeSpec := { name := "searchMatches", fn := fun _ => fun
  | [d1, d2, d3, d4] => { results := [.lit (.bool true)], args := [d1, d2, d3, d4] }
  | _ => none }
def searchMatchesRow : OpenClaim := { program := "ytnnclgadfbaldaagreatdoor", sum := "052f16fb79e567bcfbf10c2f0c36071c66bf0f3a2c4b84c10c372ab0a2cba642", func := "letterbox/letterboxlaw23.SearchMatches", spec := "searchMatches", inPlace := ["internal/bytealg.IndexByteString", "internal/bytealg.CountString", "internal/bytealg.IndexString", "internal/abi.NoEscape"], unfollowed := true, recurses := true, named := ["unicode/utf8.first", "unicode/utf8.acceptRanges", "internal/bytealg.MaxLen", "letterbox/date.months"], loops := true, apart := false, laid := [("unicode/utf8.acceptRanges", laid_unicode_utf8_acceptRanges), ("letterbox/date.months", laid_letterbox_date_months), ("unicode/utf8.first", laid_unicode_utf8_first)] }
def SearchMatchesSaid : Prop := searchMatchesRow.holds Tryz.pinned (OpenSpec.ofChange searchMatchesSpec)

/-- ITS FALSE NEIGHBOUR: 'it returns false'. Refute it at one input. -/
def searchMatchesWrong : ChangeSpec := { name := "searchMatches", fn := fun _ => fun
  | [d1, d2, d3, d4] => { results := [.lit (.bool false)], args := [d1, d2, d3, d4] }
  | _ => none }
def SearchMatchesWrongFalsely : Prop := searchMatchesRow.holds Tryz.pinned (OpenSpec.ofChange searchMatchesWrong)

/-- 'letterboxlaw23.SearchLogic': WHATEVER THE INPUT: true; the input reads as it did. -/
def searchLogicSpec : ChangeSpec := { name := "searchLogic", fn := fun _ => fun
  | [d1, d2, d3, d4, d5] => { results := [.lit (.bool true)], args := [d1, d2, d3, d4, d5] }
  | _ => none }
def searchLogicRow : OpenClaim := { program := "ytnnclgadfbaldaagreatdoor", sum := "052f16fb79e567bcfbf10c2f0c36071c66bf0f3a2c4b84c10c372ab0a2cba642", func := "letterbox/letterboxlaw23.SearchLogic", spec := "searchLogic", inPlace := ["internal/bytealg.IndexByteString", "internal/bytealg.CountString", "internal/bytealg.IndexString", "internal/abi.NoEscape"], unfollowed := true, recurses := true, named := ["unicode/utf8.first", "unicode/utf8.acceptRanges", "internal/bytealg.MaxLen", "letterbox/date.months"], loops := true, apart := false, laid := [("unicode/utf8.acceptRanges", laid_unicode_utf8_acceptRanges), ("letterbox/date.months", laid_letterbox_date_months), ("unicode/utf8.first", laid_unicode_utf8_first)] }
def SearchLogicSaid : Prop := searchLogicRow.holds Tryz.pinned (OpenSpec.ofChange searchLogicSpec)

/-- ITS FALSE NEIGHBOUR: 'it returns false'. Refute it at one input. -/
def searchLogicWrong : ChangeSpec := { name := "searchLogic", fn := fun _ => fun
  | [d1, d2, d3, d4, d5] => { results := [.lit (.bool false)], args := [d1, d2, d3, d4, d5] }
  | _ => none }
def SearchLogicWrongFalsely : Prop := searchLogicRow.holds Tryz.pinned (OpenSpec.ofChange searchLogicWrong)

/-- 'letterboxlaw23.SearchFlags': WHATEVER THE INPUT: true; the input reads as it did. -/
def searchFlagsSpec : ChangeSpec := { name := "searchFlags", fn := fun _ => fun
  | [d1, d2] => { results := [.lit (.bool true)], args := [d1, d2] }
  | _ => none }
def searchFlagsRow : OpenClaim := { program := "ytnnclgadfbaldaagreatdoor", sum := "052f16fb79e567bcfbf10c2f0c36071c66bf0f3a2c4b84c10c372ab0a2cba642", func := "letterbox/letterboxlaw23.SearchFlags", spec := "searchFlags", inPlace := ["internal/bytealg.IndexByteString", "internal/bytealg.CountString", "internal/bytealg.IndexString", "internal/abi.NoEscape"], unfollowed := true, recurses := true, named := ["unicode/utf8.first", "unicode/utf8.acceptRanges", "internal/bytealg.MaxLen", "letterbox/date.months"], apart := false, laid := [("unicode/utf8.acceptRanges", laid_unicode_utf8_acceptRanges), ("letterbox/date.months", laid_letterbox_date_months), ("unicode/utf8.first", laid_unicode_utf8_first)] }
def SearchFlagsSaid : Prop := searchFlagsRow.holds Tryz.pinned (OpenSpec.ofChange searchFlagsSpec)

/-- ITS FALSE NEIGHBOUR: 'it returns false'. Refute it at one input. -/
def searchFlagsWrong : ChangeSpec := { name := "searchFlags", fn := fun _ => fun
  | [d1, d2] => { results := [.lit (.bool false)], args := [d1, d2] }
  | _ => none }
def SearchFlagsWrongFalsely : Prop := searchFlagsRow.holds Tryz.pinned (OpenSpec.ofChange searchFlagsWrong)

/-- 'letterboxlaw23.SearchTexts': WHATEVER THE INPUT: true; the input reads as it did. -/
def searchTextsSpec : ChangeSpec := { name := "searchTexts", fn := fun _ => fun
  | [d1, d2, d3, d4] => { results := [.lit (.bool true)], args := [d1, d2, d3, d4] }
  | _ => none }
def searchTextsRow : OpenClaim := { program := "ytnnclgadfbaldaagreatdoor", sum := "052f16fb79e567bcfbf10c2f0c36071c66bf0f3a2c4b84c10c372ab0a2cba642", func := "letterbox/letterboxlaw23.SearchTexts", spec := "searchTexts", inPlace := ["internal/bytealg.IndexByteString", "internal/bytealg.CountString", "internal/bytealg.IndexString", "internal/abi.NoEscape"], unfollowed := true, recurses := true, named := ["unicode/utf8.first", "unicode/utf8.acceptRanges", "internal/bytealg.MaxLen", "letterbox/date.months"], apart := false, laid := [("unicode/utf8.acceptRanges", laid_unicode_utf8_acceptRanges), ("letterbox/date.months", laid_letterbox_date_months), ("unicode/utf8.first", laid_unicode_utf8_first)] }
def SearchTextsSaid : Prop := searchTextsRow.holds Tryz.pinned (OpenSpec.ofChange searchTextsSpec)

/-- ITS FALSE NEIGHBOUR: 'it returns false'. Refute it at one input. -/
def searchTextsWrong : ChangeSpec := { name := "searchTexts", fn := fun _ => fun
  | [d1, d2, d3, d4] => { results := [.lit (.bool false)], args := [d1, d2, d3, d4] }
  | _ => none }
def SearchTextsWrongFalsely : Prop := searchTextsRow.holds Tryz.pinned (OpenSpec.ofChange searchTextsWrong)

/- THE SECOND FORM. 'bulk': how many values and letters a reading holds, each counted each time it is reached (what is shared counts as often as it is met; a slice's spare places count too). A statement '..UptoSaid' is the law's where the arguments, and the package variables that the reading takes, are together of bulk at most 1048576: NARROWER than '..Said'. Prove '..Said' where nothing that the law and all that it calls make is longer than what came in: it says more and counts as full. Else prove '..UptoSaid'. A law counts once. -/
mutual
def uptoBulk {H : Type} : DataW H → Nat
  | .lit (.string bytes) => bytes.length + 1
  | .lit _ => 1
  | .nil => 1
  | .ptr d => uptoBulk d + 1
  | .slice elems spare => uptoBulkAll elems + uptoBulkAll spare + 1
  | .agg parts => uptoBulkAll parts + 1
  | .iface _ d => uptoBulk d + 1
  | .map entries => uptoBulkEntries entries + 1
  | .held _ => 1
def uptoBulkAll {H : Type} : List (DataW H) → Nat
  | [] => 0
  | d :: r => uptoBulk d + uptoBulkAll r
def uptoBulkEntries {H : Type} : List (Lit × DataW H) → Nat
  | [] => 0
  | x :: r => uptoBulkEntry x + uptoBulkEntries r
def uptoBulkEntry {H : Type} : Lit × DataW H → Nat
  | (.string bytes, d) => bytes.length + uptoBulk d + 1
  | (_, d) => uptoBulk d + 1
 end
def uptoSmall : (H : Type) → List (DataW H) → Bool := fun _ ds => decide (uptoBulkAll ds ≤ 1048576)
def OpenSpec.upto (s : _root_.Go.ChangeSpec) : _root_.Go.OpenSpec := { _root_.Go.OpenSpec.ofChange s with cond := some uptoSmall }

/-- 'letterboxlaw23.SearchParses', WHERE WHAT IT READS IS OF BULK AT MOST 1048576: true; the input reads as it did. -/
def searchParsesUptoRow : OpenClaim := { program := "ytnnclgadfbaldaagreatdoor", sum := "052f16fb79e567bcfbf10c2f0c36071c66bf0f3a2c4b84c10c372ab0a2cba642", func := "letterbox/letterboxlaw23.SearchParses", spec := "searchParses", inPlace := ["internal/bytealg.IndexByteString", "internal/bytealg.CountString", "internal/bytealg.IndexString", "internal/abi.NoEscape"], unfollowed := true, recurses := true, named := ["unicode/utf8.first", "unicode/utf8.acceptRanges", "internal/bytealg.MaxLen", "letterbox/date.months"], apart := false, laid := [("unicode/utf8.acceptRanges", laid_unicode_utf8_acceptRanges), ("letterbox/date.months", laid_letterbox_date_months), ("unicode/utf8.first", laid_unicode_utf8_first)], narrowed := true }
def SearchParsesUptoSaid : Prop := searchParsesUptoRow.holds Tryz.pinned (OpenSpec.upto searchParsesSpec)

/-- 'letterboxlaw23.SearchMatches', WHERE WHAT IT READS IS OF BULK AT MOST 1048576: true; the input reads as it did. -/
def searchMatchesUptoRow : OpenClaim := { program := "ytnnclgadfbaldaagreatdoor", sum := "052f16fb79e567bcfbf10c2f0c36071c66bf0f3a2c4b84c10c372ab0a2cba642", func := "letterbox/letterboxlaw23.SearchMatches", spec := "searchMatches", inPlace := ["internal/bytealg.IndexByteString", "internal/bytealg.CountString", "internal/bytealg.IndexString", "internal/abi.NoEscape"], unfollowed := true, recurses := true, named := ["unicode/utf8.first", "unicode/utf8.acceptRanges", "internal/bytealg.MaxLen", "letterbox/date.months"], loops := true, apart := false, laid := [("unicode/utf8.acceptRanges", laid_unicode_utf8_acceptRanges), ("letterbox/date.months", laid_letterbox_date_months), ("unicode/utf8.first", laid_unicode_utf8_first)], narrowed := true }
def SearchMatchesUptoSaid : Prop := searchMatchesUptoRow.holds Tryz.pinned (OpenSpec.upto searchMatchesSpec)

/-- 'letterboxlaw23.SearchLogic', WHERE WHAT IT READS IS OF BULK AT MOST 1048576: true; the input reads as it did. -/
def searchLogicUptoRow : OpenClaim := { program := "ytnnclgadfbaldaagreatdoor", sum := "052f16fb79e567bcfbf10c2f0c36071c66bf0f3a2c4b84c10c372ab0a2cba642", func := "letterbox/letterboxlaw23.SearchLogic", spec := "searchLogic", inPlace := ["internal/bytealg.IndexByteString", "internal/bytealg.CountString", "internal/bytealg.IndexString", "internal/abi.NoEscape"], unfollowed := true, recurses := true, named := ["unicode/utf8.first", "unicode/utf8.acceptRanges", "internal/bytealg.MaxLen", "letterbox/date.months"], loops := true, apart := false, laid := [("unicode/utf8.acceptRanges", laid_unicode_utf8_acceptRanges), ("letterbox/date.months", laid_letterbox_date_months), ("unicode/utf8.first", laid_unicode_utf8_first)], narrowed := true }
def SearchLogicUptoSaid : Prop := searchLogicUptoRow.holds Tryz.pinned (OpenSpec.upto searchLogicSpec)

/-- 'letterboxlaw23.SearchFlags', WHERE WHAT IT READS IS OF BULK AT MOST 1048576: true; the input reads as it did. -/
def searchFlagsUptoRow : OpenClaim := { program := "ytnnclgadfbaldaagreatdoor", sum := "052f16fb79e567bcfbf10c2f0c36071c66bf0f3a2c4b84c10c372ab0a2cba642", func := "letterbox/letterboxlaw23.SearchFlags", spec := "searchFlags", inPlace := ["internal/bytealg.IndexByteString", "internal/bytealg.CountString", "internal/bytealg.IndexString", "internal/abi.NoEscape"], unfollowed := true, recurses := true, named := ["unicode/utf8.first", "unicode/utf8.acceptRanges", "internal/bytealg.MaxLen", "letterbox/date.months"], apart := false, laid := [("unicode/utf8.acceptRanges", laid_unicode_utf8_acceptRanges), ("letterbox/date.months", laid_letterbox_date_months), ("unicode/utf8.first", laid_unicode_utf8_first)], narrowed := true }
def SearchFlagsUptoSaid : Prop := searchFlagsUptoRow.holds Tryz.pinned (OpenSpec.upto searchFlagsSpec)

/-- 'letterboxlaw23.SearchTexts', WHERE WHAT IT READS IS OF BULK AT MOST 1048576: true; the input reads as it did. -/
def searchTextsUptoRow : OpenClaim := { program := "ytnnclgadfbaldaagreatdoor", sum := "052f16fb79e567bcfbf10c2f0c36071c66bf0f3a2c4b84c10c372ab0a2cba642", func := "letterbox/letterboxlaw23.SearchTexts", spec := "searchTexts", inPlace := ["internal/bytealg.IndexByteString", "internal/bytealg.CountString", "internal/bytealg.IndexString", "internal/abi.NoEscape"], unfollowed := true, recurses := true, named := ["unicode/utf8.first", "unicode/utf8.acceptRanges", "internal/bytealg.MaxLen", "letterbox/date.months"], apart := false, laid := [("unicode/utf8.acceptRanges", laid_unicode_utf8_acceptRanges), ("letterbox/date.months", laid_letterbox_date_months), ("unicode/utf8.first", laid_unicode_utf8_first)], narrowed := true }
def SearchTextsUptoSaid : Prop := searchTextsUptoRow.holds Tryz.pinned (OpenSpec.upto searchTextsSpec)

end Rows
end Go.Proofs.YtnnclgadfbaldaaGreatDoor
