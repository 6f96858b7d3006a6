/-
  NARROWER THAN 'FOR EVERY INPUT', by the rows' own cells (each row's printed sentence says how): SnapNumbers: laid · SegmentAbove: laid · EraseLater: laid · SegmentSame: laid · ErasePlays: laid · SegmentBuilds: laid · SegmentMakes: laid · EraseLives: laid · EraseLess: laid · EraseJoins: laid · EraseUpto: laid.
  DERIVED. THE GIVEN ROWS OF THIS SEAT. 11 by the template 'for every input the law returns true; each argument reads behind the call as it read before'; 0 by the template 'total and deterministic' (their statements: YtohfoenhmkfjkaaGreatDoorTotals.lean).
  GIVEN WITH THE SEED: the statements are not yours to turn. If you find one false, say at which input.
  Laid BY PROGRAM, IN A SANDBOX (cutbox-rows.mjs): the forced cells as the released guide's own fill.sh prints them over the translation 961035b027da589e… (all of the seat's roots in one cut). By AI agents, Wed Nov 11 2026. No macro, syntax, notation, axiom, sorry.
-/
import Derived.Test.YtohfoenhmkfjkaaGreatDoorChecked
import GoSem.PinnedTables
import GoSem.Claim
import GoSem.ClaimJoined
import GoSem.ClaimMapViews
import Derived.JoinedTies
import Derived.KernelRfl
namespace Go.Proofs.YtohfoenhmkfjkaaGreatDoor
/- THE CELL 'sum', in the pinned program and in every row, IS THE sha256 OF THE DUMP (.gsa) THAT YtohfoenhmkfjkaaGreatDoorProg.lean LOADS. Nothing in Lean hashes anything: it is a label: what it is worth is what the hold of that sum in a sandbox is worth. -/
noncomputable def Tryz.pinned : Pinned := { name := "ytohfoenhmkfjkaagreatdoor", sum := "961035b027da589e4c5017a59bb25b51623d396a1f1f81f60b4489c99cf3cc50", checked := Tryz.checked }
namespace Rows
def none {H : Type} : Left H := { results := [], args := [] }

/- WHAT THE LISTED PACKAGE-LEVEL VARIABLES READ AS WHEN THE CALL BEGINS. Each datum BY PROGRAM (the guide's laid-datum.mjs) off the statement by which the dump's own 'gosem.cut.vars' lays the variable. In a bare row this is a premise. The card (YtohfoenhmkfjkaaGreatDoorCards.lean) ties it to the program's text. -/
def laid_unicode_utf8_acceptRanges {H : Type} : DataW H := .agg [.agg [.lit (.int .u8 128), .lit (.int .u8 191)], .agg [.lit (.int .u8 160), .lit (.int .u8 191)], .agg [.lit (.int .u8 128), .lit (.int .u8 159)], .agg [.lit (.int .u8 144), .lit (.int .u8 191)], .agg [.lit (.int .u8 128), .lit (.int .u8 143)], .agg [.lit (.int .u8 0), .lit (.int .u8 0)], .agg [.lit (.int .u8 0), .lit (.int .u8 0)], .agg [.lit (.int .u8 0), .lit (.int .u8 0)], .agg [.lit (.int .u8 0), .lit (.int .u8 0)], .agg [.lit (.int .u8 0), .lit (.int .u8 0)], .agg [.lit (.int .u8 0), .lit (.int .u8 0)], .agg [.lit (.int .u8 0), .lit (.int .u8 0)], .agg [.lit (.int .u8 0), .lit (.int .u8 0)], .agg [.lit (.int .u8 0), .lit (.int .u8 0)], .agg [.lit (.int .u8 0), .lit (.int .u8 0)], .agg [.lit (.int .u8 0), .lit (.int .u8 0)]]
/-- One of Go's own tables, pinned by name: the form's constant. -/
def laid_unicode_utf8_first : DataW Unit := Go.Pinned.utf8First
def laid_math_bits_deBruijn64tab {H : Type} : DataW H := .agg [.lit (.int .u8 0), .lit (.int .u8 1), .lit (.int .u8 56), .lit (.int .u8 2), .lit (.int .u8 57), .lit (.int .u8 49), .lit (.int .u8 28), .lit (.int .u8 3), .lit (.int .u8 61), .lit (.int .u8 58), .lit (.int .u8 42), .lit (.int .u8 50), .lit (.int .u8 38), .lit (.int .u8 29), .lit (.int .u8 17), .lit (.int .u8 4), .lit (.int .u8 62), .lit (.int .u8 47), .lit (.int .u8 59), .lit (.int .u8 36), .lit (.int .u8 45), .lit (.int .u8 43), .lit (.int .u8 51), .lit (.int .u8 22), .lit (.int .u8 53), .lit (.int .u8 39), .lit (.int .u8 33), .lit (.int .u8 30), .lit (.int .u8 24), .lit (.int .u8 18), .lit (.int .u8 12), .lit (.int .u8 5), .lit (.int .u8 63), .lit (.int .u8 55), .lit (.int .u8 48), .lit (.int .u8 27), .lit (.int .u8 60), .lit (.int .u8 41), .lit (.int .u8 37), .lit (.int .u8 16), .lit (.int .u8 46), .lit (.int .u8 35), .lit (.int .u8 44), .lit (.int .u8 21), .lit (.int .u8 52), .lit (.int .u8 32), .lit (.int .u8 23), .lit (.int .u8 11), .lit (.int .u8 54), .lit (.int .u8 26), .lit (.int .u8 40), .lit (.int .u8 15), .lit (.int .u8 34), .lit (.int .u8 20), .lit (.int .u8 31), .lit (.int .u8 10), .lit (.int .u8 25), .lit (.int .u8 14), .lit (.int .u8 19), .lit (.int .u8 9), .lit (.int .u8 13), .lit (.int .u8 8), .lit (.int .u8 7), .lit (.int .u8 6)]

/-- 'concordancelaw16.SnapNumbers': WHATEVER THE INPUT: true; the input reads as it did. -/
def snapNumbersSpec : ChangeSpec := { name := "snapNumbers", fn := fun _ => fun
  | [d] => { results := [.lit (.bool true)], args := [d] }
  | _ => none }
def snapNumbersRow : OpenClaim := { program := "ytohfoenhmkfjkaagreatdoor", sum := "961035b027da589e4c5017a59bb25b51623d396a1f1f81f60b4489c99cf3cc50", func := "concordance/concordancelaw16.SnapNumbers", spec := "snapNumbers", inPlace := ["internal/abi.NoEscape", "internal/bytealg.IndexByteString", "internal/bytealg.IndexString", "internal/bytealg.abigen_runtime_cmpstring"], unfollowed := true, recurses := true, named := ["unicode/utf8.first", "unicode/utf8.acceptRanges", "internal/bytealg.MaxLen"], plainKeys := false, apart := false, laid := [("unicode/utf8.acceptRanges", laid_unicode_utf8_acceptRanges), ("unicode/utf8.first", laid_unicode_utf8_first)] }
def SnapNumbersSaid : Prop := snapNumbersRow.holds Tryz.pinned (OpenSpec.ofChange snapNumbersSpec)

/-- ITS FALSE NEIGHBOUR: 'it returns false'. Refute it at one input. -/
def snapNumbersWrong : ChangeSpec := { name := "snapNumbers", fn := fun _ => fun
  | [d] => { results := [.lit (.bool false)], args := [d] }
  | _ => none }
def SnapNumbersWrongFalsely : Prop := snapNumbersRow.holds Tryz.pinned (OpenSpec.ofChange snapNumbersWrong)

/-- 'concordancelaw10.SegmentAbove': WHATEVER THE INPUT: true; the input reads as it did. -/
def segmentAboveSpec : ChangeSpec := { name := "segmentAbove", fn := fun _ => fun
  | [d1, d2] => { results := [.lit (.bool true)], args := [d1, d2] }
  | _ => none }
def segmentAboveRow : OpenClaim := { program := "ytohfoenhmkfjkaagreatdoor", sum := "961035b027da589e4c5017a59bb25b51623d396a1f1f81f60b4489c99cf3cc50", func := "concordance/concordancelaw10.SegmentAbove", spec := "segmentAbove", inPlace := ["internal/abi.NoEscape", "internal/bytealg.IndexByteString", "internal/bytealg.IndexString", "internal/bytealg.abigen_runtime_cmpstring"], unfollowed := true, recurses := true, named := ["unicode/utf8.first", "unicode/utf8.acceptRanges", "internal/bytealg.MaxLen"], plainKeys := false, apart := false, laid := [("unicode/utf8.acceptRanges", laid_unicode_utf8_acceptRanges), ("unicode/utf8.first", laid_unicode_utf8_first)] }
def SegmentAboveSaid : Prop := segmentAboveRow.holds Tryz.pinned (OpenSpec.ofChange segmentAboveSpec)

/-- ITS FALSE NEIGHBOUR: 'it returns false'. Refute it at one input. -/
def segmentAboveWrong : ChangeSpec := { name := "segmentAbove", fn := fun _ => fun
  | [d1, d2] => { results := [.lit (.bool false)], args := [d1, d2] }
  | _ => none }
def SegmentAboveWrongFalsely : Prop := segmentAboveRow.holds Tryz.pinned (OpenSpec.ofChange segmentAboveWrong)

/-- 'concordancelaw15.EraseLater': WHATEVER THE INPUT: true; the input reads as it did. -/
def eraseLaterSpec : ChangeSpec := { name := "eraseLater", fn := fun _ => fun
  | [d1, d2] => { results := [.lit (.bool true)], args := [d1, d2] }
  | _ => none }
def eraseLaterRow : OpenClaim := { program := "ytohfoenhmkfjkaagreatdoor", sum := "961035b027da589e4c5017a59bb25b51623d396a1f1f81f60b4489c99cf3cc50", func := "concordance/concordancelaw15.EraseLater", spec := "eraseLater", inPlace := ["internal/abi.NoEscape", "internal/bytealg.IndexByteString", "internal/bytealg.IndexString", "internal/bytealg.abigen_runtime_cmpstring"], unfollowed := true, recurses := true, named := ["unicode/utf8.first", "unicode/utf8.acceptRanges", "internal/bytealg.MaxLen"], plainKeys := false, apart := false, laid := [("unicode/utf8.acceptRanges", laid_unicode_utf8_acceptRanges), ("unicode/utf8.first", laid_unicode_utf8_first)] }
def EraseLaterSaid : Prop := eraseLaterRow.holds Tryz.pinned (OpenSpec.ofChange eraseLaterSpec)

/-- ITS FALSE NEIGHBOUR: 'it returns false'. Refute it at one input. -/
def eraseLaterWrong : ChangeSpec := { name := "eraseLater", fn := fun _ => fun
  | [d1, d2] => { results := [.lit (.bool false)], args := [d1, d2] }
  | _ => none }
def EraseLaterWrongFalsely : Prop := eraseLaterRow.holds Tryz.pinned (OpenSpec.ofChange eraseLaterWrong)

/-- 'concordancelaw10.SegmentSame': WHATEVER THE INPUT: true; the input reads as it did. -/
def segmentSameSpec : ChangeSpec := { name := "segmentSame", fn := fun _ => fun
  | [d1, d2] => { results := [.lit (.bool true)], args := [d1, d2] }
  | _ => none }
def segmentSameRow : OpenClaim := { program := "ytohfoenhmkfjkaagreatdoor", sum := "961035b027da589e4c5017a59bb25b51623d396a1f1f81f60b4489c99cf3cc50", func := "concordance/concordancelaw10.SegmentSame", spec := "segmentSame", inPlace := ["internal/abi.NoEscape", "internal/bytealg.IndexByteString", "internal/bytealg.IndexString", "internal/bytealg.abigen_runtime_cmpstring"], unfollowed := true, recurses := true, named := ["unicode/utf8.first", "unicode/utf8.acceptRanges", "internal/bytealg.MaxLen"], plainKeys := false, apart := false, laid := [("unicode/utf8.acceptRanges", laid_unicode_utf8_acceptRanges), ("unicode/utf8.first", laid_unicode_utf8_first)] }
def SegmentSameSaid : Prop := segmentSameRow.holds Tryz.pinned (OpenSpec.ofChange segmentSameSpec)

/-- ITS FALSE NEIGHBOUR: 'it returns false'. Refute it at one input. -/
def segmentSameWrong : ChangeSpec := { name := "segmentSame", fn := fun _ => fun
  | [d1, d2] => { results := [.lit (.bool false)], args := [d1, d2] }
  | _ => none }
def SegmentSameWrongFalsely : Prop := segmentSameRow.holds Tryz.pinned (OpenSpec.ofChange segmentSameWrong)

/-- 'concordancelaw15.ErasePlays': WHATEVER THE INPUT: true; the input reads as it did. -/
def erasePlaysSpec : ChangeSpec := { name := "erasePlays", fn := fun _ => fun
  | [d] => { results := [.lit (.bool true)], args := [d] }
  | _ => none }
def erasePlaysRow : OpenClaim := { program := "ytohfoenhmkfjkaagreatdoor", sum := "961035b027da589e4c5017a59bb25b51623d396a1f1f81f60b4489c99cf3cc50", func := "concordance/concordancelaw15.ErasePlays", spec := "erasePlays", inPlace := ["internal/abi.NoEscape", "internal/bytealg.IndexByteString", "internal/bytealg.IndexString", "internal/bytealg.abigen_runtime_cmpstring"], unfollowed := true, recurses := true, named := ["unicode/utf8.first", "unicode/utf8.acceptRanges", "internal/bytealg.MaxLen"], plainKeys := false, apart := false, laid := [("unicode/utf8.acceptRanges", laid_unicode_utf8_acceptRanges), ("unicode/utf8.first", laid_unicode_utf8_first)] }
def ErasePlaysSaid : Prop := erasePlaysRow.holds Tryz.pinned (OpenSpec.ofChange erasePlaysSpec)

/-- ITS FALSE NEIGHBOUR: 'it returns false'. Refute it at one input. -/
def erasePlaysWrong : ChangeSpec := { name := "erasePlays", fn := fun _ => fun
  | [d] => { results := [.lit (.bool false)], args := [d] }
  | _ => none }
def ErasePlaysWrongFalsely : Prop := erasePlaysRow.holds Tryz.pinned (OpenSpec.ofChange erasePlaysWrong)

/-- 'concordancelaw10.SegmentBuilds': WHATEVER THE INPUT: true; the input reads as it did. -/
def segmentBuildsSpec : ChangeSpec := { name := "segmentBuilds", fn := fun _ => fun
  | [d1, d2, d3] => { results := [.lit (.bool true)], args := [d1, d2, d3] }
  | _ => none }
def segmentBuildsRow : OpenClaim := { program := "ytohfoenhmkfjkaagreatdoor", sum := "961035b027da589e4c5017a59bb25b51623d396a1f1f81f60b4489c99cf3cc50", func := "concordance/concordancelaw10.SegmentBuilds", spec := "segmentBuilds", inPlace := ["internal/abi.NoEscape", "internal/bytealg.IndexByteString", "internal/bytealg.IndexString", "internal/bytealg.abigen_runtime_cmpstring"], unfollowed := true, recurses := true, named := ["unicode/utf8.first", "unicode/utf8.acceptRanges", "internal/bytealg.MaxLen"], plainKeys := false, apart := false, laid := [("unicode/utf8.acceptRanges", laid_unicode_utf8_acceptRanges), ("unicode/utf8.first", laid_unicode_utf8_first)] }
def SegmentBuildsSaid : Prop := segmentBuildsRow.holds Tryz.pinned (OpenSpec.ofChange segmentBuildsSpec)

/-- ITS FALSE NEIGHBOUR: 'it returns false'. Refute it at one input. -/
def segmentBuildsWrong : ChangeSpec := { name := "segmentBuilds", fn := fun _ => fun
  | [d1, d2, d3] => { results := [.lit (.bool false)], args := [d1, d2, d3] }
  | _ => none }
def SegmentBuildsWrongFalsely : Prop := segmentBuildsRow.holds Tryz.pinned (OpenSpec.ofChange segmentBuildsWrong)

/-- 'concordancelaw10.SegmentMakes': WHATEVER THE INPUT: true; the input reads as it did. -/
def segmentMakesSpec : ChangeSpec := { name := "segmentMakes", fn := fun _ => fun
  | [d1, d2] => { results := [.lit (.bool true)], args := [d1, d2] }
  | _ => none }
def segmentMakesRow : OpenClaim := { program := "ytohfoenhmkfjkaagreatdoor", sum := "961035b027da589e4c5017a59bb25b51623d396a1f1f81f60b4489c99cf3cc50", func := "concordance/concordancelaw10.SegmentMakes", spec := "segmentMakes", inPlace := ["internal/abi.NoEscape", "internal/bytealg.IndexByteString", "internal/bytealg.IndexString", "internal/bytealg.abigen_runtime_cmpstring"], unfollowed := true, recurses := true, named := ["unicode/utf8.first", "unicode/utf8.acceptRanges", "internal/bytealg.MaxLen"], plainKeys := false, apart := false, laid := [("unicode/utf8.acceptRanges", laid_unicode_utf8_acceptRanges), ("unicode/utf8.first", laid_unicode_utf8_first)] }
def SegmentMakesSaid : Prop := segmentMakesRow.holds Tryz.pinned (OpenSpec.ofChange segmentMakesSpec)

/-- ITS FALSE NEIGHBOUR: 'it returns false'. Refute it at one input. -/
def segmentMakesWrong : ChangeSpec := { name := "segmentMakes", fn := fun _ => fun
  | [d1, d2] => { results := [.lit (.bool false)], args := [d1, d2] }
  | _ => none }
def SegmentMakesWrongFalsely : Prop := segmentMakesRow.holds Tryz.pinned (OpenSpec.ofChange segmentMakesWrong)

/-- 'concordancelaw15.EraseLives': WHATEVER THE INPUT: true; the input reads as it did. -/
def eraseLivesSpec : ChangeSpec := { name := "eraseLives", fn := fun _ => fun
  | [d1, d2, d3] => { results := [.lit (.bool true)], args := [d1, d2, d3] }
  | _ => none }
def eraseLivesRow : OpenClaim := { program := "ytohfoenhmkfjkaagreatdoor", sum := "961035b027da589e4c5017a59bb25b51623d396a1f1f81f60b4489c99cf3cc50", func := "concordance/concordancelaw15.EraseLives", spec := "eraseLives", inPlace := ["internal/abi.NoEscape", "internal/bytealg.IndexByteString", "internal/bytealg.IndexString", "internal/bytealg.abigen_runtime_cmpstring"], unfollowed := true, recurses := true, named := ["unicode/utf8.first", "unicode/utf8.acceptRanges", "math/bits.deBruijn64tab", "internal/bytealg.MaxLen"], plainKeys := false, apart := false, laid := [("math/bits.deBruijn64tab", laid_math_bits_deBruijn64tab), ("unicode/utf8.acceptRanges", laid_unicode_utf8_acceptRanges), ("unicode/utf8.first", laid_unicode_utf8_first)] }
def EraseLivesSaid : Prop := eraseLivesRow.holds Tryz.pinned (OpenSpec.ofChange eraseLivesSpec)

/-- ITS FALSE NEIGHBOUR: 'it returns false'. Refute it at one input. -/
def eraseLivesWrong : ChangeSpec := { name := "eraseLives", fn := fun _ => fun
  | [d1, d2, d3] => { results := [.lit (.bool false)], args := [d1, d2, d3] }
  | _ => none }
def EraseLivesWrongFalsely : Prop := eraseLivesRow.holds Tryz.pinned (OpenSpec.ofChange eraseLivesWrong)

/-- 'concordancelaw15.EraseLess': WHATEVER THE INPUT: true; the input reads as it did. -/
def eraseLessSpec : ChangeSpec := { name := "eraseLess", fn := fun _ => fun
  | [d1, d2, d3, d4] => { results := [.lit (.bool true)], args := [d1, d2, d3, d4] }
  | _ => none }
def eraseLessRow : OpenClaim := { program := "ytohfoenhmkfjkaagreatdoor", sum := "961035b027da589e4c5017a59bb25b51623d396a1f1f81f60b4489c99cf3cc50", func := "concordance/concordancelaw15.EraseLess", spec := "eraseLess", inPlace := ["internal/abi.NoEscape", "internal/bytealg.IndexByteString", "internal/bytealg.IndexString", "internal/bytealg.abigen_runtime_cmpstring"], unfollowed := true, recurses := true, named := ["unicode/utf8.first", "unicode/utf8.acceptRanges", "math/bits.deBruijn64tab", "internal/bytealg.MaxLen"], plainKeys := false, apart := false, laid := [("math/bits.deBruijn64tab", laid_math_bits_deBruijn64tab), ("unicode/utf8.acceptRanges", laid_unicode_utf8_acceptRanges), ("unicode/utf8.first", laid_unicode_utf8_first)] }
def EraseLessSaid : Prop := eraseLessRow.holds Tryz.pinned (OpenSpec.ofChange eraseLessSpec)

/-- ITS FALSE NEIGHBOUR: 'it returns false'. Refute it at one input. -/
def eraseLessWrong : ChangeSpec := { name := "eraseLess", fn := fun _ => fun
  | [d1, d2, d3, d4] => { results := [.lit (.bool false)], args := [d1, d2, d3, d4] }
  | _ => none }
def EraseLessWrongFalsely : Prop := eraseLessRow.holds Tryz.pinned (OpenSpec.ofChange eraseLessWrong)

/-- 'concordancelaw15.EraseJoins': WHATEVER THE INPUT: true; the input reads as it did. -/
def eraseJoinsSpec : ChangeSpec := { name := "eraseJoins", fn := fun _ => fun
  | [d1, d2, d3, d4] => { results := [.lit (.bool true)], args := [d1, d2, d3, d4] }
  | _ => none }
def eraseJoinsRow : OpenClaim := { program := "ytohfoenhmkfjkaagreatdoor", sum := "961035b027da589e4c5017a59bb25b51623d396a1f1f81f60b4489c99cf3cc50", func := "concordance/concordancelaw15.EraseJoins", spec := "eraseJoins", inPlace := ["internal/abi.NoEscape", "internal/bytealg.IndexByteString", "internal/bytealg.IndexString", "internal/bytealg.abigen_runtime_cmpstring"], unfollowed := true, recurses := true, named := ["unicode/utf8.first", "unicode/utf8.acceptRanges", "math/bits.deBruijn64tab", "internal/bytealg.MaxLen"], plainKeys := false, apart := false, laid := [("math/bits.deBruijn64tab", laid_math_bits_deBruijn64tab), ("unicode/utf8.acceptRanges", laid_unicode_utf8_acceptRanges), ("unicode/utf8.first", laid_unicode_utf8_first)] }
def EraseJoinsSaid : Prop := eraseJoinsRow.holds Tryz.pinned (OpenSpec.ofChange eraseJoinsSpec)

/-- ITS FALSE NEIGHBOUR: 'it returns false'. Refute it at one input. -/
def eraseJoinsWrong : ChangeSpec := { name := "eraseJoins", fn := fun _ => fun
  | [d1, d2, d3, d4] => { results := [.lit (.bool false)], args := [d1, d2, d3, d4] }
  | _ => none }
def EraseJoinsWrongFalsely : Prop := eraseJoinsRow.holds Tryz.pinned (OpenSpec.ofChange eraseJoinsWrong)

/-- 'concordancelaw15.EraseUpto': WHATEVER THE INPUT: true; the input reads as it did. -/
def eraseUptoSpec : ChangeSpec := { name := "eraseUpto", fn := fun _ => fun
  | [d1, d2, d3] => { results := [.lit (.bool true)], args := [d1, d2, d3] }
  | _ => none }
def eraseUptoRow : OpenClaim := { program := "ytohfoenhmkfjkaagreatdoor", sum := "961035b027da589e4c5017a59bb25b51623d396a1f1f81f60b4489c99cf3cc50", func := "concordance/concordancelaw15.EraseUpto", spec := "eraseUpto", inPlace := ["internal/abi.NoEscape", "internal/bytealg.IndexByteString", "internal/bytealg.IndexString", "internal/bytealg.abigen_runtime_cmpstring"], unfollowed := true, recurses := true, named := ["unicode/utf8.first", "unicode/utf8.acceptRanges", "math/bits.deBruijn64tab", "internal/bytealg.MaxLen"], plainKeys := false, apart := false, laid := [("math/bits.deBruijn64tab", laid_math_bits_deBruijn64tab), ("unicode/utf8.acceptRanges", laid_unicode_utf8_acceptRanges), ("unicode/utf8.first", laid_unicode_utf8_first)] }
def EraseUptoSaid : Prop := eraseUptoRow.holds Tryz.pinned (OpenSpec.ofChange eraseUptoSpec)

/-- ITS FALSE NEIGHBOUR: 'it returns false'. Refute it at one input. -/
def eraseUptoWrong : ChangeSpec := { name := "eraseUpto", fn := fun _ => fun
  | [d1, d2, d3] => { results := [.lit (.bool false)], args := [d1, d2, d3] }
  | _ => none }
def EraseUptoWrongFalsely : Prop := eraseUptoRow.holds Tryz.pinned (OpenSpec.ofChange eraseUptoWrong)

/- THE SECOND FORM. 'bulk': how many values and letters a reading holds, each counted each time it is reached (what is shared counts as often as it is met; a slice's spare places count too). A statement '..UptoSaid' is the law's where the arguments, and the package variables that the reading takes, are together of bulk at most 1048576: NARROWER than '..Said'. Prove '..Said' where nothing that the law and all that it calls make is longer than what came in: it says more and counts as full. Else prove '..UptoSaid'. A law counts once. -/
mutual
def uptoBulk {H : Type} : DataW H → Nat
  | .lit (.string bytes) => bytes.length + 1
  | .lit _ => 1
  | .nil => 1
  | .ptr d => uptoBulk d + 1
  | .slice elems spare => uptoBulkAll elems + uptoBulkAll spare + 1
  | .agg parts => uptoBulkAll parts + 1
  | .iface _ d => uptoBulk d + 1
  | .map entries => uptoBulkEntries entries + 1
  | .held _ => 1
def uptoBulkAll {H : Type} : List (DataW H) → Nat
  | [] => 0
  | d :: r => uptoBulk d + uptoBulkAll r
def uptoBulkEntries {H : Type} : List (Lit × DataW H) → Nat
  | [] => 0
  | x :: r => uptoBulkEntry x + uptoBulkEntries r
def uptoBulkEntry {H : Type} : Lit × DataW H → Nat
  | (.string bytes, d) => bytes.length + uptoBulk d + 1
  | (_, d) => uptoBulk d + 1
 end
def uptoSmall : (H : Type) → List (DataW H) → Bool := fun _ ds => decide (uptoBulkAll ds ≤ 1048576)
def OpenSpec.upto (s : _root_.Go.ChangeSpec) : _root_.Go.OpenSpec := { _root_.Go.OpenSpec.ofChange s with cond := some uptoSmall }

/-- 'concordancelaw16.SnapNumbers', WHERE WHAT IT READS IS OF BULK AT MOST 1048576: true; the input reads as it did. -/
def snapNumbersUptoRow : OpenClaim := { program := "ytohfoenhmkfjkaagreatdoor", sum := "961035b027da589e4c5017a59bb25b51623d396a1f1f81f60b4489c99cf3cc50", func := "concordance/concordancelaw16.SnapNumbers", spec := "snapNumbers", inPlace := ["internal/abi.NoEscape", "internal/bytealg.IndexByteString", "internal/bytealg.IndexString", "internal/bytealg.abigen_runtime_cmpstring"], unfollowed := true, recurses := true, named := ["unicode/utf8.first", "unicode/utf8.acceptRanges", "internal/bytealg.MaxLen"], plainKeys := false, apart := false, laid := [("unicode/utf8.acceptRanges", laid_unicode_utf8_acceptRanges), ("unicode/utf8.first", laid_unicode_utf8_first)], narrowed := true }
def SnapNumbersUptoSaid : Prop := snapNumbersUptoRow.holds Tryz.pinned (OpenSpec.upto snapNumbersSpec)

/-- 'concordancelaw10.SegmentAbove', WHERE WHAT IT READS IS OF BULK AT MOST 1048576: true; the input reads as it did. -/
def segmentAboveUptoRow : OpenClaim := { program := "ytohfoenhmkfjkaagreatdoor", sum := "961035b027da589e4c5017a59bb25b51623d396a1f1f81f60b4489c99cf3cc50", func := "concordance/concordancelaw10.SegmentAbove", spec := "segmentAbove", inPlace := ["internal/abi.NoEscape", "internal/bytealg.IndexByteString", "internal/bytealg.IndexString", "internal/bytealg.abigen_runtime_cmpstring"], unfollowed := true, recurses := true, named := ["unicode/utf8.first", "unicode/utf8.acceptRanges", "internal/bytealg.MaxLen"], plainKeys := false, apart := false, laid := [("unicode/utf8.acceptRanges", laid_unicode_utf8_acceptRanges), ("unicode/utf8.first", laid_unicode_utf8_first)], narrowed := true }
def SegmentAboveUptoSaid : Prop := segmentAboveUptoRow.holds Tryz.pinned (OpenSpec.upto segmentAboveSpec)

/-- 'concordancelaw15.EraseLater', WHERE WHAT IT READS IS OF BULK AT MOST 1048576: true; the input reads as it did. -/
def eraseLaterUptoRow : OpenClaim := { program := "ytohfoenhmkfjkaagreatdoor", sum := "961035b027da589e4c5017a59bb25b51623d396a1f1f81f60b4489c99cf3cc50", func := "concordance/concordancelaw15.EraseLater", spec := "eraseLater", inPlace := ["internal/abi.NoEscape", "internal/bytealg.IndexByteString", "internal/bytealg.IndexString", "internal/bytealg.abigen_runtime_cmpstring"], unfollowed := true, recurses := true, named := ["unicode/utf8.first", "unicode/utf8.acceptRanges", "internal/bytealg.MaxLen"], plainKeys := false, apart := false, laid := [("unicode/utf8.acceptRanges", laid_unicode_utf8_acceptRanges), ("unicode/utf8.first", laid_unicode_utf8_first)], narrowed := true }
def EraseLaterUptoSaid : Prop := eraseLaterUptoRow.holds Tryz.pinned (OpenSpec.upto eraseLaterSpec)

/-- 'concordancelaw10.SegmentSame', WHERE WHAT IT READS IS OF BULK AT MOST 1048576: true; the input reads as it did. -/
def segmentSameUptoRow : OpenClaim := { program := "ytohfoenhmkfjkaagreatdoor", sum := "961035b027da589e4c5017a59bb25b51623d396a1f1f81f60b4489c99cf3cc50", func := "concordance/concordancelaw10.SegmentSame", spec := "segmentSame", inPlace := ["internal/abi.NoEscape", "internal/bytealg.IndexByteString", "internal/bytealg.IndexString", "internal/bytealg.abigen_runtime_cmpstring"], unfollowed := true, recurses := true, named := ["unicode/utf8.first", "unicode/utf8.acceptRanges", "internal/bytealg.MaxLen"], plainKeys := false, apart := false, laid := [("unicode/utf8.acceptRanges", laid_unicode_utf8_acceptRanges), ("unicode/utf8.first", laid_unicode_utf8_first)], narrowed := true }
def SegmentSameUptoSaid : Prop := segmentSameUptoRow.holds Tryz.pinned (OpenSpec.upto segmentSameSpec)

/-- 'concordancelaw15.ErasePlays', WHERE WHAT IT READS IS OF BULK AT MOST 1048576: true; the input reads as it did. -/
def erasePlaysUptoRow : OpenClaim := { program := "ytohfoenhmkfjkaagreatdoor", sum := "961035b027da589e4c5017a59bb25b51623d396a1f1f81f60b4489c99cf3cc50", func := "concordance/concordancelaw15.ErasePlays", spec := "erasePlays", inPlace := ["internal/abi.NoEscape", "internal/bytealg.IndexByteString", "internal/bytealg.IndexString", "internal/bytealg.abigen_runtime_cmpstring"], unfollowed := true, recurses := true, named := ["unicode/utf8.first", "unicode/utf8.acceptRanges", "internal/bytealg.MaxLen"], plainKeys := false, apart := false, laid := [("unicode/utf8.acceptRanges", laid_unicode_utf8_acceptRanges), ("unicode/utf8.first", laid_unicode_utf8_first)], narrowed := true }
def ErasePlaysUptoSaid : Prop := erasePlaysUptoRow.holds Tryz.pinned (OpenSpec.upto erasePlaysSpec)

/-- 'concordancelaw10.SegmentBuilds', WHERE WHAT IT READS IS OF BULK AT MOST 1048576: true; the input reads as it did. -/
def segmentBuildsUptoRow : OpenClaim := { program := "ytohfoenhmkfjkaagreatdoor", sum := "961035b027da589e4c5017a59bb25b51623d396a1f1f81f60b4489c99cf3cc50", func := "concordance/concordancelaw10.SegmentBuilds", spec := "segmentBuilds", inPlace := ["internal/abi.NoEscape", "internal/bytealg.IndexByteString", "internal/bytealg.IndexString", "internal/bytealg.abigen_runtime_cmpstring"], unfollowed := true, recurses := true, named := ["unicode/utf8.first", "unicode/utf8.acceptRanges", "internal/bytealg.MaxLen"], plainKeys := false, apart := false, laid := [("unicode/utf8.acceptRanges", laid_unicode_utf8_acceptRanges), ("unicode/utf8.first", laid_unicode_utf8_first)], narrowed := true }
def SegmentBuildsUptoSaid : Prop := segmentBuildsUptoRow.holds Tryz.pinned (OpenSpec.upto segmentBuildsSpec)

/-- 'concordancelaw10.SegmentMakes', WHERE WHAT IT READS IS OF BULK AT MOST 1048576: true; the input reads as it did. -/
def segmentMakesUptoRow : OpenClaim := { program := "ytohfoenhmkfjkaagreatdoor", sum := "961035b027da589e4c5017a59bb25b51623d396a1f1f81f60b4489c99cf3cc50", func := "concordance/concordancelaw10.SegmentMakes", spec := "segmentMakes", inPlace := ["internal/abi.NoEscape", "internal/bytealg.IndexByteString", "internal/bytealg.IndexString", "internal/bytealg.abigen_runtime_cmpstring"], unfollowed := true, recurses := true, named := ["unicode/utf8.first", "unicode/utf8.acceptRanges", "internal/bytealg.MaxLen"], plainKeys := false, apart := false, laid := [("unicode/utf8.acceptRanges", laid_unicode_utf8_acceptRanges), ("unicode/utf8.first", laid_unicode_utf8_first)], narrowed := true }
def SegmentMakesUptoSaid : Prop := segmentMakesUptoRow.holds Tryz.pinned (OpenSpec.upto segmentMakesSpec)

/-- 'concordancelaw15.EraseLives', WHERE WHAT IT READS IS OF BULK AT MOST 1048576: true; the input reads as it did. -/
def eraseLivesUptoRow : OpenClaim := { program := "ytohfoenhmkfjkaagreatdoor", sum := "961035b027da589e4c5017a59bb25b51623d396a1f1f81f60b4489c99cf3cc50", func := "concordance/concordancelaw15.EraseLives", spec := "eraseLives", inPlace := ["internal/abi.NoEscape", "internal/bytealg.IndexByteString", "internal/bytealg.IndexString", "internal/bytealg.abigen_runtime_cmpstring"], unfollowed := true, recurses := true, named := ["unicode/utf8.first", "unicode/utf8.acceptRanges", "math/bits.deBruijn64tab", "internal/bytealg.MaxLen"], plainKeys := false, apart := false, laid := [("math/bits.deBruijn64tab", laid_math_bits_deBruijn64tab), ("unicode/utf8.acceptRanges", laid_unicode_utf8_acceptRanges), ("unicode/utf8.first", laid_unicode_utf8_first)], narrowed := true }
def EraseLivesUptoSaid : Prop := eraseLivesUptoRow.holds Tryz.pinned (OpenSpec.upto eraseLivesSpec)

/-- 'concordancelaw15.EraseLess', WHERE WHAT IT READS IS OF BULK AT MOST 1048576: true; the input reads as it did. -/
def eraseLessUptoRow : OpenClaim := { program := "ytohfoenhmkfjkaagreatdoor", sum := "961035b027da589e4c5017a59bb25b51623d396a1f1f81f60b4489c99cf3cc50", func := "concordance/concordancelaw15.EraseLess", spec := "eraseLess", inPlace := ["internal/abi.NoEscape", "internal/bytealg.IndexByteString", "internal/bytealg.IndexString", "internal/bytealg.abigen_runtime_cmpstring"], unfollowed := true, recurses := true, named := ["unicode/utf8.first", "unicode/utf8.acceptRanges", "math/bits.deBruijn64tab", "internal/bytealg.MaxLen"], plainKeys := false, apart := false, laid := [("math/bits.deBruijn64tab", laid_math_bits_deBruijn64tab), ("unicode/utf8.acceptRanges", laid_unicode_utf8_acceptRanges), ("unicode/utf8.first", laid_unicode_utf8_first)], narrowed := true }
def EraseLessUptoSaid : Prop := eraseLessUptoRow.holds Tryz.pinned (OpenSpec.upto eraseLessSpec)

/-- 'concordancelaw15.EraseJoins', WHERE WHAT IT READS IS OF BULK AT MOST 1048576: true; the input reads as it did. -/
def eraseJoinsUptoRow : OpenClaim := { program := "ytohfoenhmkfjkaagreatdoor", sum := "961035b027da589e4c5017a59bb25b51623d396a1f1f81f60b4489c99cf3cc50", func := "concordance/concordancelaw15.EraseJoins", spec := "eraseJoins", inPlace := ["internal/abi.NoEscape", "internal/bytealg.IndexByteString", "internal/bytealg.IndexString", "internal/bytealg.abigen_runtime_cmpstring"], unfollowed := true, recurses := true, named := ["unicode/utf8.first", "unicode/utf8.acceptRanges", "math/bits.deBruijn64tab", "internal/bytealg.MaxLen"], plainKeys := false, apart := false, laid := [("math/bits.deBruijn64tab", laid_math_bits_deBruijn64tab), ("unicode/utf8.acceptRanges", laid_unicode_utf8_acceptRanges), ("unicode/utf8.first", laid_unicode_utf8_first)], narrowed := true }
def EraseJoinsUptoSaid : Prop := eraseJoinsUptoRow.holds Tryz.pinned (OpenSpec.upto eraseJoinsSpec)

/-- 'concordancelaw15.EraseUpto', WHERE WHAT IT READS IS OF BULK AT MOST 1048576: true; the input reads as it did. -/
def eraseUptoUptoRow : OpenClaim := { program := "ytohfoenhmkfjkaagreatdoor", sum := "961035b027da589e4c5017a59bb25b51623d396a1f1f81f60b4489c99cf3cc50", func := "concordance/concordancelaw15.EraseUpto", spec := "eraseUpto", inPlace := ["internal/abi.NoEscape", "internal/bytealg.IndexByteString", "internal/bytealg.IndexString", "internal/bytealg.abigen_runtime_cmpstring"], unfollowed := true, recurses := true, named := ["unicode/utf8.first", "unicode/utf8.acceptRanges", "math/bits.deBruijn64tab", "internal/bytealg.MaxLen"], plainKeys := false, apart := false, laid := [("math/bits.deBruijn64tab", laid_math_bits_deBruijn64tab), ("unicode/utf8.acceptRanges", laid_unicode_utf8_acceptRanges), ("unicode/utf8.first", laid_unicode_utf8_first)], narrowed := true }
def EraseUptoUptoSaid : Prop := eraseUptoUptoRow.holds Tryz.pinned (OpenSpec.upto eraseUptoSpec)

end Rows
end Go.Proofs.YtohfoenhmkfjkaaGreatDoor
