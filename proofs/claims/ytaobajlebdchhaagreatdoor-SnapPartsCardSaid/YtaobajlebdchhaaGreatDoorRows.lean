/-
  NARROWER THAN 'FOR EVERY INPUT', by the rows' own cells (each row's printed sentence says how): MatchRefuses: loops, laid · MatchAlike: loops, laid · MatchParts: loops, laid · MatchMatches: loops, laid · SnapParts: laid · SnapSearches: loops, laid · SnapStays: loops, laid.
  DERIVED. THE GIVEN ROWS OF THIS SEAT. 7 by the template 'for every input the law returns true; each argument reads behind the call as it read before'; 0 by the template 'total and deterministic' (their statements: YtaobajlebdchhaaGreatDoorTotals.lean).
  GIVEN WITH THE SEED: the statements are not yours to turn. If you find one false, say at which input.
  Laid BY PROGRAM, IN A SANDBOX (cutbox-rows.mjs): the forced cells as the released guide's own fill.sh prints them over the translation 4b2b3cb58583b2d3… (all of the seat's roots in one cut). By AI agents, Wed Nov 11 2026. No macro, syntax, notation, axiom, sorry.
-/
import Derived.Test.YtaobajlebdchhaaGreatDoorChecked
import GoSem.PinnedTables
import GoSem.Claim
import GoSem.ClaimJoined
import GoSem.ClaimMapViews
import Derived.JoinedTies
import Derived.KernelRfl
namespace Go.Proofs.YtaobajlebdchhaaGreatDoor
/- THE CELL 'sum', in the pinned program and in every row, IS THE sha256 OF THE DUMP (.gsa) THAT YtaobajlebdchhaaGreatDoorProg.lean LOADS. Nothing in Lean hashes anything: it is a label: what it is worth is what the hold of that sum in a sandbox is worth. -/
noncomputable def Tryz.pinned : Pinned := { name := "ytaobajlebdchhaagreatdoor", sum := "4b2b3cb58583b2d30a87220f2ee2d3ff1d0d554eb621fe4e9183b54e1d55e577", checked := Tryz.checked }
namespace Rows
def none {H : Type} : Left H := { results := [], args := [] }

/- WHAT THE LISTED PACKAGE-LEVEL VARIABLES READ AS WHEN THE CALL BEGINS. Each datum BY PROGRAM (the guide's laid-datum.mjs) off the statement by which the dump's own 'gosem.cut.vars' lays the variable. In a bare row this is a premise. The card (YtaobajlebdchhaaGreatDoorCards.lean) ties it to the program's text. -/
def laid_math_bits_deBruijn64tab {H : Type} : DataW H := .agg [.lit (.int .u8 0), .lit (.int .u8 1), .lit (.int .u8 56), .lit (.int .u8 2), .lit (.int .u8 57), .lit (.int .u8 49), .lit (.int .u8 28), .lit (.int .u8 3), .lit (.int .u8 61), .lit (.int .u8 58), .lit (.int .u8 42), .lit (.int .u8 50), .lit (.int .u8 38), .lit (.int .u8 29), .lit (.int .u8 17), .lit (.int .u8 4), .lit (.int .u8 62), .lit (.int .u8 47), .lit (.int .u8 59), .lit (.int .u8 36), .lit (.int .u8 45), .lit (.int .u8 43), .lit (.int .u8 51), .lit (.int .u8 22), .lit (.int .u8 53), .lit (.int .u8 39), .lit (.int .u8 33), .lit (.int .u8 30), .lit (.int .u8 24), .lit (.int .u8 18), .lit (.int .u8 12), .lit (.int .u8 5), .lit (.int .u8 63), .lit (.int .u8 55), .lit (.int .u8 48), .lit (.int .u8 27), .lit (.int .u8 60), .lit (.int .u8 41), .lit (.int .u8 37), .lit (.int .u8 16), .lit (.int .u8 46), .lit (.int .u8 35), .lit (.int .u8 44), .lit (.int .u8 21), .lit (.int .u8 52), .lit (.int .u8 32), .lit (.int .u8 23), .lit (.int .u8 11), .lit (.int .u8 54), .lit (.int .u8 26), .lit (.int .u8 40), .lit (.int .u8 15), .lit (.int .u8 34), .lit (.int .u8 20), .lit (.int .u8 31), .lit (.int .u8 10), .lit (.int .u8 25), .lit (.int .u8 14), .lit (.int .u8 19), .lit (.int .u8 9), .lit (.int .u8 13), .lit (.int .u8 8), .lit (.int .u8 7), .lit (.int .u8 6)]
def laid_unicode_utf8_acceptRanges {H : Type} : DataW H := .agg [.agg [.lit (.int .u8 128), .lit (.int .u8 191)], .agg [.lit (.int .u8 160), .lit (.int .u8 191)], .agg [.lit (.int .u8 128), .lit (.int .u8 159)], .agg [.lit (.int .u8 144), .lit (.int .u8 191)], .agg [.lit (.int .u8 128), .lit (.int .u8 143)], .agg [.lit (.int .u8 0), .lit (.int .u8 0)], .agg [.lit (.int .u8 0), .lit (.int .u8 0)], .agg [.lit (.int .u8 0), .lit (.int .u8 0)], .agg [.lit (.int .u8 0), .lit (.int .u8 0)], .agg [.lit (.int .u8 0), .lit (.int .u8 0)], .agg [.lit (.int .u8 0), .lit (.int .u8 0)], .agg [.lit (.int .u8 0), .lit (.int .u8 0)], .agg [.lit (.int .u8 0), .lit (.int .u8 0)], .agg [.lit (.int .u8 0), .lit (.int .u8 0)], .agg [.lit (.int .u8 0), .lit (.int .u8 0)], .agg [.lit (.int .u8 0), .lit (.int .u8 0)]]
/-- One of Go's own tables, pinned by name: the form's constant. -/
def laid_unicode_utf8_first : DataW Unit := Go.Pinned.utf8First

/-- 'concordancelaw13.MatchRefuses': WHATEVER THE INPUT: true; the input reads as it did. -/
def matchRefusesSpec : ChangeSpec := { name := "matchRefuses", fn := fun _ => fun
  | [d1, d2] => { results := [.lit (.bool true)], args := [d1, d2] }
  | _ => none }
def matchRefusesRow : OpenClaim := { program := "ytaobajlebdchhaagreatdoor", sum := "4b2b3cb58583b2d30a87220f2ee2d3ff1d0d554eb621fe4e9183b54e1d55e577", func := "concordance/concordancelaw13.MatchRefuses", spec := "matchRefuses", inPlace := ["internal/abi.NoEscape", "internal/bytealg.IndexByteString", "internal/bytealg.IndexString", "internal/bytealg.abigen_runtime_cmpstring"], unfollowed := true, recurses := true, named := ["unicode/utf8.first", "unicode/utf8.acceptRanges", "math/bits.deBruijn64tab", "internal/bytealg.MaxLen"], loops := true, plainKeys := false, apart := false, laid := [("math/bits.deBruijn64tab", laid_math_bits_deBruijn64tab), ("unicode/utf8.acceptRanges", laid_unicode_utf8_acceptRanges), ("unicode/utf8.first", laid_unicode_utf8_first)] }
def MatchRefusesSaid : Prop := matchRefusesRow.holds Tryz.pinned (OpenSpec.ofChange matchRefusesSpec)

/-- ITS FALSE NEIGHBOUR: 'it returns false'. Refute it at one input. -/
def matchRefusesWrong : ChangeSpec := { name := "matchRefuses", fn := fun _ => fun
  | [d1, d2] => { results := [.lit (.bool false)], args := [d1, d2] }
  | _ => none }
def MatchRefusesWrongFalsely : Prop := matchRefusesRow.holds Tryz.pinned (OpenSpec.ofChange matchRefusesWrong)

/-- 'concordancelaw13.MatchAlike': WHATEVER THE INPUT: true; the input reads as it did. -/
def matchAlikeSpec : ChangeSpec := { name := "matchAlike", fn := fun _ => fun
  | [d1, d2] => { results := [.lit (.bool true)], args := [d1, d2] }
  | _ => none }
def matchAlikeRow : OpenClaim := { program := "ytaobajlebdchhaagreatdoor", sum := "4b2b3cb58583b2d30a87220f2ee2d3ff1d0d554eb621fe4e9183b54e1d55e577", func := "concordance/concordancelaw13.MatchAlike", spec := "matchAlike", inPlace := ["internal/abi.NoEscape", "internal/bytealg.IndexByteString", "internal/bytealg.IndexString", "internal/bytealg.abigen_runtime_cmpstring"], unfollowed := true, recurses := true, named := ["unicode/utf8.first", "unicode/utf8.acceptRanges", "math/bits.deBruijn64tab", "internal/bytealg.MaxLen"], loops := true, plainKeys := false, apart := false, laid := [("math/bits.deBruijn64tab", laid_math_bits_deBruijn64tab), ("unicode/utf8.acceptRanges", laid_unicode_utf8_acceptRanges), ("unicode/utf8.first", laid_unicode_utf8_first)] }
def MatchAlikeSaid : Prop := matchAlikeRow.holds Tryz.pinned (OpenSpec.ofChange matchAlikeSpec)

/-- ITS FALSE NEIGHBOUR: 'it returns false'. Refute it at one input. -/
def matchAlikeWrong : ChangeSpec := { name := "matchAlike", fn := fun _ => fun
  | [d1, d2] => { results := [.lit (.bool false)], args := [d1, d2] }
  | _ => none }
def MatchAlikeWrongFalsely : Prop := matchAlikeRow.holds Tryz.pinned (OpenSpec.ofChange matchAlikeWrong)

/-- 'concordancelaw13.MatchParts': WHATEVER THE INPUT: true; the input reads as it did. -/
def matchPartsSpec : ChangeSpec := { name := "matchParts", fn := fun _ => fun
  | [d1, d2, d3] => { results := [.lit (.bool true)], args := [d1, d2, d3] }
  | _ => none }
def matchPartsRow : OpenClaim := { program := "ytaobajlebdchhaagreatdoor", sum := "4b2b3cb58583b2d30a87220f2ee2d3ff1d0d554eb621fe4e9183b54e1d55e577", func := "concordance/concordancelaw13.MatchParts", spec := "matchParts", inPlace := ["internal/abi.NoEscape", "internal/bytealg.IndexByteString", "internal/bytealg.IndexString", "internal/bytealg.abigen_runtime_cmpstring"], unfollowed := true, recurses := true, named := ["unicode/utf8.first", "unicode/utf8.acceptRanges", "math/bits.deBruijn64tab", "internal/bytealg.MaxLen"], loops := true, plainKeys := false, apart := false, laid := [("math/bits.deBruijn64tab", laid_math_bits_deBruijn64tab), ("unicode/utf8.acceptRanges", laid_unicode_utf8_acceptRanges), ("unicode/utf8.first", laid_unicode_utf8_first)] }
def MatchPartsSaid : Prop := matchPartsRow.holds Tryz.pinned (OpenSpec.ofChange matchPartsSpec)

/-- ITS FALSE NEIGHBOUR: 'it returns false'. Refute it at one input. -/
def matchPartsWrong : ChangeSpec := { name := "matchParts", fn := fun _ => fun
  | [d1, d2, d3] => { results := [.lit (.bool false)], args := [d1, d2, d3] }
  | _ => none }
def MatchPartsWrongFalsely : Prop := matchPartsRow.holds Tryz.pinned (OpenSpec.ofChange matchPartsWrong)

/-- 'concordancelaw13.MatchMatches': WHATEVER THE INPUT: true; the input reads as it did. -/
def matchMatchesSpec : ChangeSpec := { name := "matchMatches", fn := fun _ => fun
  | [d1, d2, d3] => { results := [.lit (.bool true)], args := [d1, d2, d3] }
  | _ => none }
def matchMatchesRow : OpenClaim := { program := "ytaobajlebdchhaagreatdoor", sum := "4b2b3cb58583b2d30a87220f2ee2d3ff1d0d554eb621fe4e9183b54e1d55e577", func := "concordance/concordancelaw13.MatchMatches", spec := "matchMatches", inPlace := ["internal/abi.NoEscape", "internal/bytealg.IndexByteString", "internal/bytealg.IndexString", "internal/bytealg.abigen_runtime_cmpstring"], unfollowed := true, recurses := true, named := ["unicode/utf8.first", "unicode/utf8.acceptRanges", "math/bits.deBruijn64tab", "internal/bytealg.MaxLen"], loops := true, plainKeys := false, apart := false, laid := [("math/bits.deBruijn64tab", laid_math_bits_deBruijn64tab), ("unicode/utf8.acceptRanges", laid_unicode_utf8_acceptRanges), ("unicode/utf8.first", laid_unicode_utf8_first)] }
def MatchMatchesSaid : Prop := matchMatchesRow.holds Tryz.pinned (OpenSpec.ofChange matchMatchesSpec)

/-- ITS FALSE NEIGHBOUR: 'it returns false'. Refute it at one input. -/
def matchMatchesWrong : ChangeSpec := { name := "matchMatches", fn := fun _ => fun
  | [d1, d2, d3] => { results := [.lit (.bool false)], args := [d1, d2, d3] }
  | _ => none }
def MatchMatchesWrongFalsely : Prop := matchMatchesRow.holds Tryz.pinned (OpenSpec.ofChange matchMatchesWrong)

/-- 'concordancelaw16.SnapParts': WHATEVER THE INPUT: true; the input reads as it did. -/
def snapPartsSpec : ChangeSpec := { name := "snapParts", fn := fun _ => fun
  | [d1, d2, d3] => { results := [.lit (.bool true)], args := [d1, d2, d3] }
  | _ => none }
def snapPartsRow : OpenClaim := { program := "ytaobajlebdchhaagreatdoor", sum := "4b2b3cb58583b2d30a87220f2ee2d3ff1d0d554eb621fe4e9183b54e1d55e577", func := "concordance/concordancelaw16.SnapParts", spec := "snapParts", inPlace := ["internal/abi.NoEscape", "internal/bytealg.IndexByteString", "internal/bytealg.IndexString", "internal/bytealg.abigen_runtime_cmpstring"], unfollowed := true, recurses := true, named := ["unicode/utf8.first", "unicode/utf8.acceptRanges", "math/bits.deBruijn64tab", "internal/bytealg.MaxLen"], plainKeys := false, apart := false, laid := [("math/bits.deBruijn64tab", laid_math_bits_deBruijn64tab), ("unicode/utf8.acceptRanges", laid_unicode_utf8_acceptRanges), ("unicode/utf8.first", laid_unicode_utf8_first)] }
def SnapPartsSaid : Prop := snapPartsRow.holds Tryz.pinned (OpenSpec.ofChange snapPartsSpec)

/-- ITS FALSE NEIGHBOUR: 'it returns false'. Refute it at one input. -/
def snapPartsWrong : ChangeSpec := { name := "snapParts", fn := fun _ => fun
  | [d1, d2, d3] => { results := [.lit (.bool false)], args := [d1, d2, d3] }
  | _ => none }
def SnapPartsWrongFalsely : Prop := snapPartsRow.holds Tryz.pinned (OpenSpec.ofChange snapPartsWrong)

/-- 'concordancelaw16.SnapSearches': WHATEVER THE INPUT: true; the input reads as it did. -/
def snapSearchesSpec : ChangeSpec := { name := "snapSearches", fn := fun _ => fun
  | [d1, d2, d3, d4, d5] => { results := [.lit (.bool true)], args := [d1, d2, d3, d4, d5] }
  | _ => none }
def snapSearchesRow : OpenClaim := { program := "ytaobajlebdchhaagreatdoor", sum := "4b2b3cb58583b2d30a87220f2ee2d3ff1d0d554eb621fe4e9183b54e1d55e577", func := "concordance/concordancelaw16.SnapSearches", spec := "snapSearches", inPlace := ["internal/abi.NoEscape", "internal/bytealg.IndexByteString", "internal/bytealg.IndexString", "internal/bytealg.abigen_runtime_cmpstring"], unfollowed := true, recurses := true, named := ["unicode/utf8.first", "unicode/utf8.acceptRanges", "math/bits.deBruijn64tab", "internal/bytealg.MaxLen"], loops := true, plainKeys := false, apart := false, laid := [("math/bits.deBruijn64tab", laid_math_bits_deBruijn64tab), ("unicode/utf8.acceptRanges", laid_unicode_utf8_acceptRanges), ("unicode/utf8.first", laid_unicode_utf8_first)] }
def SnapSearchesSaid : Prop := snapSearchesRow.holds Tryz.pinned (OpenSpec.ofChange snapSearchesSpec)

/-- ITS FALSE NEIGHBOUR: 'it returns false'. Refute it at one input. -/
def snapSearchesWrong : ChangeSpec := { name := "snapSearches", fn := fun _ => fun
  | [d1, d2, d3, d4, d5] => { results := [.lit (.bool false)], args := [d1, d2, d3, d4, d5] }
  | _ => none }
def SnapSearchesWrongFalsely : Prop := snapSearchesRow.holds Tryz.pinned (OpenSpec.ofChange snapSearchesWrong)

/-- 'concordancelaw16.SnapStays': WHATEVER THE INPUT: true; the input reads as it did. -/
def snapStaysSpec : ChangeSpec := { name := "snapStays", fn := fun _ => fun
  | [d1, d2, d3] => { results := [.lit (.bool true)], args := [d1, d2, d3] }
  | _ => none }
def snapStaysRow : OpenClaim := { program := "ytaobajlebdchhaagreatdoor", sum := "4b2b3cb58583b2d30a87220f2ee2d3ff1d0d554eb621fe4e9183b54e1d55e577", func := "concordance/concordancelaw16.SnapStays", spec := "snapStays", inPlace := ["internal/abi.NoEscape", "internal/bytealg.IndexByteString", "internal/bytealg.IndexString", "internal/bytealg.abigen_runtime_cmpstring"], unfollowed := true, recurses := true, named := ["unicode/utf8.first", "unicode/utf8.acceptRanges", "math/bits.deBruijn64tab", "internal/bytealg.MaxLen"], loops := true, plainKeys := false, apart := false, laid := [("math/bits.deBruijn64tab", laid_math_bits_deBruijn64tab), ("unicode/utf8.acceptRanges", laid_unicode_utf8_acceptRanges), ("unicode/utf8.first", laid_unicode_utf8_first)] }
def SnapStaysSaid : Prop := snapStaysRow.holds Tryz.pinned (OpenSpec.ofChange snapStaysSpec)

/-- ITS FALSE NEIGHBOUR: 'it returns false'. Refute it at one input. -/
def snapStaysWrong : ChangeSpec := { name := "snapStays", fn := fun _ => fun
  | [d1, d2, d3] => { results := [.lit (.bool false)], args := [d1, d2, d3] }
  | _ => none }
def SnapStaysWrongFalsely : Prop := snapStaysRow.holds Tryz.pinned (OpenSpec.ofChange snapStaysWrong)

/- THE SECOND FORM. 'bulk': how many values and letters a reading holds, each counted each time it is reached (what is shared counts as often as it is met; a slice's spare places count too). A statement '..UptoSaid' is the law's where the arguments, and the package variables that the reading takes, are together of bulk at most 1048576: NARROWER than '..Said'. Prove '..Said' where nothing that the law and all that it calls make is longer than what came in: it says more and counts as full. Else prove '..UptoSaid'. A law counts once. -/
mutual
def uptoBulk {H : Type} : DataW H → Nat
  | .lit (.string bytes) => bytes.length + 1
  | .lit _ => 1
  | .nil => 1
  | .ptr d => uptoBulk d + 1
  | .slice elems spare => uptoBulkAll elems + uptoBulkAll spare + 1
  | .agg parts => uptoBulkAll parts + 1
  | .iface _ d => uptoBulk d + 1
  | .map entries => uptoBulkEntries entries + 1
  | .held _ => 1
def uptoBulkAll {H : Type} : List (DataW H) → Nat
  | [] => 0
  | d :: r => uptoBulk d + uptoBulkAll r
def uptoBulkEntries {H : Type} : List (Lit × DataW H) → Nat
  | [] => 0
  | x :: r => uptoBulkEntry x + uptoBulkEntries r
def uptoBulkEntry {H : Type} : Lit × DataW H → Nat
  | (.string bytes, d) => bytes.length + uptoBulk d + 1
  | (_, d) => uptoBulk d + 1
 end
def uptoSmall : (H : Type) → List (DataW H) → Bool := fun _ ds => decide (uptoBulkAll ds ≤ 1048576)
def OpenSpec.upto (s : _root_.Go.ChangeSpec) : _root_.Go.OpenSpec := { _root_.Go.OpenSpec.ofChange s with cond := some uptoSmall }

/-- 'concordancelaw13.MatchRefuses', WHERE WHAT IT READS IS OF BULK AT MOST 1048576: true; the input reads as it did. -/
def matchRefusesUptoRow : OpenClaim := { program := "ytaobajlebdchhaagreatdoor", sum := "4b2b3cb58583b2d30a87220f2ee2d3ff1d0d554eb621fe4e9183b54e1d55e577", func := "concordance/concordancelaw13.MatchRefuses", spec := "matchRefuses", inPlace := ["internal/abi.NoEscape", "internal/bytealg.IndexByteString", "internal/bytealg.IndexString", "internal/bytealg.abigen_runtime_cmpstring"], unfollowed := true, recurses := true, named := ["unicode/utf8.first", "unicode/utf8.acceptRanges", "math/bits.deBruijn64tab", "internal/bytealg.MaxLen"], loops := true, plainKeys := false, apart := false, laid := [("math/bits.deBruijn64tab", laid_math_bits_deBruijn64tab), ("unicode/utf8.acceptRanges", laid_unicode_utf8_acceptRanges), ("unicode/utf8.first", laid_unicode_utf8_first)], narrowed := true }
def MatchRefusesUptoSaid : Prop := matchRefusesUptoRow.holds Tryz.pinned (OpenSpec.upto matchRefusesSpec)

/-- 'concordancelaw13.MatchAlike', WHERE WHAT IT READS IS OF BULK AT MOST 1048576: true; the input reads as it did. -/
def matchAlikeUptoRow : OpenClaim := { program := "ytaobajlebdchhaagreatdoor", sum := "4b2b3cb58583b2d30a87220f2ee2d3ff1d0d554eb621fe4e9183b54e1d55e577", func := "concordance/concordancelaw13.MatchAlike", spec := "matchAlike", inPlace := ["internal/abi.NoEscape", "internal/bytealg.IndexByteString", "internal/bytealg.IndexString", "internal/bytealg.abigen_runtime_cmpstring"], unfollowed := true, recurses := true, named := ["unicode/utf8.first", "unicode/utf8.acceptRanges", "math/bits.deBruijn64tab", "internal/bytealg.MaxLen"], loops := true, plainKeys := false, apart := false, laid := [("math/bits.deBruijn64tab", laid_math_bits_deBruijn64tab), ("unicode/utf8.acceptRanges", laid_unicode_utf8_acceptRanges), ("unicode/utf8.first", laid_unicode_utf8_first)], narrowed := true }
def MatchAlikeUptoSaid : Prop := matchAlikeUptoRow.holds Tryz.pinned (OpenSpec.upto matchAlikeSpec)

/-- 'concordancelaw13.MatchParts', WHERE WHAT IT READS IS OF BULK AT MOST 1048576: true; the input reads as it did. -/
def matchPartsUptoRow : OpenClaim := { program := "ytaobajlebdchhaagreatdoor", sum := "4b2b3cb58583b2d30a87220f2ee2d3ff1d0d554eb621fe4e9183b54e1d55e577", func := "concordance/concordancelaw13.MatchParts", spec := "matchParts", inPlace := ["internal/abi.NoEscape", "internal/bytealg.IndexByteString", "internal/bytealg.IndexString", "internal/bytealg.abigen_runtime_cmpstring"], unfollowed := true, recurses := true, named := ["unicode/utf8.first", "unicode/utf8.acceptRanges", "math/bits.deBruijn64tab", "internal/bytealg.MaxLen"], loops := true, plainKeys := false, apart := false, laid := [("math/bits.deBruijn64tab", laid_math_bits_deBruijn64tab), ("unicode/utf8.acceptRanges", laid_unicode_utf8_acceptRanges), ("unicode/utf8.first", laid_unicode_utf8_first)], narrowed := true }
def MatchPartsUptoSaid : Prop := matchPartsUptoRow.holds Tryz.pinned (OpenSpec.upto matchPartsSpec)

/-- 'concordancelaw13.MatchMatches', WHERE WHAT IT READS IS OF BULK AT MOST 1048576: true; the input reads as it did. -/
def matchMatchesUptoRow : OpenClaim := { program := "ytaobajlebdchhaagreatdoor", sum := "4b2b3cb58583b2d30a87220f2ee2d3ff1d0d554eb621fe4e9183b54e1d55e577", func := "concordance/concordancelaw13.MatchMatches", spec := "matchMatches", inPlace := ["internal/abi.NoEscape", "internal/bytealg.IndexByteString", "internal/bytealg.IndexString", "internal/bytealg.abigen_runtime_cmpstring"], unfollowed := true, recurses := true, named := ["unicode/utf8.first", "unicode/utf8.acceptRanges", "math/bits.deBruijn64tab", "internal/bytealg.MaxLen"], loops := true, plainKeys := false, apart := false, laid := [("math/bits.deBruijn64tab", laid_math_bits_deBruijn64tab), ("unicode/utf8.acceptRanges", laid_unicode_utf8_acceptRanges), ("unicode/utf8.first", laid_unicode_utf8_first)], narrowed := true }
def MatchMatchesUptoSaid : Prop := matchMatchesUptoRow.holds Tryz.pinned (OpenSpec.upto matchMatchesSpec)

/-- 'concordancelaw16.SnapParts', WHERE WHAT IT READS IS OF BULK AT MOST 1048576: true; the input reads as it did. -/
def snapPartsUptoRow : OpenClaim := { program := "ytaobajlebdchhaagreatdoor", sum := "4b2b3cb58583b2d30a87220f2ee2d3ff1d0d554eb621fe4e9183b54e1d55e577", func := "concordance/concordancelaw16.SnapParts", spec := "snapParts", inPlace := ["internal/abi.NoEscape", "internal/bytealg.IndexByteString", "internal/bytealg.IndexString", "internal/bytealg.abigen_runtime_cmpstring"], unfollowed := true, recurses := true, named := ["unicode/utf8.first", "unicode/utf8.acceptRanges", "math/bits.deBruijn64tab", "internal/bytealg.MaxLen"], plainKeys := false, apart := false, laid := [("math/bits.deBruijn64tab", laid_math_bits_deBruijn64tab), ("unicode/utf8.acceptRanges", laid_unicode_utf8_acceptRanges), ("unicode/utf8.first", laid_unicode_utf8_first)], narrowed := true }
def SnapPartsUptoSaid : Prop := snapPartsUptoRow.holds Tryz.pinned (OpenSpec.upto snapPartsSpec)

/-- 'concordancelaw16.SnapSearches', WHERE WHAT IT READS IS OF BULK AT MOST 1048576: true; the input reads as it did. -/
def snapSearchesUptoRow : OpenClaim := { program := "ytaobajlebdchhaagreatdoor", sum := "4b2b3cb58583b2d30a87220f2ee2d3ff1d0d554eb621fe4e9183b54e1d55e577", func := "concordance/concordancelaw16.SnapSearches", spec := "snapSearches", inPlace := ["internal/abi.NoEscape", "internal/bytealg.IndexByteString", "internal/bytealg.IndexString", "internal/bytealg.abigen_runtime_cmpstring"], unfollowed := true, recurses := true, named := ["unicode/utf8.first", "unicode/utf8.acceptRanges", "math/bits.deBruijn64tab", "internal/bytealg.MaxLen"], loops := true, plainKeys := false, apart := false, laid := [("math/bits.deBruijn64tab", laid_math_bits_deBruijn64tab), ("unicode/utf8.acceptRanges", laid_unicode_utf8_acceptRanges), ("unicode/utf8.first", laid_unicode_utf8_first)], narrowed := true }
def SnapSearchesUptoSaid : Prop := snapSearchesUptoRow.holds Tryz.pinned (OpenSpec.upto snapSearchesSpec)

/-- 'concordancelaw16.SnapStays', WHERE WHAT IT READS IS OF BULK AT MOST 1048576: true; the input reads as it did. -/
def snapStaysUptoRow : OpenClaim := { program := "ytaobajlebdchhaagreatdoor", sum := "4b2b3cb58583b2d30a87220f2ee2d3ff1d0d554eb621fe4e9183b54e1d55e577", func := "concordance/concordancelaw16.SnapStays", spec := "snapStays", inPlace := ["internal/abi.NoEscape", "internal/bytealg.IndexByteString", "internal/bytealg.IndexString", "internal/bytealg.abigen_runtime_cmpstring"], unfollowed := true, recurses := true, named := ["unicode/utf8.first", "unicode/utf8.acceptRanges", "math/bits.deBruijn64tab", "internal/bytealg.MaxLen"], loops := true, plainKeys := false, apart := false, laid := [("math/bits.deBruijn64tab", laid_math_bits_deBruijn64tab), ("unicode/utf8.acceptRanges", laid_unicode_utf8_acceptRanges), ("unicode/utf8.first", laid_unicode_utf8_first)], narrowed := true }
def SnapStaysUptoSaid : Prop := snapStaysUptoRow.holds Tryz.pinned (OpenSpec.upto snapStaysSpec)

end Rows
end Go.Proofs.YtaobajlebdchhaaGreatDoor
