/-
  No cell of these rows narrows 'for every input' (looked for: loops, veiled, ifaces, maps, wideKeys, modest, calm, conditions, laid).
  DERIVED. THE GIVEN ROWS OF THIS SEAT. 11 by the template 'for every input the law returns true; each argument reads behind the call as it read before'; 0 by the template 'total and deterministic' (their statements: YtgpmihcdjmjfoaaTotals.lean).
  GIVEN WITH THE SEED: the statements are not yours to turn. If you find one false, say at which input.
  Laid BY PROGRAM, IN A SANDBOX (cutbox-rows.mjs): the forced cells as the released guide's own fill.sh prints them over the translation c0e3eb34f766085c… (all of the seat's roots in one cut). By AI agents, Wed Nov 11 2026. No macro, syntax, notation, axiom, sorry.
-/
import Derived.Test.YtgpmihcdjmjfoaaChecked
import GoSem.Claim
import GoSem.ClaimJoined
import GoSem.ClaimMapViews
import Derived.JoinedTies
import Derived.KernelRfl
namespace Go.Proofs.Ytgpmihcdjmjfoaa
/- THE CELL 'sum', in the pinned program and in every row, IS THE sha256 OF THE DUMP (.gsa) THAT YtgpmihcdjmjfoaaProg.lean LOADS. Nothing in Lean hashes anything: it is a label: what it is worth is what the hold of that sum in a sandbox is worth. -/
noncomputable def Try.pinned : Pinned := { name := "ytgpmihcdjmjfoaa", sum := "c0e3eb34f766085c78802a2cdfb455e0cea7cdb9f4e8a7091e6dc4c886fb6321", checked := Try.checked }
namespace Rows
def none {H : Type} : Left H := { results := [], args := [] }

/-- 'concordancelaw13.MatchSides': WHATEVER THE INPUT: true; the input reads as it did. -/
def matchSidesSpec : ChangeSpec := { name := "matchSides", fn := fun _ => fun
  | [d] => { results := [.lit (.bool true)], args := [d] }
  | _ => none }
def matchSidesRow : OpenClaim := { program := "ytgpmihcdjmjfoaa", sum := "c0e3eb34f766085c78802a2cdfb455e0cea7cdb9f4e8a7091e6dc4c886fb6321", func := "concordance/concordancelaw13.MatchSides", spec := "matchSides", unfollowed := true, recurses := true, apart := false }
def MatchSidesSaid : Prop := matchSidesRow.holds Try.pinned (OpenSpec.ofChange matchSidesSpec)

/-- ITS FALSE NEIGHBOUR: 'it returns false'. Refute it at one input. -/
def matchSidesWrong : ChangeSpec := { name := "matchSides", fn := fun _ => fun
  | [d] => { results := [.lit (.bool false)], args := [d] }
  | _ => none }
def MatchSidesWrongFalsely : Prop := matchSidesRow.holds Try.pinned (OpenSpec.ofChange matchSidesWrong)

/-- 'concordancelaw05.PostingDocs': WHATEVER THE INPUT: true; the input reads as it did. -/
def postingDocsSpec : ChangeSpec := { name := "postingDocs", fn := fun _ => fun
  | [d] => { results := [.lit (.bool true)], args := [d] }
  | _ => none }
def postingDocsRow : OpenClaim := { program := "ytgpmihcdjmjfoaa", sum := "c0e3eb34f766085c78802a2cdfb455e0cea7cdb9f4e8a7091e6dc4c886fb6321", func := "concordance/concordancelaw05.PostingDocs", spec := "postingDocs", unfollowed := true, recurses := true, apart := false }
def PostingDocsSaid : Prop := postingDocsRow.holds Try.pinned (OpenSpec.ofChange postingDocsSpec)

/-- ITS FALSE NEIGHBOUR: 'it returns false'. Refute it at one input. -/
def postingDocsWrong : ChangeSpec := { name := "postingDocs", fn := fun _ => fun
  | [d] => { results := [.lit (.bool false)], args := [d] }
  | _ => none }
def PostingDocsWrongFalsely : Prop := postingDocsRow.holds Try.pinned (OpenSpec.ofChange postingDocsWrong)

/-- 'concordancelaw05.PostingBlocks': WHATEVER THE INPUT: true; the input reads as it did. -/
def postingBlocksSpec : ChangeSpec := { name := "postingBlocks", fn := fun _ => fun
  | [d] => { results := [.lit (.bool true)], args := [d] }
  | _ => none }
def postingBlocksRow : OpenClaim := { program := "ytgpmihcdjmjfoaa", sum := "c0e3eb34f766085c78802a2cdfb455e0cea7cdb9f4e8a7091e6dc4c886fb6321", func := "concordance/concordancelaw05.PostingBlocks", spec := "postingBlocks", unfollowed := true, recurses := true, apart := false }
def PostingBlocksSaid : Prop := postingBlocksRow.holds Try.pinned (OpenSpec.ofChange postingBlocksSpec)

/-- ITS FALSE NEIGHBOUR: 'it returns false'. Refute it at one input. -/
def postingBlocksWrong : ChangeSpec := { name := "postingBlocks", fn := fun _ => fun
  | [d] => { results := [.lit (.bool false)], args := [d] }
  | _ => none }
def PostingBlocksWrongFalsely : Prop := postingBlocksRow.holds Try.pinned (OpenSpec.ofChange postingBlocksWrong)

/-- 'concordancelaw05.PostingMakes': WHATEVER THE INPUT: true; the input reads as it did. -/
def postingMakesSpec : ChangeSpec := { name := "postingMakes", fn := fun _ => fun
  | [d] => { results := [.lit (.bool true)], args := [d] }
  | _ => none }
def postingMakesRow : OpenClaim := { program := "ytgpmihcdjmjfoaa", sum := "c0e3eb34f766085c78802a2cdfb455e0cea7cdb9f4e8a7091e6dc4c886fb6321", func := "concordance/concordancelaw05.PostingMakes", spec := "postingMakes", unfollowed := true, recurses := true, apart := false }
def PostingMakesSaid : Prop := postingMakesRow.holds Try.pinned (OpenSpec.ofChange postingMakesSpec)

/-- ITS FALSE NEIGHBOUR: 'it returns false'. Refute it at one input. -/
def postingMakesWrong : ChangeSpec := { name := "postingMakes", fn := fun _ => fun
  | [d] => { results := [.lit (.bool false)], args := [d] }
  | _ => none }
def PostingMakesWrongFalsely : Prop := postingMakesRow.holds Try.pinned (OpenSpec.ofChange postingMakesWrong)

/-- 'concordancelaw06.CursorBoth': WHATEVER THE INPUT: true; the input reads as it did. -/
def cursorBothSpec : ChangeSpec := { name := "cursorBoth", fn := fun _ => fun
  | [d1, d2] => { results := [.lit (.bool true)], args := [d1, d2] }
  | _ => none }
def cursorBothRow : OpenClaim := { program := "ytgpmihcdjmjfoaa", sum := "c0e3eb34f766085c78802a2cdfb455e0cea7cdb9f4e8a7091e6dc4c886fb6321", func := "concordance/concordancelaw06.CursorBoth", spec := "cursorBoth", unfollowed := true, recurses := true, apart := false }
def CursorBothSaid : Prop := cursorBothRow.holds Try.pinned (OpenSpec.ofChange cursorBothSpec)

/-- ITS FALSE NEIGHBOUR: 'it returns false'. Refute it at one input. -/
def cursorBothWrong : ChangeSpec := { name := "cursorBoth", fn := fun _ => fun
  | [d1, d2] => { results := [.lit (.bool false)], args := [d1, d2] }
  | _ => none }
def CursorBothWrongFalsely : Prop := cursorBothRow.holds Try.pinned (OpenSpec.ofChange cursorBothWrong)

/-- 'concordancelaw06.CursorAlike': WHATEVER THE INPUT: true; the input reads as it did. -/
def cursorAlikeSpec : ChangeSpec := { name := "cursorAlike", fn := fun _ => fun
  | [d1, d2] => { results := [.lit (.bool true)], args := [d1, d2] }
  | _ => none }
def cursorAlikeRow : OpenClaim := { program := "ytgpmihcdjmjfoaa", sum := "c0e3eb34f766085c78802a2cdfb455e0cea7cdb9f4e8a7091e6dc4c886fb6321", func := "concordance/concordancelaw06.CursorAlike", spec := "cursorAlike", unfollowed := true, recurses := true, apart := false }
def CursorAlikeSaid : Prop := cursorAlikeRow.holds Try.pinned (OpenSpec.ofChange cursorAlikeSpec)

/-- ITS FALSE NEIGHBOUR: 'it returns false'. Refute it at one input. -/
def cursorAlikeWrong : ChangeSpec := { name := "cursorAlike", fn := fun _ => fun
  | [d1, d2] => { results := [.lit (.bool false)], args := [d1, d2] }
  | _ => none }
def CursorAlikeWrongFalsely : Prop := cursorAlikeRow.holds Try.pinned (OpenSpec.ofChange cursorAlikeWrong)

/-- 'concordancelaw05.PostingReads': WHATEVER THE INPUT: true; the input reads as it did. -/
def postingReadsSpec : ChangeSpec := { name := "postingReads", fn := fun _ => fun
  | [d1, d2] => { results := [.lit (.bool true)], args := [d1, d2] }
  | _ => none }
def postingReadsRow : OpenClaim := { program := "ytgpmihcdjmjfoaa", sum := "c0e3eb34f766085c78802a2cdfb455e0cea7cdb9f4e8a7091e6dc4c886fb6321", func := "concordance/concordancelaw05.PostingReads", spec := "postingReads", unfollowed := true, recurses := true, apart := false }
def PostingReadsSaid : Prop := postingReadsRow.holds Try.pinned (OpenSpec.ofChange postingReadsSpec)

/-- ITS FALSE NEIGHBOUR: 'it returns false'. Refute it at one input. -/
def postingReadsWrong : ChangeSpec := { name := "postingReads", fn := fun _ => fun
  | [d1, d2] => { results := [.lit (.bool false)], args := [d1, d2] }
  | _ => none }
def PostingReadsWrongFalsely : Prop := postingReadsRow.holds Try.pinned (OpenSpec.ofChange postingReadsWrong)

/-- 'concordancelaw05.PostingRound': WHATEVER THE INPUT: true; the input reads as it did. -/
def postingRoundSpec : ChangeSpec := { name := "postingRound", fn := fun _ => fun
  | [d1, d2] => { results := [.lit (.bool true)], args := [d1, d2] }
  | _ => none }
def postingRoundRow : OpenClaim := { program := "ytgpmihcdjmjfoaa", sum := "c0e3eb34f766085c78802a2cdfb455e0cea7cdb9f4e8a7091e6dc4c886fb6321", func := "concordance/concordancelaw05.PostingRound", spec := "postingRound", unfollowed := true, recurses := true, apart := false }
def PostingRoundSaid : Prop := postingRoundRow.holds Try.pinned (OpenSpec.ofChange postingRoundSpec)

/-- ITS FALSE NEIGHBOUR: 'it returns false'. Refute it at one input. -/
def postingRoundWrong : ChangeSpec := { name := "postingRound", fn := fun _ => fun
  | [d1, d2] => { results := [.lit (.bool false)], args := [d1, d2] }
  | _ => none }
def PostingRoundWrongFalsely : Prop := postingRoundRow.holds Try.pinned (OpenSpec.ofChange postingRoundWrong)

/-- 'concordancelaw06.CursorLeads': WHATEVER THE INPUT: true; the input reads as it did. -/
def cursorLeadsSpec : ChangeSpec := { name := "cursorLeads", fn := fun _ => fun
  | [d1, d2] => { results := [.lit (.bool true)], args := [d1, d2] }
  | _ => none }
def cursorLeadsRow : OpenClaim := { program := "ytgpmihcdjmjfoaa", sum := "c0e3eb34f766085c78802a2cdfb455e0cea7cdb9f4e8a7091e6dc4c886fb6321", func := "concordance/concordancelaw06.CursorLeads", spec := "cursorLeads", unfollowed := true, recurses := true, apart := false }
def CursorLeadsSaid : Prop := cursorLeadsRow.holds Try.pinned (OpenSpec.ofChange cursorLeadsSpec)

/-- ITS FALSE NEIGHBOUR: 'it returns false'. Refute it at one input. -/
def cursorLeadsWrong : ChangeSpec := { name := "cursorLeads", fn := fun _ => fun
  | [d1, d2] => { results := [.lit (.bool false)], args := [d1, d2] }
  | _ => none }
def CursorLeadsWrongFalsely : Prop := cursorLeadsRow.holds Try.pinned (OpenSpec.ofChange cursorLeadsWrong)

/-- 'concordancelaw06.CursorPlays': WHATEVER THE INPUT: true; the input reads as it did. -/
def cursorPlaysSpec : ChangeSpec := { name := "cursorPlays", fn := fun _ => fun
  | [d1, d2] => { results := [.lit (.bool true)], args := [d1, d2] }
  | _ => none }
def cursorPlaysRow : OpenClaim := { program := "ytgpmihcdjmjfoaa", sum := "c0e3eb34f766085c78802a2cdfb455e0cea7cdb9f4e8a7091e6dc4c886fb6321", func := "concordance/concordancelaw06.CursorPlays", spec := "cursorPlays", unfollowed := true, recurses := true, apart := false }
def CursorPlaysSaid : Prop := cursorPlaysRow.holds Try.pinned (OpenSpec.ofChange cursorPlaysSpec)

/-- ITS FALSE NEIGHBOUR: 'it returns false'. Refute it at one input. -/
def cursorPlaysWrong : ChangeSpec := { name := "cursorPlays", fn := fun _ => fun
  | [d1, d2] => { results := [.lit (.bool false)], args := [d1, d2] }
  | _ => none }
def CursorPlaysWrongFalsely : Prop := cursorPlaysRow.holds Try.pinned (OpenSpec.ofChange cursorPlaysWrong)

/-- 'concordancelaw06.CursorAll': WHATEVER THE INPUT: true; the input reads as it did. -/
def cursorAllSpec : ChangeSpec := { name := "cursorAll", fn := fun _ => fun
  | [d1, d2] => { results := [.lit (.bool true)], args := [d1, d2] }
  | _ => none }
def cursorAllRow : OpenClaim := { program := "ytgpmihcdjmjfoaa", sum := "c0e3eb34f766085c78802a2cdfb455e0cea7cdb9f4e8a7091e6dc4c886fb6321", func := "concordance/concordancelaw06.CursorAll", spec := "cursorAll", unfollowed := true, recurses := true, apart := false }
def CursorAllSaid : Prop := cursorAllRow.holds Try.pinned (OpenSpec.ofChange cursorAllSpec)

/-- ITS FALSE NEIGHBOUR: 'it returns false'. Refute it at one input. -/
def cursorAllWrong : ChangeSpec := { name := "cursorAll", fn := fun _ => fun
  | [d1, d2] => { results := [.lit (.bool false)], args := [d1, d2] }
  | _ => none }
def CursorAllWrongFalsely : Prop := cursorAllRow.holds Try.pinned (OpenSpec.ofChange cursorAllWrong)

/- THE SECOND FORM. 'bulk': how many values and letters a reading holds, each counted each time it is reached (what is shared counts as often as it is met; a slice's spare places count too). A statement '..UptoSaid' is the law's where the arguments, and the package variables that the reading takes, are together of bulk at most 1048576: NARROWER than '..Said'. Prove '..Said' where nothing that the law and all that it calls make is longer than what came in: it says more and counts as full. Else prove '..UptoSaid'. A law counts once. -/
mutual
def uptoBulk {H : Type} : DataW H → Nat
  | .lit (.string bytes) => bytes.length + 1
  | .lit _ => 1
  | .nil => 1
  | .ptr d => uptoBulk d + 1
  | .slice elems spare => uptoBulkAll elems + uptoBulkAll spare + 1
  | .agg parts => uptoBulkAll parts + 1
  | .iface _ d => uptoBulk d + 1
  | .map entries => uptoBulkEntries entries + 1
  | .held _ => 1
def uptoBulkAll {H : Type} : List (DataW H) → Nat
  | [] => 0
  | d :: r => uptoBulk d + uptoBulkAll r
def uptoBulkEntries {H : Type} : List (Lit × DataW H) → Nat
  | [] => 0
  | x :: r => uptoBulkEntry x + uptoBulkEntries r
def uptoBulkEntry {H : Type} : Lit × DataW H → Nat
  | (.string bytes, d) => bytes.length + uptoBulk d + 1
  | (_, d) => uptoBulk d + 1
 end
def uptoSmall : (H : Type) → List (DataW H) → Bool := fun _ ds => decide (uptoBulkAll ds ≤ 1048576)
def OpenSpec.upto (s : _root_.Go.ChangeSpec) : _root_.Go.OpenSpec := { _root_.Go.OpenSpec.ofChange s with cond := some uptoSmall }

/-- 'concordancelaw13.MatchSides', WHERE WHAT IT READS IS OF BULK AT MOST 1048576: true; the input reads as it did. -/
def matchSidesUptoRow : OpenClaim := { program := "ytgpmihcdjmjfoaa", sum := "c0e3eb34f766085c78802a2cdfb455e0cea7cdb9f4e8a7091e6dc4c886fb6321", func := "concordance/concordancelaw13.MatchSides", spec := "matchSides", unfollowed := true, recurses := true, apart := false, narrowed := true }
def MatchSidesUptoSaid : Prop := matchSidesUptoRow.holds Try.pinned (OpenSpec.upto matchSidesSpec)

/-- 'concordancelaw05.PostingDocs', WHERE WHAT IT READS IS OF BULK AT MOST 1048576: true; the input reads as it did. -/
def postingDocsUptoRow : OpenClaim := { program := "ytgpmihcdjmjfoaa", sum := "c0e3eb34f766085c78802a2cdfb455e0cea7cdb9f4e8a7091e6dc4c886fb6321", func := "concordance/concordancelaw05.PostingDocs", spec := "postingDocs", unfollowed := true, recurses := true, apart := false, narrowed := true }
def PostingDocsUptoSaid : Prop := postingDocsUptoRow.holds Try.pinned (OpenSpec.upto postingDocsSpec)

/-- 'concordancelaw05.PostingBlocks', WHERE WHAT IT READS IS OF BULK AT MOST 1048576: true; the input reads as it did. -/
def postingBlocksUptoRow : OpenClaim := { program := "ytgpmihcdjmjfoaa", sum := "c0e3eb34f766085c78802a2cdfb455e0cea7cdb9f4e8a7091e6dc4c886fb6321", func := "concordance/concordancelaw05.PostingBlocks", spec := "postingBlocks", unfollowed := true, recurses := true, apart := false, narrowed := true }
def PostingBlocksUptoSaid : Prop := postingBlocksUptoRow.holds Try.pinned (OpenSpec.upto postingBlocksSpec)

/-- 'concordancelaw05.PostingMakes', WHERE WHAT IT READS IS OF BULK AT MOST 1048576: true; the input reads as it did. -/
def postingMakesUptoRow : OpenClaim := { program := "ytgpmihcdjmjfoaa", sum := "c0e3eb34f766085c78802a2cdfb455e0cea7cdb9f4e8a7091e6dc4c886fb6321", func := "concordance/concordancelaw05.PostingMakes", spec := "postingMakes", unfollowed := true, recurses := true, apart := false, narrowed := true }
def PostingMakesUptoSaid : Prop := postingMakesUptoRow.holds Try.pinned (OpenSpec.upto postingMakesSpec)

/-- 'concordancelaw06.CursorBoth', WHERE WHAT IT READS IS OF BULK AT MOST 1048576: true; the input reads as it did. -/
def cursorBothUptoRow : OpenClaim := { program := "ytgpmihcdjmjfoaa", sum := "c0e3eb34f766085c78802a2cdfb455e0cea7cdb9f4e8a7091e6dc4c886fb6321", func := "concordance/concordancelaw06.CursorBoth", spec := "cursorBoth", unfollowed := true, recurses := true, apart := false, narrowed := true }
def CursorBothUptoSaid : Prop := cursorBothUptoRow.holds Try.pinned (OpenSpec.upto cursorBothSpec)

/-- 'concordancelaw06.CursorAlike', WHERE WHAT IT READS IS OF BULK AT MOST 1048576: true; the input reads as it did. -/
def cursorAlikeUptoRow : OpenClaim := { program := "ytgpmihcdjmjfoaa", sum := "c0e3eb34f766085c78802a2cdfb455e0cea7cdb9f4e8a7091e6dc4c886fb6321", func := "concordance/concordancelaw06.CursorAlike", spec := "cursorAlike", unfollowed := true, recurses := true, apart := false, narrowed := true }
def CursorAlikeUptoSaid : Prop := cursorAlikeUptoRow.holds Try.pinned (OpenSpec.upto cursorAlikeSpec)

/-- 'concordancelaw05.PostingReads', WHERE WHAT IT READS IS OF BULK AT MOST 1048576: true; the input reads as it did. -/
def postingReadsUptoRow : OpenClaim := { program := "ytgpmihcdjmjfoaa", sum := "c0e3eb34f766085c78802a2cdfb455e0cea7cdb9f4e8a7091e6dc4c886fb6321", func := "concordance/concordancelaw05.PostingReads", spec := "postingReads", unfollowed := true, recurses := true, apart := false, narrowed := true }
def PostingReadsUptoSaid : Prop := postingReadsUptoRow.holds Try.pinned (OpenSpec.upto postingReadsSpec)

/-- 'concordancelaw05.PostingRound', WHERE WHAT IT READS IS OF BULK AT MOST 1048576: true; the input reads as it did. -/
def postingRoundUptoRow : OpenClaim := { program := "ytgpmihcdjmjfoaa", sum := "c0e3eb34f766085c78802a2cdfb455e0cea7cdb9f4e8a7091e6dc4c886fb6321", func := "concordance/concordancelaw05.PostingRound", spec := "postingRound", unfollowed := true, recurses := true, apart := false, narrowed := true }
def PostingRoundUptoSaid : Prop := postingRoundUptoRow.holds Try.pinned (OpenSpec.upto postingRoundSpec)

/-- 'concordancelaw06.CursorLeads', WHERE WHAT IT READS IS OF BULK AT MOST 1048576: true; the input reads as it did. -/
def cursorLeadsUptoRow : OpenClaim := { program := "ytgpmihcdjmjfoaa", sum := "c0e3eb34f766085c78802a2cdfb455e0cea7cdb9f4e8a7091e6dc4c886fb6321", func := "concordance/concordancelaw06.CursorLeads", spec := "cursorLeads", unfollowed := true, recurses := true, apart := false, narrowed := true }
def CursorLeadsUptoSaid : Prop := cursorLeadsUptoRow.holds Try.pinned (OpenSpec.upto cursorLeadsSpec)

/-- 'concordancelaw06.CursorPlays', WHERE WHAT IT READS IS OF BULK AT MOST 1048576: true; the input reads as it did. -/
def cursorPlaysUptoRow : OpenClaim := { program := "ytgpmihcdjmjfoaa", sum := "c0e3eb34f766085c78802a2cdfb455e0cea7cdb9f4e8a7091e6dc4c886fb6321", func := "concordance/concordancelaw06.CursorPlays", spec := "cursorPlays", unfollowed := true, recurses := true, apart := false, narrowed := true }
def CursorPlaysUptoSaid : Prop := cursorPlaysUptoRow.holds Try.pinned (OpenSpec.upto cursorPlaysSpec)

/-- 'concordancelaw06.CursorAll', WHERE WHAT IT READS IS OF BULK AT MOST 1048576: true; the input reads as it did. -/
def cursorAllUptoRow : OpenClaim := { program := "ytgpmihcdjmjfoaa", sum := "c0e3eb34f766085c78802a2cdfb455e0cea7cdb9f4e8a7091e6dc4c886fb6321", func := "concordance/concordancelaw06.CursorAll", spec := "cursorAll", unfollowed := true, recurses := true, apart := false, narrowed := true }
def CursorAllUptoSaid : Prop := cursorAllUptoRow.holds Try.pinned (OpenSpec.upto cursorAllSpec)

end Rows
end Go.Proofs.Ytgpmihcdjmjfoaa
