/-
  DERIVED. GIVEN WITH THE SEED: THE CARDS: each row of YtbobcaffmbaadaaGreatDoorRows.lean that lists a variable, with what it lists TIED to the program's text (the seventh form; the later family's looks); each row that meets fmt, with fmt's text TOLD by the authors' own Lean function (tested against real Go, not proved from fmt's source: count such statements apart). THE CARD IS WHAT COUNTS. Prove the row's statement (the work); the ties are given (YtbobcaffmbaadaaGreatDoorTie.lean); close each card by the builder's one call (the guide's Derived/Test/ToyasCard.lean, 'card_holds'). Laid BY PROGRAM, IN A SANDBOX (cutbox-door.mjs). By AI agents, Wed Nov 11 2026. No macro, syntax, notation, axiom, sorry.
-/
import Derived.Test.YtbobcaffmbaadaaGreatDoorRows
import GoSem.ClaimSeven
namespace Go.Proofs.YtbobcaffmbaadaaGreatDoor
namespace Rows

/-- THE TIED CARD OF 'concordancelaw16.SnapFrees'. -/
def snapFreesCard : Claim7 := { stood := { row := snapFreesRow, standIns := [], harness := (true, "423062caa4f29b70d0a0cde0913bad32a6168f09e58a333ac4b71fb9e424bb5c"), looks := true }, kinds := [], alts := [], laidByText := true, laidKinds := [.data, .pinned], laidTests := true, laidLooks := .later }
def SnapFreesCardSaid : Prop := Claim7.holds Tryz.pinned (.plain (OpenSpec.ofChange snapFreesSpec)) snapFreesCard

/-- THE TIED CARD OF 'concordancelaw11.MergeRefuses'. -/
def mergeRefusesCard : Claim7 := { stood := { row := mergeRefusesRow, standIns := [], harness := (true, "423062caa4f29b70d0a0cde0913bad32a6168f09e58a333ac4b71fb9e424bb5c"), looks := true }, kinds := [], alts := [], laidByText := true, laidKinds := [.data, .data, .pinned], laidTests := true, laidLooks := .later }
def MergeRefusesCardSaid : Prop := Claim7.holds Tryz.pinned (.plain (OpenSpec.ofChange mergeRefusesSpec)) mergeRefusesCard

/-- THE TIED CARD OF 'concordancelaw11.MergeMerges'. -/
def mergeMergesCard : Claim7 := { stood := { row := mergeMergesRow, standIns := [], harness := (true, "423062caa4f29b70d0a0cde0913bad32a6168f09e58a333ac4b71fb9e424bb5c"), looks := true }, kinds := [], alts := [], laidByText := true, laidKinds := [.data, .data, .pinned], laidTests := true, laidLooks := .later }
def MergeMergesCardSaid : Prop := Claim7.holds Tryz.pinned (.plain (OpenSpec.ofChange mergeMergesSpec)) mergeMergesCard

/-- THE TIED CARD OF 'concordancelaw11.MergeKeeps'. -/
def mergeKeepsCard : Claim7 := { stood := { row := mergeKeepsRow, standIns := [], harness := (true, "423062caa4f29b70d0a0cde0913bad32a6168f09e58a333ac4b71fb9e424bb5c"), looks := true }, kinds := [], alts := [], laidByText := true, laidKinds := [.data, .data, .pinned], laidTests := true, laidLooks := .later }
def MergeKeepsCardSaid : Prop := Claim7.holds Tryz.pinned (.plain (OpenSpec.ofChange mergeKeepsSpec)) mergeKeepsCard

/-- THE TIED CARD OF 'concordancelaw11.MergeCounts'. -/
def mergeCountsCard : Claim7 := { stood := { row := mergeCountsRow, standIns := [], harness := (true, "423062caa4f29b70d0a0cde0913bad32a6168f09e58a333ac4b71fb9e424bb5c"), looks := true }, kinds := [], alts := [], laidByText := true, laidKinds := [.data, .data, .pinned], laidTests := true, laidLooks := .later }
def MergeCountsCardSaid : Prop := Claim7.holds Tryz.pinned (.plain (OpenSpec.ofChange mergeCountsSpec)) mergeCountsCard

/-- THE TIED CARD OF 'concordancelaw11.MergeBuilds'. -/
def mergeBuildsCard : Claim7 := { stood := { row := mergeBuildsRow, standIns := [], harness := (true, "423062caa4f29b70d0a0cde0913bad32a6168f09e58a333ac4b71fb9e424bb5c"), looks := true }, kinds := [], alts := [], laidByText := true, laidKinds := [.data, .data, .pinned], laidTests := true, laidLooks := .later }
def MergeBuildsCardSaid : Prop := Claim7.holds Tryz.pinned (.plain (OpenSpec.ofChange mergeBuildsSpec)) mergeBuildsCard

/-- THE TIED CARD OF 'concordancelaw11.MergeNone'. -/
def mergeNoneCard : Claim7 := { stood := { row := mergeNoneRow, standIns := [], harness := (true, "423062caa4f29b70d0a0cde0913bad32a6168f09e58a333ac4b71fb9e424bb5c"), looks := true }, kinds := [], alts := [], laidByText := true, laidKinds := [.data, .data, .pinned], laidTests := true, laidLooks := .later }
def MergeNoneCardSaid : Prop := Claim7.holds Tryz.pinned (.plain (OpenSpec.ofChange mergeNoneSpec)) mergeNoneCard

/-- THE SECOND FORM's CARD OF 'concordancelaw16.SnapFrees'. -/
def snapFreesUptoCard : Claim7 := { stood := { row := snapFreesUptoRow, standIns := [], harness := (true, "423062caa4f29b70d0a0cde0913bad32a6168f09e58a333ac4b71fb9e424bb5c"), looks := true }, kinds := [], alts := [], laidByText := true, laidKinds := [.data, .pinned], laidTests := true, laidLooks := .later }
def SnapFreesUptoCardSaid : Prop := Claim7.holds Tryz.pinned (.plain (OpenSpec.upto snapFreesSpec)) snapFreesUptoCard

/-- THE SECOND FORM's CARD OF 'concordancelaw11.MergeRefuses'. -/
def mergeRefusesUptoCard : Claim7 := { stood := { row := mergeRefusesUptoRow, standIns := [], harness := (true, "423062caa4f29b70d0a0cde0913bad32a6168f09e58a333ac4b71fb9e424bb5c"), looks := true }, kinds := [], alts := [], laidByText := true, laidKinds := [.data, .data, .pinned], laidTests := true, laidLooks := .later }
def MergeRefusesUptoCardSaid : Prop := Claim7.holds Tryz.pinned (.plain (OpenSpec.upto mergeRefusesSpec)) mergeRefusesUptoCard

/-- THE SECOND FORM's CARD OF 'concordancelaw11.MergeMerges'. -/
def mergeMergesUptoCard : Claim7 := { stood := { row := mergeMergesUptoRow, standIns := [], harness := (true, "423062caa4f29b70d0a0cde0913bad32a6168f09e58a333ac4b71fb9e424bb5c"), looks := true }, kinds := [], alts := [], laidByText := true, laidKinds := [.data, .data, .pinned], laidTests := true, laidLooks := .later }
def MergeMergesUptoCardSaid : Prop := Claim7.holds Tryz.pinned (.plain (OpenSpec.upto mergeMergesSpec)) mergeMergesUptoCard

/-- THE SECOND FORM's CARD OF 'concordancelaw11.MergeKeeps'. -/
def mergeKeepsUptoCard : Claim7 := { stood := { row := mergeKeepsUptoRow, standIns := [], harness := (true, "423062caa4f29b70d0a0cde0913bad32a6168f09e58a333ac4b71fb9e424bb5c"), looks := true }, kinds := [], alts := [], laidByText := true, laidKinds := [.data, .data, .pinned], laidTests := true, laidLooks := .later }
def MergeKeepsUptoCardSaid : Prop := Claim7.holds Tryz.pinned (.plain (OpenSpec.upto mergeKeepsSpec)) mergeKeepsUptoCard

/-- THE SECOND FORM's CARD OF 'concordancelaw11.MergeCounts'. -/
def mergeCountsUptoCard : Claim7 := { stood := { row := mergeCountsUptoRow, standIns := [], harness := (true, "423062caa4f29b70d0a0cde0913bad32a6168f09e58a333ac4b71fb9e424bb5c"), looks := true }, kinds := [], alts := [], laidByText := true, laidKinds := [.data, .data, .pinned], laidTests := true, laidLooks := .later }
def MergeCountsUptoCardSaid : Prop := Claim7.holds Tryz.pinned (.plain (OpenSpec.upto mergeCountsSpec)) mergeCountsUptoCard

/-- THE SECOND FORM's CARD OF 'concordancelaw11.MergeBuilds'. -/
def mergeBuildsUptoCard : Claim7 := { stood := { row := mergeBuildsUptoRow, standIns := [], harness := (true, "423062caa4f29b70d0a0cde0913bad32a6168f09e58a333ac4b71fb9e424bb5c"), looks := true }, kinds := [], alts := [], laidByText := true, laidKinds := [.data, .data, .pinned], laidTests := true, laidLooks := .later }
def MergeBuildsUptoCardSaid : Prop := Claim7.holds Tryz.pinned (.plain (OpenSpec.upto mergeBuildsSpec)) mergeBuildsUptoCard

/-- THE SECOND FORM's CARD OF 'concordancelaw11.MergeNone'. -/
def mergeNoneUptoCard : Claim7 := { stood := { row := mergeNoneUptoRow, standIns := [], harness := (true, "423062caa4f29b70d0a0cde0913bad32a6168f09e58a333ac4b71fb9e424bb5c"), looks := true }, kinds := [], alts := [], laidByText := true, laidKinds := [.data, .data, .pinned], laidTests := true, laidLooks := .later }
def MergeNoneUptoCardSaid : Prop := Claim7.holds Tryz.pinned (.plain (OpenSpec.upto mergeNoneSpec)) mergeNoneUptoCard
end Rows
end Go.Proofs.YtbobcaffmbaadaaGreatDoor
