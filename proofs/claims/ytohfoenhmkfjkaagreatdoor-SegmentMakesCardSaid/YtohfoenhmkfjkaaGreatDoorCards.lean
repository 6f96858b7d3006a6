/-
  DERIVED. GIVEN WITH THE SEED: THE CARDS: each row of YtohfoenhmkfjkaaGreatDoorRows.lean that lists a variable, with what it lists TIED to the program's text (the seventh form; the later family's looks); each row that meets fmt, with fmt's text TOLD by the authors' own Lean function (tested against real Go, not proved from fmt's source: count such statements apart). THE CARD IS WHAT COUNTS. Prove the row's statement (the work); the ties are given (YtohfoenhmkfjkaaGreatDoorTie.lean); close each card by the builder's one call (the guide's Derived/Test/ToyasCard.lean, 'card_holds'). Laid BY PROGRAM, IN A SANDBOX (cutbox-door.mjs). By AI agents, Wed Nov 11 2026. No macro, syntax, notation, axiom, sorry.
-/
import Derived.Test.YtohfoenhmkfjkaaGreatDoorRows
import GoSem.ClaimSeven
namespace Go.Proofs.YtohfoenhmkfjkaaGreatDoor
namespace Rows

/-- THE TIED CARD OF 'concordancelaw16.SnapNumbers'. -/
def snapNumbersCard : Claim7 := { stood := { row := snapNumbersRow, standIns := [], harness := (true, "261a5d3827e9a151da3e3d812145470ef6b6e1fe1ad9a96c49aea3e373872885"), looks := false }, kinds := [], alts := [], laidByText := true, laidKinds := [.data, .pinned], laidTests := true, laidLooks := .later }
def SnapNumbersCardSaid : Prop := Claim7.holds Tryz.pinned (.plain (OpenSpec.ofChange snapNumbersSpec)) snapNumbersCard

/-- THE TIED CARD OF 'concordancelaw10.SegmentAbove'. -/
def segmentAboveCard : Claim7 := { stood := { row := segmentAboveRow, standIns := [], harness := (true, "261a5d3827e9a151da3e3d812145470ef6b6e1fe1ad9a96c49aea3e373872885"), looks := false }, kinds := [], alts := [], laidByText := true, laidKinds := [.data, .pinned], laidTests := true, laidLooks := .later }
def SegmentAboveCardSaid : Prop := Claim7.holds Tryz.pinned (.plain (OpenSpec.ofChange segmentAboveSpec)) segmentAboveCard

/-- THE TIED CARD OF 'concordancelaw15.EraseLater'. -/
def eraseLaterCard : Claim7 := { stood := { row := eraseLaterRow, standIns := [], harness := (true, "261a5d3827e9a151da3e3d812145470ef6b6e1fe1ad9a96c49aea3e373872885"), looks := false }, kinds := [], alts := [], laidByText := true, laidKinds := [.data, .pinned], laidTests := true, laidLooks := .later }
def EraseLaterCardSaid : Prop := Claim7.holds Tryz.pinned (.plain (OpenSpec.ofChange eraseLaterSpec)) eraseLaterCard

/-- THE TIED CARD OF 'concordancelaw10.SegmentSame'. -/
def segmentSameCard : Claim7 := { stood := { row := segmentSameRow, standIns := [], harness := (true, "261a5d3827e9a151da3e3d812145470ef6b6e1fe1ad9a96c49aea3e373872885"), looks := false }, kinds := [], alts := [], laidByText := true, laidKinds := [.data, .pinned], laidTests := true, laidLooks := .later }
def SegmentSameCardSaid : Prop := Claim7.holds Tryz.pinned (.plain (OpenSpec.ofChange segmentSameSpec)) segmentSameCard

/-- THE TIED CARD OF 'concordancelaw15.ErasePlays'. -/
def erasePlaysCard : Claim7 := { stood := { row := erasePlaysRow, standIns := [], harness := (true, "261a5d3827e9a151da3e3d812145470ef6b6e1fe1ad9a96c49aea3e373872885"), looks := false }, kinds := [], alts := [], laidByText := true, laidKinds := [.data, .pinned], laidTests := true, laidLooks := .later }
def ErasePlaysCardSaid : Prop := Claim7.holds Tryz.pinned (.plain (OpenSpec.ofChange erasePlaysSpec)) erasePlaysCard

/-- THE TIED CARD OF 'concordancelaw10.SegmentBuilds'. -/
def segmentBuildsCard : Claim7 := { stood := { row := segmentBuildsRow, standIns := [], harness := (true, "261a5d3827e9a151da3e3d812145470ef6b6e1fe1ad9a96c49aea3e373872885"), looks := false }, kinds := [], alts := [], laidByText := true, laidKinds := [.data, .pinned], laidTests := true, laidLooks := .later }
def SegmentBuildsCardSaid : Prop := Claim7.holds Tryz.pinned (.plain (OpenSpec.ofChange segmentBuildsSpec)) segmentBuildsCard

/-- THE TIED CARD OF 'concordancelaw10.SegmentMakes'. -/
def segmentMakesCard : Claim7 := { stood := { row := segmentMakesRow, standIns := [], harness := (true, "261a5d3827e9a151da3e3d812145470ef6b6e1fe1ad9a96c49aea3e373872885"), looks := false }, kinds := [], alts := [], laidByText := true, laidKinds := [.data, .pinned], laidTests := true, laidLooks := .later }
def SegmentMakesCardSaid : Prop := Claim7.holds Tryz.pinned (.plain (OpenSpec.ofChange segmentMakesSpec)) segmentMakesCard

/-- THE TIED CARD OF 'concordancelaw15.EraseLives'. -/
def eraseLivesCard : Claim7 := { stood := { row := eraseLivesRow, standIns := [], harness := (true, "261a5d3827e9a151da3e3d812145470ef6b6e1fe1ad9a96c49aea3e373872885"), looks := false }, kinds := [], alts := [], laidByText := true, laidKinds := [.data, .data, .pinned], laidTests := true, laidLooks := .later }
def EraseLivesCardSaid : Prop := Claim7.holds Tryz.pinned (.plain (OpenSpec.ofChange eraseLivesSpec)) eraseLivesCard

/-- THE TIED CARD OF 'concordancelaw15.EraseLess'. -/
def eraseLessCard : Claim7 := { stood := { row := eraseLessRow, standIns := [], harness := (true, "261a5d3827e9a151da3e3d812145470ef6b6e1fe1ad9a96c49aea3e373872885"), looks := false }, kinds := [], alts := [], laidByText := true, laidKinds := [.data, .data, .pinned], laidTests := true, laidLooks := .later }
def EraseLessCardSaid : Prop := Claim7.holds Tryz.pinned (.plain (OpenSpec.ofChange eraseLessSpec)) eraseLessCard

/-- THE TIED CARD OF 'concordancelaw15.EraseJoins'. -/
def eraseJoinsCard : Claim7 := { stood := { row := eraseJoinsRow, standIns := [], harness := (true, "261a5d3827e9a151da3e3d812145470ef6b6e1fe1ad9a96c49aea3e373872885"), looks := false }, kinds := [], alts := [], laidByText := true, laidKinds := [.data, .data, .pinned], laidTests := true, laidLooks := .later }
def EraseJoinsCardSaid : Prop := Claim7.holds Tryz.pinned (.plain (OpenSpec.ofChange eraseJoinsSpec)) eraseJoinsCard

/-- THE TIED CARD OF 'concordancelaw15.EraseUpto'. -/
def eraseUptoCard : Claim7 := { stood := { row := eraseUptoRow, standIns := [], harness := (true, "261a5d3827e9a151da3e3d812145470ef6b6e1fe1ad9a96c49aea3e373872885"), looks := false }, kinds := [], alts := [], laidByText := true, laidKinds := [.data, .data, .pinned], laidTests := true, laidLooks := .later }
def EraseUptoCardSaid : Prop := Claim7.holds Tryz.pinned (.plain (OpenSpec.ofChange eraseUptoSpec)) eraseUptoCard

/-- THE SECOND FORM's CARD OF 'concordancelaw16.SnapNumbers'. -/
def snapNumbersUptoCard : Claim7 := { stood := { row := snapNumbersUptoRow, standIns := [], harness := (true, "261a5d3827e9a151da3e3d812145470ef6b6e1fe1ad9a96c49aea3e373872885"), looks := false }, kinds := [], alts := [], laidByText := true, laidKinds := [.data, .pinned], laidTests := true, laidLooks := .later }
def SnapNumbersUptoCardSaid : Prop := Claim7.holds Tryz.pinned (.plain (OpenSpec.upto snapNumbersSpec)) snapNumbersUptoCard

/-- THE SECOND FORM's CARD OF 'concordancelaw10.SegmentAbove'. -/
def segmentAboveUptoCard : Claim7 := { stood := { row := segmentAboveUptoRow, standIns := [], harness := (true, "261a5d3827e9a151da3e3d812145470ef6b6e1fe1ad9a96c49aea3e373872885"), looks := false }, kinds := [], alts := [], laidByText := true, laidKinds := [.data, .pinned], laidTests := true, laidLooks := .later }
def SegmentAboveUptoCardSaid : Prop := Claim7.holds Tryz.pinned (.plain (OpenSpec.upto segmentAboveSpec)) segmentAboveUptoCard

/-- THE SECOND FORM's CARD OF 'concordancelaw15.EraseLater'. -/
def eraseLaterUptoCard : Claim7 := { stood := { row := eraseLaterUptoRow, standIns := [], harness := (true, "261a5d3827e9a151da3e3d812145470ef6b6e1fe1ad9a96c49aea3e373872885"), looks := false }, kinds := [], alts := [], laidByText := true, laidKinds := [.data, .pinned], laidTests := true, laidLooks := .later }
def EraseLaterUptoCardSaid : Prop := Claim7.holds Tryz.pinned (.plain (OpenSpec.upto eraseLaterSpec)) eraseLaterUptoCard

/-- THE SECOND FORM's CARD OF 'concordancelaw10.SegmentSame'. -/
def segmentSameUptoCard : Claim7 := { stood := { row := segmentSameUptoRow, standIns := [], harness := (true, "261a5d3827e9a151da3e3d812145470ef6b6e1fe1ad9a96c49aea3e373872885"), looks := false }, kinds := [], alts := [], laidByText := true, laidKinds := [.data, .pinned], laidTests := true, laidLooks := .later }
def SegmentSameUptoCardSaid : Prop := Claim7.holds Tryz.pinned (.plain (OpenSpec.upto segmentSameSpec)) segmentSameUptoCard

/-- THE SECOND FORM's CARD OF 'concordancelaw15.ErasePlays'. -/
def erasePlaysUptoCard : Claim7 := { stood := { row := erasePlaysUptoRow, standIns := [], harness := (true, "261a5d3827e9a151da3e3d812145470ef6b6e1fe1ad9a96c49aea3e373872885"), looks := false }, kinds := [], alts := [], laidByText := true, laidKinds := [.data, .pinned], laidTests := true, laidLooks := .later }
def ErasePlaysUptoCardSaid : Prop := Claim7.holds Tryz.pinned (.plain (OpenSpec.upto erasePlaysSpec)) erasePlaysUptoCard

/-- THE SECOND FORM's CARD OF 'concordancelaw10.SegmentBuilds'. -/
def segmentBuildsUptoCard : Claim7 := { stood := { row := segmentBuildsUptoRow, standIns := [], harness := (true, "261a5d3827e9a151da3e3d812145470ef6b6e1fe1ad9a96c49aea3e373872885"), looks := false }, kinds := [], alts := [], laidByText := true, laidKinds := [.data, .pinned], laidTests := true, laidLooks := .later }
def SegmentBuildsUptoCardSaid : Prop := Claim7.holds Tryz.pinned (.plain (OpenSpec.upto segmentBuildsSpec)) segmentBuildsUptoCard

/-- THE SECOND FORM's CARD OF 'concordancelaw10.SegmentMakes'. -/
def segmentMakesUptoCard : Claim7 := { stood := { row := segmentMakesUptoRow, standIns := [], harness := (true, "261a5d3827e9a151da3e3d812145470ef6b6e1fe1ad9a96c49aea3e373872885"), looks := false }, kinds := [], alts := [], laidByText := true, laidKinds := [.data, .pinned], laidTests := true, laidLooks := .later }
def SegmentMakesUptoCardSaid : Prop := Claim7.holds Tryz.pinned (.plain (OpenSpec.upto segmentMakesSpec)) segmentMakesUptoCard

/-- THE SECOND FORM's CARD OF 'concordancelaw15.EraseLives'. -/
def eraseLivesUptoCard : Claim7 := { stood := { row := eraseLivesUptoRow, standIns := [], harness := (true, "261a5d3827e9a151da3e3d812145470ef6b6e1fe1ad9a96c49aea3e373872885"), looks := false }, kinds := [], alts := [], laidByText := true, laidKinds := [.data, .data, .pinned], laidTests := true, laidLooks := .later }
def EraseLivesUptoCardSaid : Prop := Claim7.holds Tryz.pinned (.plain (OpenSpec.upto eraseLivesSpec)) eraseLivesUptoCard

/-- THE SECOND FORM's CARD OF 'concordancelaw15.EraseLess'. -/
def eraseLessUptoCard : Claim7 := { stood := { row := eraseLessUptoRow, standIns := [], harness := (true, "261a5d3827e9a151da3e3d812145470ef6b6e1fe1ad9a96c49aea3e373872885"), looks := false }, kinds := [], alts := [], laidByText := true, laidKinds := [.data, .data, .pinned], laidTests := true, laidLooks := .later }
def EraseLessUptoCardSaid : Prop := Claim7.holds Tryz.pinned (.plain (OpenSpec.upto eraseLessSpec)) eraseLessUptoCard

/-- THE SECOND FORM's CARD OF 'concordancelaw15.EraseJoins'. -/
def eraseJoinsUptoCard : Claim7 := { stood := { row := eraseJoinsUptoRow, standIns := [], harness := (true, "261a5d3827e9a151da3e3d812145470ef6b6e1fe1ad9a96c49aea3e373872885"), looks := false }, kinds := [], alts := [], laidByText := true, laidKinds := [.data, .data, .pinned], laidTests := true, laidLooks := .later }
def EraseJoinsUptoCardSaid : Prop := Claim7.holds Tryz.pinned (.plain (OpenSpec.upto eraseJoinsSpec)) eraseJoinsUptoCard

/-- THE SECOND FORM's CARD OF 'concordancelaw15.EraseUpto'. -/
def eraseUptoUptoCard : Claim7 := { stood := { row := eraseUptoUptoRow, standIns := [], harness := (true, "261a5d3827e9a151da3e3d812145470ef6b6e1fe1ad9a96c49aea3e373872885"), looks := false }, kinds := [], alts := [], laidByText := true, laidKinds := [.data, .data, .pinned], laidTests := true, laidLooks := .later }
def EraseUptoUptoCardSaid : Prop := Claim7.holds Tryz.pinned (.plain (OpenSpec.upto eraseUptoSpec)) eraseUptoUptoCard
end Rows
end Go.Proofs.YtohfoenhmkfjkaaGreatDoor
