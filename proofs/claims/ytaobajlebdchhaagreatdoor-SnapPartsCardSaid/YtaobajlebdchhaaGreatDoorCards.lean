/-
  DERIVED. GIVEN WITH THE SEED: THE CARDS: each row of YtaobajlebdchhaaGreatDoorRows.lean that lists a variable, with what it lists TIED to the program's text (the seventh form; the later family's looks); each row that meets fmt, with fmt's text TOLD by the authors' own Lean function (tested against real Go, not proved from fmt's source: count such statements apart). THE CARD IS WHAT COUNTS. Prove the row's statement (the work); the ties are given (YtaobajlebdchhaaGreatDoorTie.lean); close each card by the builder's one call (the guide's Derived/Test/ToyasCard.lean, 'card_holds'). Laid BY PROGRAM, IN A SANDBOX (cutbox-door.mjs). By AI agents, Wed Nov 11 2026. No macro, syntax, notation, axiom, sorry.
-/
import Derived.Test.YtaobajlebdchhaaGreatDoorRows
import GoSem.ClaimSeven
namespace Go.Proofs.YtaobajlebdchhaaGreatDoor
namespace Rows

/-- THE TIED CARD OF 'concordancelaw13.MatchRefuses'. -/
def matchRefusesCard : Claim7 := { stood := { row := matchRefusesRow, standIns := [], harness := (true, "3663a88419421c8180bc9331cc64f194b7a7f58d592e5aad8b3194deb6509b3d"), looks := false }, kinds := [], alts := [], laidByText := true, laidKinds := [.data, .data, .pinned], laidTests := true, laidLooks := .later }
def MatchRefusesCardSaid : Prop := Claim7.holds Tryz.pinned (.plain (OpenSpec.ofChange matchRefusesSpec)) matchRefusesCard

/-- THE TIED CARD OF 'concordancelaw13.MatchAlike'. -/
def matchAlikeCard : Claim7 := { stood := { row := matchAlikeRow, standIns := [], harness := (true, "3663a88419421c8180bc9331cc64f194b7a7f58d592e5aad8b3194deb6509b3d"), looks := false }, kinds := [], alts := [], laidByText := true, laidKinds := [.data, .data, .pinned], laidTests := true, laidLooks := .later }
def MatchAlikeCardSaid : Prop := Claim7.holds Tryz.pinned (.plain (OpenSpec.ofChange matchAlikeSpec)) matchAlikeCard

/-- THE TIED CARD OF 'concordancelaw13.MatchParts'. -/
def matchPartsCard : Claim7 := { stood := { row := matchPartsRow, standIns := [], harness := (true, "3663a88419421c8180bc9331cc64f194b7a7f58d592e5aad8b3194deb6509b3d"), looks := false }, kinds := [], alts := [], laidByText := true, laidKinds := [.data, .data, .pinned], laidTests := true, laidLooks := .later }
def MatchPartsCardSaid : Prop := Claim7.holds Tryz.pinned (.plain (OpenSpec.ofChange matchPartsSpec)) matchPartsCard

/-- THE TIED CARD OF 'concordancelaw13.MatchMatches'. -/
def matchMatchesCard : Claim7 := { stood := { row := matchMatchesRow, standIns := [], harness := (true, "3663a88419421c8180bc9331cc64f194b7a7f58d592e5aad8b3194deb6509b3d"), looks := false }, kinds := [], alts := [], laidByText := true, laidKinds := [.data, .data, .pinned], laidTests := true, laidLooks := .later }
def MatchMatchesCardSaid : Prop := Claim7.holds Tryz.pinned (.plain (OpenSpec.ofChange matchMatchesSpec)) matchMatchesCard

/-- THE TIED CARD OF 'concordancelaw16.SnapParts'. -/
def snapPartsCard : Claim7 := { stood := { row := snapPartsRow, standIns := [], harness := (true, "3663a88419421c8180bc9331cc64f194b7a7f58d592e5aad8b3194deb6509b3d"), looks := false }, kinds := [], alts := [], laidByText := true, laidKinds := [.data, .data, .pinned], laidTests := true, laidLooks := .later }
def SnapPartsCardSaid : Prop := Claim7.holds Tryz.pinned (.plain (OpenSpec.ofChange snapPartsSpec)) snapPartsCard

/-- THE TIED CARD OF 'concordancelaw16.SnapSearches'. -/
def snapSearchesCard : Claim7 := { stood := { row := snapSearchesRow, standIns := [], harness := (true, "3663a88419421c8180bc9331cc64f194b7a7f58d592e5aad8b3194deb6509b3d"), looks := false }, kinds := [], alts := [], laidByText := true, laidKinds := [.data, .data, .pinned], laidTests := true, laidLooks := .later }
def SnapSearchesCardSaid : Prop := Claim7.holds Tryz.pinned (.plain (OpenSpec.ofChange snapSearchesSpec)) snapSearchesCard

/-- THE TIED CARD OF 'concordancelaw16.SnapStays'. -/
def snapStaysCard : Claim7 := { stood := { row := snapStaysRow, standIns := [], harness := (true, "3663a88419421c8180bc9331cc64f194b7a7f58d592e5aad8b3194deb6509b3d"), looks := false }, kinds := [], alts := [], laidByText := true, laidKinds := [.data, .data, .pinned], laidTests := true, laidLooks := .later }
def SnapStaysCardSaid : Prop := Claim7.holds Tryz.pinned (.plain (OpenSpec.ofChange snapStaysSpec)) snapStaysCard

/-- THE SECOND FORM's CARD OF 'concordancelaw13.MatchRefuses'. -/
def matchRefusesUptoCard : Claim7 := { stood := { row := matchRefusesUptoRow, standIns := [], harness := (true, "3663a88419421c8180bc9331cc64f194b7a7f58d592e5aad8b3194deb6509b3d"), looks := false }, kinds := [], alts := [], laidByText := true, laidKinds := [.data, .data, .pinned], laidTests := true, laidLooks := .later }
def MatchRefusesUptoCardSaid : Prop := Claim7.holds Tryz.pinned (.plain (OpenSpec.upto matchRefusesSpec)) matchRefusesUptoCard

/-- THE SECOND FORM's CARD OF 'concordancelaw13.MatchAlike'. -/
def matchAlikeUptoCard : Claim7 := { stood := { row := matchAlikeUptoRow, standIns := [], harness := (true, "3663a88419421c8180bc9331cc64f194b7a7f58d592e5aad8b3194deb6509b3d"), looks := false }, kinds := [], alts := [], laidByText := true, laidKinds := [.data, .data, .pinned], laidTests := true, laidLooks := .later }
def MatchAlikeUptoCardSaid : Prop := Claim7.holds Tryz.pinned (.plain (OpenSpec.upto matchAlikeSpec)) matchAlikeUptoCard

/-- THE SECOND FORM's CARD OF 'concordancelaw13.MatchParts'. -/
def matchPartsUptoCard : Claim7 := { stood := { row := matchPartsUptoRow, standIns := [], harness := (true, "3663a88419421c8180bc9331cc64f194b7a7f58d592e5aad8b3194deb6509b3d"), looks := false }, kinds := [], alts := [], laidByText := true, laidKinds := [.data, .data, .pinned], laidTests := true, laidLooks := .later }
def MatchPartsUptoCardSaid : Prop := Claim7.holds Tryz.pinned (.plain (OpenSpec.upto matchPartsSpec)) matchPartsUptoCard

/-- THE SECOND FORM's CARD OF 'concordancelaw13.MatchMatches'. -/
def matchMatchesUptoCard : Claim7 := { stood := { row := matchMatchesUptoRow, standIns := [], harness := (true, "3663a88419421c8180bc9331cc64f194b7a7f58d592e5aad8b3194deb6509b3d"), looks := false }, kinds := [], alts := [], laidByText := true, laidKinds := [.data, .data, .pinned], laidTests := true, laidLooks := .later }
def MatchMatchesUptoCardSaid : Prop := Claim7.holds Tryz.pinned (.plain (OpenSpec.upto matchMatchesSpec)) matchMatchesUptoCard

/-- THE SECOND FORM's CARD OF 'concordancelaw16.SnapParts'. -/
def snapPartsUptoCard : Claim7 := { stood := { row := snapPartsUptoRow, standIns := [], harness := (true, "3663a88419421c8180bc9331cc64f194b7a7f58d592e5aad8b3194deb6509b3d"), looks := false }, kinds := [], alts := [], laidByText := true, laidKinds := [.data, .data, .pinned], laidTests := true, laidLooks := .later }
def SnapPartsUptoCardSaid : Prop := Claim7.holds Tryz.pinned (.plain (OpenSpec.upto snapPartsSpec)) snapPartsUptoCard

/-- THE SECOND FORM's CARD OF 'concordancelaw16.SnapSearches'. -/
def snapSearchesUptoCard : Claim7 := { stood := { row := snapSearchesUptoRow, standIns := [], harness := (true, "3663a88419421c8180bc9331cc64f194b7a7f58d592e5aad8b3194deb6509b3d"), looks := false }, kinds := [], alts := [], laidByText := true, laidKinds := [.data, .data, .pinned], laidTests := true, laidLooks := .later }
def SnapSearchesUptoCardSaid : Prop := Claim7.holds Tryz.pinned (.plain (OpenSpec.upto snapSearchesSpec)) snapSearchesUptoCard

/-- THE SECOND FORM's CARD OF 'concordancelaw16.SnapStays'. -/
def snapStaysUptoCard : Claim7 := { stood := { row := snapStaysUptoRow, standIns := [], harness := (true, "3663a88419421c8180bc9331cc64f194b7a7f58d592e5aad8b3194deb6509b3d"), looks := false }, kinds := [], alts := [], laidByText := true, laidKinds := [.data, .data, .pinned], laidTests := true, laidLooks := .later }
def SnapStaysUptoCardSaid : Prop := Claim7.holds Tryz.pinned (.plain (OpenSpec.upto snapStaysSpec)) snapStaysUptoCard
end Rows
end Go.Proofs.YtaobajlebdchhaaGreatDoor
