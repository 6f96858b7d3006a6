/-
  DERIVED. GIVEN WITH THE SEED: THE CARDS: each row of YtgpmihcdjmjfoaaDoorRows.lean that lists a variable, with what it lists TIED to the program's text (the seventh form; the later family's looks); each row that meets fmt, with fmt's text TOLD by the authors' own Lean function (tested against real Go, not proved from fmt's source: count such statements apart). THE CARD IS WHAT COUNTS. Prove the row's statement (the work); the ties are given (YtgpmihcdjmjfoaaDoorTie.lean); close each card by the builder's one call (the guide's Derived/Test/ToyasCard.lean, 'card_holds'). Laid BY PROGRAM, IN A SANDBOX (cutbox-door.mjs). By AI agents, Wed Nov 11 2026. No macro, syntax, notation, axiom, sorry.
-/
import Derived.Test.YtgpmihcdjmjfoaaDoorRows
import GoSem.ClaimSeven
namespace Go.Proofs.YtgpmihcdjmjfoaaDoor
namespace Rows

/-- THE TIED CARD OF 'concordancelaw13.MatchLogic'. -/
def matchLogicCard : Claim7 := { stood := { row := matchLogicRow, standIns := [], harness := (true, "439f1915102d584fba3905449594b9d921fa351847b127e4df2681e87658a0c8"), looks := false }, kinds := [], alts := [], laidByText := true, laidKinds := [.data], laidTests := true, laidLooks := .later }
def MatchLogicCardSaid : Prop := Claim7.holds Tryd.pinned (.plain (OpenSpec.ofChange matchLogicSpec)) matchLogicCard

/-- THE TIED CARD OF 'concordancelaw13.MatchJoins'. -/
def matchJoinsCard : Claim7 := { stood := { row := matchJoinsRow, standIns := [], harness := (true, "439f1915102d584fba3905449594b9d921fa351847b127e4df2681e87658a0c8"), looks := false }, kinds := [], alts := [], laidByText := true, laidKinds := [.data], laidTests := true, laidLooks := .later }
def MatchJoinsCardSaid : Prop := Claim7.holds Tryd.pinned (.plain (OpenSpec.ofChange matchJoinsSpec)) matchJoinsCard

/-- THE SECOND FORM's CARD OF 'concordancelaw13.MatchLogic'. -/
def matchLogicUptoCard : Claim7 := { stood := { row := matchLogicUptoRow, standIns := [], harness := (true, "439f1915102d584fba3905449594b9d921fa351847b127e4df2681e87658a0c8"), looks := false }, kinds := [], alts := [], laidByText := true, laidKinds := [.data], laidTests := true, laidLooks := .later }
def MatchLogicUptoCardSaid : Prop := Claim7.holds Tryd.pinned (.plain (OpenSpec.upto matchLogicSpec)) matchLogicUptoCard

/-- THE SECOND FORM's CARD OF 'concordancelaw13.MatchJoins'. -/
def matchJoinsUptoCard : Claim7 := { stood := { row := matchJoinsUptoRow, standIns := [], harness := (true, "439f1915102d584fba3905449594b9d921fa351847b127e4df2681e87658a0c8"), looks := false }, kinds := [], alts := [], laidByText := true, laidKinds := [.data], laidTests := true, laidLooks := .later }
def MatchJoinsUptoCardSaid : Prop := Claim7.holds Tryd.pinned (.plain (OpenSpec.upto matchJoinsSpec)) matchJoinsUptoCard
end Rows
end Go.Proofs.YtgpmihcdjmjfoaaDoor
