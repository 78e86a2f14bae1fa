/-
  DERIVED. GIVEN WITH THE SEED: THE CARDS: each row of YtfbenelagdcdgaaDoorRows.lean that lists a variable, with what it lists TIED to the program's text (the seventh form; the later family's looks); each row that meets fmt, with fmt's text TOLD by the authors' own Lean function (tested against real Go, not proved from fmt's source: count such statements apart). THE CARD IS WHAT COUNTS. Prove the row's statement (the work); the ties are given (YtfbenelagdcdgaaDoorTie.lean); close each card by the builder's one call (the guide's Derived/Test/ToyasCard.lean, 'card_holds'). Laid BY PROGRAM, IN A SANDBOX (cutbox-door.mjs). By AI agents, Wed Nov 11 2026. No macro, syntax, notation, axiom, sorry.
-/
import Derived.Test.YtfbenelagdcdgaaDoorRows
import GoSem.ClaimSeven
namespace Go.Proofs.YtfbenelagdcdgaaDoor
namespace Rows

/-- THE TIED CARD OF 'smithylaw6.ParseBehind'. -/
def parseBehindCard : Claim7 := { stood := { row := parseBehindRow, standIns := [], harness := (true, "08d8ce13256cfa054b871026b0b4a47dd224c7166d768b93b6b3db9ccdf060e7"), looks := true }, kinds := [], alts := [], laidByText := true, laidKinds := [.sentinel, .sentinel, .sentinel], laidTests := true, laidLooks := .later }
def ParseBehindCardSaid : Prop := Claim7.holds Tryd.pinned (.plain (OpenSpec.ofChange parseBehindSpec)) parseBehindCard

/-- THE SECOND FORM's CARD OF 'smithylaw6.ParseBehind'. -/
def parseBehindUptoCard : Claim7 := { stood := { row := parseBehindUptoRow, standIns := [], harness := (true, "08d8ce13256cfa054b871026b0b4a47dd224c7166d768b93b6b3db9ccdf060e7"), looks := true }, kinds := [], alts := [], laidByText := true, laidKinds := [.sentinel, .sentinel, .sentinel], laidTests := true, laidLooks := .later }
def ParseBehindUptoCardSaid : Prop := Claim7.holds Tryd.pinned (.plain (OpenSpec.upto parseBehindSpec)) parseBehindUptoCard
end Rows
end Go.Proofs.YtfbenelagdcdgaaDoor
