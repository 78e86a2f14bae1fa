/-
  DERIVED. GIVEN WITH THE SEED: THE CARDS: each row of YtdepmlcnllofiaaDoorRows.lean that lists a variable, with what it lists TIED to the program's text (the seventh form; the later family's looks); each row that meets fmt, with fmt's text TOLD by the authors' own Lean function (tested against real Go, not proved from fmt's source: count such statements apart). THE CARD IS WHAT COUNTS. Prove the row's statement (the work); the ties are given (YtdepmlcnllofiaaDoorTie.lean); close each card by the builder's one call (the guide's Derived/Test/ToyasCard.lean, 'card_holds'). Laid BY PROGRAM, IN A SANDBOX (cutbox-door.mjs). By AI agents, Wed Nov 11 2026. No macro, syntax, notation, axiom, sorry.
-/
import Derived.Test.YtdepmlcnllofiaaDoorRows
import GoSem.ClaimSeven
namespace Go.Proofs.YtdepmlcnllofiaaDoor
namespace Rows

/-- THE TIED CARD OF 'smithylaw6.ParseBehind'. -/
def parseBehindCard : Claim7 := { stood := { row := parseBehindRow, standIns := [], harness := (true, "99dc175db1719035fb5b2311f52ee529170d21a87a90226a4390c1e293d70f79"), looks := true }, kinds := [], alts := [], laidByText := true, laidKinds := [.sentinel, .sentinel, .sentinel], laidTests := true, laidLooks := .later }
def ParseBehindCardSaid : Prop := Claim7.holds Tryd.pinned (.plain (OpenSpec.ofChange parseBehindSpec)) parseBehindCard

/-- THE TIED CARD OF 'smithylaw6.ParsePlaces'. -/
def parsePlacesCard : Claim7 := { stood := { row := parsePlacesRow, standIns := [], harness := (true, "99dc175db1719035fb5b2311f52ee529170d21a87a90226a4390c1e293d70f79"), looks := true }, kinds := [], alts := [], laidByText := true, laidKinds := [.sentinel, .sentinel, .sentinel, .sentinel, .sentinel, .sentinel, .sentinel, .sentinel, .sentinel, .sentinel, .sentinel, .sentinel, .sentinel, .sentinel, .sentinel, .sentinel, .sentinel], laidTests := true, laidLooks := .later }
def ParsePlacesCardSaid : Prop := Claim7.holds Tryd.pinned (.plain (OpenSpec.ofChange parsePlacesSpec)) parsePlacesCard

/-- THE TIED CARD OF 'smithylaw6.ParseRanks'. -/
def parseRanksCard : Claim7 := { stood := { row := parseRanksRow, standIns := [], harness := (true, "99dc175db1719035fb5b2311f52ee529170d21a87a90226a4390c1e293d70f79"), looks := true }, kinds := [], alts := [], laidByText := true, laidKinds := [.sentinel, .sentinel, .sentinel, .sentinel, .sentinel, .sentinel, .sentinel, .sentinel, .sentinel, .sentinel, .sentinel, .sentinel, .sentinel, .sentinel, .sentinel, .sentinel, .sentinel], laidTests := true, laidLooks := .later }
def ParseRanksCardSaid : Prop := Claim7.holds Tryd.pinned (.plain (OpenSpec.ofChange parseRanksSpec)) parseRanksCard

/-- THE SECOND FORM's CARD OF 'smithylaw6.ParseBehind'. -/
def parseBehindUptoCard : Claim7 := { stood := { row := parseBehindUptoRow, standIns := [], harness := (true, "99dc175db1719035fb5b2311f52ee529170d21a87a90226a4390c1e293d70f79"), looks := true }, kinds := [], alts := [], laidByText := true, laidKinds := [.sentinel, .sentinel, .sentinel], laidTests := true, laidLooks := .later }
def ParseBehindUptoCardSaid : Prop := Claim7.holds Tryd.pinned (.plain (OpenSpec.upto parseBehindSpec)) parseBehindUptoCard

/-- THE SECOND FORM's CARD OF 'smithylaw6.ParsePlaces'. -/
def parsePlacesUptoCard : Claim7 := { stood := { row := parsePlacesUptoRow, standIns := [], harness := (true, "99dc175db1719035fb5b2311f52ee529170d21a87a90226a4390c1e293d70f79"), looks := true }, kinds := [], alts := [], laidByText := true, laidKinds := [.sentinel, .sentinel, .sentinel, .sentinel, .sentinel, .sentinel, .sentinel, .sentinel, .sentinel, .sentinel, .sentinel, .sentinel, .sentinel, .sentinel, .sentinel, .sentinel, .sentinel], laidTests := true, laidLooks := .later }
def ParsePlacesUptoCardSaid : Prop := Claim7.holds Tryd.pinned (.plain (OpenSpec.upto parsePlacesSpec)) parsePlacesUptoCard

/-- THE SECOND FORM's CARD OF 'smithylaw6.ParseRanks'. -/
def parseRanksUptoCard : Claim7 := { stood := { row := parseRanksUptoRow, standIns := [], harness := (true, "99dc175db1719035fb5b2311f52ee529170d21a87a90226a4390c1e293d70f79"), looks := true }, kinds := [], alts := [], laidByText := true, laidKinds := [.sentinel, .sentinel, .sentinel, .sentinel, .sentinel, .sentinel, .sentinel, .sentinel, .sentinel, .sentinel, .sentinel, .sentinel, .sentinel, .sentinel, .sentinel, .sentinel, .sentinel], laidTests := true, laidLooks := .later }
def ParseRanksUptoCardSaid : Prop := Claim7.holds Tryd.pinned (.plain (OpenSpec.upto parseRanksSpec)) parseRanksUptoCard
end Rows
end Go.Proofs.YtdepmlcnllofiaaDoor
