/-
  DERIVED. GIVEN WITH THE SEED: THE CARDS: each row of YtggoogbloaennaaDoorRows.lean that lists a variable, with what it lists TIED to the program's text (the seventh form; the later family's looks); each row that meets fmt, with fmt's text TOLD by the authors' own Lean function (tested against real Go, not proved from fmt's source: count such statements apart). THE CARD IS WHAT COUNTS. Prove the row's statement (the work); the ties are given (YtggoogbloaennaaDoorTie.lean); close each card by the builder's one call (the guide's Derived/Test/ToyasCard.lean, 'card_holds'). Laid BY PROGRAM, IN A SANDBOX (cutbox-door.mjs). By AI agents, Wed Nov 11 2026. No macro, syntax, notation, axiom, sorry.
-/
import Derived.Test.YtggoogbloaennaaDoorRows
import GoSem.ClaimSeven
namespace Go.Proofs.YtggoogbloaennaaDoor
namespace Rows

/-- THE TIED CARD OF 'smithylaw5.AstTrees'. -/
def astTreesCard : Claim7 := { stood := { row := astTreesRow, standIns := [], harness := (true, "fa8f30d94ac94f28ae47e791fba155e5edfc6e865d614bd0d5172baa7f3ee159"), looks := true }, kinds := [], alts := [], laidByText := true, laidKinds := [.sentinel, .sentinel, .sentinel, .sentinel, .sentinel, .sentinel, .sentinel, .sentinel, .sentinel, .sentinel, .sentinel, .sentinel, .sentinel, .sentinel, .sentinel, .sentinel, .sentinel], laidTests := true, laidLooks := .later }
def AstTreesCardSaid : Prop := Claim7.holds Tryd.pinned (.plain (OpenSpec.ofChange astTreesSpec)) astTreesCard

/-- THE TIED CARD OF 'smithylaw4.LexScans'. -/
def lexScansCard : Claim7 := { stood := { row := lexScansRow, standIns := [], harness := (true, "fa8f30d94ac94f28ae47e791fba155e5edfc6e865d614bd0d5172baa7f3ee159"), looks := true }, kinds := [], alts := [], laidByText := true, laidKinds := [.sentinel, .sentinel, .sentinel, .sentinel, .sentinel, .sentinel, .sentinel, .sentinel, .sentinel, .sentinel, .sentinel, .sentinel, .sentinel, .sentinel, .sentinel, .sentinel, .sentinel], laidTests := true, laidLooks := .later }
def LexScansCardSaid : Prop := Claim7.holds Tryd.pinned (.plain (OpenSpec.ofChange lexScansSpec)) lexScansCard

/-- THE TIED CARD OF 'smithylaw4.LexSpaces'. -/
def lexSpacesCard : Claim7 := { stood := { row := lexSpacesRow, standIns := [], harness := (true, "fa8f30d94ac94f28ae47e791fba155e5edfc6e865d614bd0d5172baa7f3ee159"), looks := true }, kinds := [], alts := [], laidByText := true, laidKinds := [.sentinel, .sentinel], laidTests := true, laidLooks := .later }
def LexSpacesCardSaid : Prop := Claim7.holds Tryd.pinned (.plain (OpenSpec.ofChange lexSpacesSpec)) lexSpacesCard

/-- THE TIED CARD OF 'smithylaw4.LexBlocks'. -/
def lexBlocksCard : Claim7 := { stood := { row := lexBlocksRow, standIns := [], harness := (true, "fa8f30d94ac94f28ae47e791fba155e5edfc6e865d614bd0d5172baa7f3ee159"), looks := true }, kinds := [], alts := [], laidByText := true, laidKinds := [.sentinel, .sentinel], laidTests := true, laidLooks := .later }
def LexBlocksCardSaid : Prop := Claim7.holds Tryd.pinned (.plain (OpenSpec.ofChange lexBlocksSpec)) lexBlocksCard

/-- THE TIED CARD OF 'smithylaw4.LexNumbers'. -/
def lexNumbersCard : Claim7 := { stood := { row := lexNumbersRow, standIns := [], harness := (true, "fa8f30d94ac94f28ae47e791fba155e5edfc6e865d614bd0d5172baa7f3ee159"), looks := true }, kinds := [], alts := [], laidByText := true, laidKinds := [.sentinel, .sentinel, .sentinel, .sentinel, .sentinel, .sentinel, .sentinel, .sentinel, .sentinel, .sentinel, .sentinel, .sentinel, .sentinel, .sentinel, .sentinel, .sentinel, .sentinel], laidTests := true, laidLooks := .later }
def LexNumbersCardSaid : Prop := Claim7.holds Tryd.pinned (.plain (OpenSpec.ofChange lexNumbersSpec)) lexNumbersCard

/-- THE TIED CARD OF 'smithylaw4.LexBrackets'. -/
def lexBracketsCard : Claim7 := { stood := { row := lexBracketsRow, standIns := [], harness := (true, "fa8f30d94ac94f28ae47e791fba155e5edfc6e865d614bd0d5172baa7f3ee159"), looks := true }, kinds := [], alts := [], laidByText := true, laidKinds := [.sentinel, .sentinel, .sentinel, .sentinel, .sentinel, .sentinel, .sentinel, .sentinel, .sentinel, .sentinel, .sentinel, .sentinel, .sentinel, .sentinel, .sentinel, .sentinel, .sentinel], laidTests := true, laidLooks := .later }
def LexBracketsCardSaid : Prop := Claim7.holds Tryd.pinned (.plain (OpenSpec.ofChange lexBracketsSpec)) lexBracketsCard

/-- THE TIED CARD OF 'smithylaw4.LexQuotes'. -/
def lexQuotesCard : Claim7 := { stood := { row := lexQuotesRow, standIns := [], harness := (true, "fa8f30d94ac94f28ae47e791fba155e5edfc6e865d614bd0d5172baa7f3ee159"), looks := true }, kinds := [], alts := [], laidByText := true, laidKinds := [.sentinel, .sentinel], laidTests := true, laidLooks := .later }
def LexQuotesCardSaid : Prop := Claim7.holds Tryd.pinned (.plain (OpenSpec.ofChange lexQuotesSpec)) lexQuotesCard

/-- THE TIED CARD OF 'smithylaw4.LexNames'. -/
def lexNamesCard : Claim7 := { stood := { row := lexNamesRow, standIns := [], harness := (true, "fa8f30d94ac94f28ae47e791fba155e5edfc6e865d614bd0d5172baa7f3ee159"), looks := true }, kinds := [], alts := [], laidByText := true, laidKinds := [.sentinel, .sentinel], laidTests := true, laidLooks := .later }
def LexNamesCardSaid : Prop := Claim7.holds Tryd.pinned (.plain (OpenSpec.ofChange lexNamesSpec)) lexNamesCard

/-- THE TIED CARD OF 'smithylaw5.AstRows'. -/
def astRowsCard : Claim7 := { stood := { row := astRowsRow, standIns := [], harness := (true, "fa8f30d94ac94f28ae47e791fba155e5edfc6e865d614bd0d5172baa7f3ee159"), looks := true }, kinds := [], alts := [], laidByText := true, laidKinds := [.sentinel, .sentinel], laidTests := true, laidLooks := .later }
def AstRowsCardSaid : Prop := Claim7.holds Tryd.pinned (.plain (OpenSpec.ofChange astRowsSpec)) astRowsCard

/-- THE SECOND FORM's CARD OF 'smithylaw5.AstTrees'. -/
def astTreesUptoCard : Claim7 := { stood := { row := astTreesUptoRow, standIns := [], harness := (true, "fa8f30d94ac94f28ae47e791fba155e5edfc6e865d614bd0d5172baa7f3ee159"), looks := true }, kinds := [], alts := [], laidByText := true, laidKinds := [.sentinel, .sentinel, .sentinel, .sentinel, .sentinel, .sentinel, .sentinel, .sentinel, .sentinel, .sentinel, .sentinel, .sentinel, .sentinel, .sentinel, .sentinel, .sentinel, .sentinel], laidTests := true, laidLooks := .later }
def AstTreesUptoCardSaid : Prop := Claim7.holds Tryd.pinned (.plain (OpenSpec.upto astTreesSpec)) astTreesUptoCard

/-- THE SECOND FORM's CARD OF 'smithylaw4.LexScans'. -/
def lexScansUptoCard : Claim7 := { stood := { row := lexScansUptoRow, standIns := [], harness := (true, "fa8f30d94ac94f28ae47e791fba155e5edfc6e865d614bd0d5172baa7f3ee159"), looks := true }, kinds := [], alts := [], laidByText := true, laidKinds := [.sentinel, .sentinel, .sentinel, .sentinel, .sentinel, .sentinel, .sentinel, .sentinel, .sentinel, .sentinel, .sentinel, .sentinel, .sentinel, .sentinel, .sentinel, .sentinel, .sentinel], laidTests := true, laidLooks := .later }
def LexScansUptoCardSaid : Prop := Claim7.holds Tryd.pinned (.plain (OpenSpec.upto lexScansSpec)) lexScansUptoCard

/-- THE SECOND FORM's CARD OF 'smithylaw4.LexSpaces'. -/
def lexSpacesUptoCard : Claim7 := { stood := { row := lexSpacesUptoRow, standIns := [], harness := (true, "fa8f30d94ac94f28ae47e791fba155e5edfc6e865d614bd0d5172baa7f3ee159"), looks := true }, kinds := [], alts := [], laidByText := true, laidKinds := [.sentinel, .sentinel], laidTests := true, laidLooks := .later }
def LexSpacesUptoCardSaid : Prop := Claim7.holds Tryd.pinned (.plain (OpenSpec.upto lexSpacesSpec)) lexSpacesUptoCard

/-- THE SECOND FORM's CARD OF 'smithylaw4.LexBlocks'. -/
def lexBlocksUptoCard : Claim7 := { stood := { row := lexBlocksUptoRow, standIns := [], harness := (true, "fa8f30d94ac94f28ae47e791fba155e5edfc6e865d614bd0d5172baa7f3ee159"), looks := true }, kinds := [], alts := [], laidByText := true, laidKinds := [.sentinel, .sentinel], laidTests := true, laidLooks := .later }
def LexBlocksUptoCardSaid : Prop := Claim7.holds Tryd.pinned (.plain (OpenSpec.upto lexBlocksSpec)) lexBlocksUptoCard

/-- THE SECOND FORM's CARD OF 'smithylaw4.LexNumbers'. -/
def lexNumbersUptoCard : Claim7 := { stood := { row := lexNumbersUptoRow, standIns := [], harness := (true, "fa8f30d94ac94f28ae47e791fba155e5edfc6e865d614bd0d5172baa7f3ee159"), looks := true }, kinds := [], alts := [], laidByText := true, laidKinds := [.sentinel, .sentinel, .sentinel, .sentinel, .sentinel, .sentinel, .sentinel, .sentinel, .sentinel, .sentinel, .sentinel, .sentinel, .sentinel, .sentinel, .sentinel, .sentinel, .sentinel], laidTests := true, laidLooks := .later }
def LexNumbersUptoCardSaid : Prop := Claim7.holds Tryd.pinned (.plain (OpenSpec.upto lexNumbersSpec)) lexNumbersUptoCard

/-- THE SECOND FORM's CARD OF 'smithylaw4.LexBrackets'. -/
def lexBracketsUptoCard : Claim7 := { stood := { row := lexBracketsUptoRow, standIns := [], harness := (true, "fa8f30d94ac94f28ae47e791fba155e5edfc6e865d614bd0d5172baa7f3ee159"), looks := true }, kinds := [], alts := [], laidByText := true, laidKinds := [.sentinel, .sentinel, .sentinel, .sentinel, .sentinel, .sentinel, .sentinel, .sentinel, .sentinel, .sentinel, .sentinel, .sentinel, .sentinel, .sentinel, .sentinel, .sentinel, .sentinel], laidTests := true, laidLooks := .later }
def LexBracketsUptoCardSaid : Prop := Claim7.holds Tryd.pinned (.plain (OpenSpec.upto lexBracketsSpec)) lexBracketsUptoCard

/-- THE SECOND FORM's CARD OF 'smithylaw4.LexQuotes'. -/
def lexQuotesUptoCard : Claim7 := { stood := { row := lexQuotesUptoRow, standIns := [], harness := (true, "fa8f30d94ac94f28ae47e791fba155e5edfc6e865d614bd0d5172baa7f3ee159"), looks := true }, kinds := [], alts := [], laidByText := true, laidKinds := [.sentinel, .sentinel], laidTests := true, laidLooks := .later }
def LexQuotesUptoCardSaid : Prop := Claim7.holds Tryd.pinned (.plain (OpenSpec.upto lexQuotesSpec)) lexQuotesUptoCard

/-- THE SECOND FORM's CARD OF 'smithylaw4.LexNames'. -/
def lexNamesUptoCard : Claim7 := { stood := { row := lexNamesUptoRow, standIns := [], harness := (true, "fa8f30d94ac94f28ae47e791fba155e5edfc6e865d614bd0d5172baa7f3ee159"), looks := true }, kinds := [], alts := [], laidByText := true, laidKinds := [.sentinel, .sentinel], laidTests := true, laidLooks := .later }
def LexNamesUptoCardSaid : Prop := Claim7.holds Tryd.pinned (.plain (OpenSpec.upto lexNamesSpec)) lexNamesUptoCard

/-- THE SECOND FORM's CARD OF 'smithylaw5.AstRows'. -/
def astRowsUptoCard : Claim7 := { stood := { row := astRowsUptoRow, standIns := [], harness := (true, "fa8f30d94ac94f28ae47e791fba155e5edfc6e865d614bd0d5172baa7f3ee159"), looks := true }, kinds := [], alts := [], laidByText := true, laidKinds := [.sentinel, .sentinel], laidTests := true, laidLooks := .later }
def AstRowsUptoCardSaid : Prop := Claim7.holds Tryd.pinned (.plain (OpenSpec.upto astRowsSpec)) astRowsUptoCard
end Rows
end Go.Proofs.YtggoogbloaennaaDoor
