/-
  DERIVED. GIVEN WITH THE SEED: THE CARDS: each row of YtljaoofbklkglaaDoorRows.lean that lists a variable, with what it lists TIED to the program's text (the seventh form; the later family's looks); each row that meets fmt, with fmt's text TOLD by the authors' own Lean function (tested against real Go, not proved from fmt's source: count such statements apart). THE CARD IS WHAT COUNTS. Prove the row's statement (the work); the ties are given (YtljaoofbklkglaaDoorTie.lean); close each card by the builder's one call (the guide's Derived/Test/ToyasCard.lean, 'card_holds'). Laid BY PROGRAM, IN A SANDBOX (cutbox-door.mjs). By AI agents, Wed Nov 11 2026. No macro, syntax, notation, axiom, sorry.
-/
import Derived.Test.YtljaoofbklkglaaDoorRows
import GoSem.ClaimSeven
namespace Go.Proofs.YtljaoofbklkglaaDoor
namespace Rows

/-- THE TIED CARD OF 'smithylaw5.AstRows'. -/
def astRowsCard : Claim7 := { stood := { row := astRowsRow, standIns := [], harness := (true, "83e84d6e61d60686910f337e71088d65442ac59f03a15fbcce745beefbd32ae0"), looks := false }, kinds := [], alts := [], laidByText := true, laidKinds := [.sentinel, .sentinel], laidTests := true, laidLooks := .later }
def AstRowsCardSaid : Prop := Claim7.holds Tryd.pinned (.plain (OpenSpec.ofChange astRowsSpec)) astRowsCard

/-- THE SECOND FORM's CARD OF 'smithylaw5.AstRows'. -/
def astRowsUptoCard : Claim7 := { stood := { row := astRowsUptoRow, standIns := [], harness := (true, "83e84d6e61d60686910f337e71088d65442ac59f03a15fbcce745beefbd32ae0"), looks := false }, kinds := [], alts := [], laidByText := true, laidKinds := [.sentinel, .sentinel], laidTests := true, laidLooks := .later }
def AstRowsUptoCardSaid : Prop := Claim7.holds Tryd.pinned (.plain (OpenSpec.upto astRowsSpec)) astRowsUptoCard
end Rows
end Go.Proofs.YtljaoofbklkglaaDoor
