/-
  DERIVED. GIVEN WITH THE SEED: THE CARDS: each row of YtgijpgkckiknjaaGreatDoorRows.lean that lists a variable, with what it lists TIED to the program's text (the seventh form; the later family's looks); each row that meets fmt, with fmt's text TOLD by the authors' own Lean function (tested against real Go, not proved from fmt's source: count such statements apart). THE CARD IS WHAT COUNTS. Prove the row's statement (the work); the ties are given (YtgijpgkckiknjaaGreatDoorTie.lean); close each card by the builder's one call (the guide's Derived/Test/ToyasCard.lean, 'card_holds'). Laid BY PROGRAM, IN A SANDBOX (cutbox-door.mjs). By AI agents, Wed Nov 11 2026. No macro, syntax, notation, axiom, sorry.
-/
import Derived.Test.YtgijpgkckiknjaaGreatDoorRows
import GoSem.ClaimSeven
namespace Go.Proofs.YtgijpgkckiknjaaGreatDoor
namespace Rows

/-- THE TIED CARD OF 'smithylaw15.CodeTrees'. -/
def codeTreesCard : Claim7 := { stood := { row := codeTreesRow, standIns := [], harness := (true, "1428091cdb6e3509866267e3514e18ec06f11637bb601bac4b4ba65518029398"), looks := true }, kinds := [], alts := [], laidByText := true, laidKinds := [.sentinel, .sentinel, .sentinel, .sentinel, .sentinel, .sentinel, .sentinel, .sentinel, .sentinel, .sentinel, .sentinel, .sentinel, .sentinel, .sentinel, .sentinel, .sentinel, .sentinel], laidTests := true, laidLooks := .later }
def CodeTreesCardSaid : Prop := Claim7.holds Tryz.pinned (.plain (OpenSpec.ofChange codeTreesSpec)) codeTreesCard

/-- THE TIED CARD OF 'smithylaw15.CodeBent'. -/
def codeBentCard : Claim7 := { stood := { row := codeBentRow, standIns := [], harness := (true, "1428091cdb6e3509866267e3514e18ec06f11637bb601bac4b4ba65518029398"), looks := true }, kinds := [], alts := [], laidByText := true, laidKinds := [.sentinel, .sentinel, .sentinel, .sentinel, .sentinel, .sentinel, .sentinel, .sentinel, .sentinel, .sentinel, .sentinel, .sentinel, .sentinel, .sentinel, .sentinel, .sentinel, .sentinel], laidTests := true, laidLooks := .later }
def CodeBentCardSaid : Prop := Claim7.holds Tryz.pinned (.plain (OpenSpec.ofChange codeBentSpec)) codeBentCard

/-- THE TIED CARD OF 'smithylaw15.CodeChecks'. -/
def codeChecksCard : Claim7 := { stood := { row := codeChecksRow, standIns := [], harness := (true, "1428091cdb6e3509866267e3514e18ec06f11637bb601bac4b4ba65518029398"), looks := true }, kinds := [], alts := [], laidByText := true, laidKinds := [.sentinel, .sentinel, .sentinel, .sentinel, .sentinel, .sentinel, .sentinel, .sentinel, .sentinel, .sentinel, .sentinel, .sentinel, .sentinel, .sentinel, .sentinel, .sentinel, .sentinel], laidTests := true, laidLooks := .later }
def CodeChecksCardSaid : Prop := Claim7.holds Tryz.pinned (.plain (OpenSpec.ofChange codeChecksSpec)) codeChecksCard

/-- THE TIED CARD OF 'smithylaw15.CodeCompiles'. -/
def codeCompilesCard : Claim7 := { stood := { row := codeCompilesRow, standIns := [], harness := (true, "1428091cdb6e3509866267e3514e18ec06f11637bb601bac4b4ba65518029398"), looks := true }, kinds := [], alts := [], laidByText := true, laidKinds := [.sentinel, .sentinel, .sentinel, .sentinel, .sentinel, .sentinel, .sentinel, .sentinel, .sentinel, .sentinel, .sentinel, .sentinel, .sentinel, .sentinel, .sentinel, .sentinel, .sentinel], laidTests := true, laidLooks := .later }
def CodeCompilesCardSaid : Prop := Claim7.holds Tryz.pinned (.plain (OpenSpec.ofChange codeCompilesSpec)) codeCompilesCard

/-- THE TIED CARD OF 'smithylaw15.CodeCut'. -/
def codeCutCard : Claim7 := { stood := { row := codeCutRow, standIns := [], harness := (true, "1428091cdb6e3509866267e3514e18ec06f11637bb601bac4b4ba65518029398"), looks := true }, kinds := [], alts := [], laidByText := true, laidKinds := [.sentinel, .sentinel, .sentinel, .sentinel, .sentinel, .sentinel, .sentinel, .sentinel, .sentinel, .sentinel, .sentinel, .sentinel, .sentinel, .sentinel, .sentinel, .sentinel, .sentinel], laidTests := true, laidLooks := .later }
def CodeCutCardSaid : Prop := Claim7.holds Tryz.pinned (.plain (OpenSpec.ofChange codeCutSpec)) codeCutCard

/-- THE TIED CARD OF 'smithylaw15.CodeBytes'. -/
def codeBytesCard : Claim7 := { stood := { row := codeBytesRow, standIns := [], harness := (true, "1428091cdb6e3509866267e3514e18ec06f11637bb601bac4b4ba65518029398"), looks := true }, kinds := [], alts := [], laidByText := true, laidKinds := [.sentinel, .sentinel, .sentinel, .sentinel, .sentinel, .sentinel, .sentinel, .sentinel, .sentinel, .sentinel, .sentinel, .sentinel, .sentinel, .sentinel, .sentinel, .sentinel, .sentinel], laidTests := true, laidLooks := .later }
def CodeBytesCardSaid : Prop := Claim7.holds Tryz.pinned (.plain (OpenSpec.ofChange codeBytesSpec)) codeBytesCard

/-- THE SECOND FORM's CARD OF 'smithylaw15.CodeTrees'. -/
def codeTreesUptoCard : Claim7 := { stood := { row := codeTreesUptoRow, standIns := [], harness := (true, "1428091cdb6e3509866267e3514e18ec06f11637bb601bac4b4ba65518029398"), looks := true }, kinds := [], alts := [], laidByText := true, laidKinds := [.sentinel, .sentinel, .sentinel, .sentinel, .sentinel, .sentinel, .sentinel, .sentinel, .sentinel, .sentinel, .sentinel, .sentinel, .sentinel, .sentinel, .sentinel, .sentinel, .sentinel], laidTests := true, laidLooks := .later }
def CodeTreesUptoCardSaid : Prop := Claim7.holds Tryz.pinned (.plain (OpenSpec.upto codeTreesSpec)) codeTreesUptoCard

/-- THE SECOND FORM's CARD OF 'smithylaw15.CodeBent'. -/
def codeBentUptoCard : Claim7 := { stood := { row := codeBentUptoRow, standIns := [], harness := (true, "1428091cdb6e3509866267e3514e18ec06f11637bb601bac4b4ba65518029398"), looks := true }, kinds := [], alts := [], laidByText := true, laidKinds := [.sentinel, .sentinel, .sentinel, .sentinel, .sentinel, .sentinel, .sentinel, .sentinel, .sentinel, .sentinel, .sentinel, .sentinel, .sentinel, .sentinel, .sentinel, .sentinel, .sentinel], laidTests := true, laidLooks := .later }
def CodeBentUptoCardSaid : Prop := Claim7.holds Tryz.pinned (.plain (OpenSpec.upto codeBentSpec)) codeBentUptoCard

/-- THE SECOND FORM's CARD OF 'smithylaw15.CodeChecks'. -/
def codeChecksUptoCard : Claim7 := { stood := { row := codeChecksUptoRow, standIns := [], harness := (true, "1428091cdb6e3509866267e3514e18ec06f11637bb601bac4b4ba65518029398"), looks := true }, kinds := [], alts := [], laidByText := true, laidKinds := [.sentinel, .sentinel, .sentinel, .sentinel, .sentinel, .sentinel, .sentinel, .sentinel, .sentinel, .sentinel, .sentinel, .sentinel, .sentinel, .sentinel, .sentinel, .sentinel, .sentinel], laidTests := true, laidLooks := .later }
def CodeChecksUptoCardSaid : Prop := Claim7.holds Tryz.pinned (.plain (OpenSpec.upto codeChecksSpec)) codeChecksUptoCard

/-- THE SECOND FORM's CARD OF 'smithylaw15.CodeCompiles'. -/
def codeCompilesUptoCard : Claim7 := { stood := { row := codeCompilesUptoRow, standIns := [], harness := (true, "1428091cdb6e3509866267e3514e18ec06f11637bb601bac4b4ba65518029398"), looks := true }, kinds := [], alts := [], laidByText := true, laidKinds := [.sentinel, .sentinel, .sentinel, .sentinel, .sentinel, .sentinel, .sentinel, .sentinel, .sentinel, .sentinel, .sentinel, .sentinel, .sentinel, .sentinel, .sentinel, .sentinel, .sentinel], laidTests := true, laidLooks := .later }
def CodeCompilesUptoCardSaid : Prop := Claim7.holds Tryz.pinned (.plain (OpenSpec.upto codeCompilesSpec)) codeCompilesUptoCard

/-- THE SECOND FORM's CARD OF 'smithylaw15.CodeCut'. -/
def codeCutUptoCard : Claim7 := { stood := { row := codeCutUptoRow, standIns := [], harness := (true, "1428091cdb6e3509866267e3514e18ec06f11637bb601bac4b4ba65518029398"), looks := true }, kinds := [], alts := [], laidByText := true, laidKinds := [.sentinel, .sentinel, .sentinel, .sentinel, .sentinel, .sentinel, .sentinel, .sentinel, .sentinel, .sentinel, .sentinel, .sentinel, .sentinel, .sentinel, .sentinel, .sentinel, .sentinel], laidTests := true, laidLooks := .later }
def CodeCutUptoCardSaid : Prop := Claim7.holds Tryz.pinned (.plain (OpenSpec.upto codeCutSpec)) codeCutUptoCard

/-- THE SECOND FORM's CARD OF 'smithylaw15.CodeBytes'. -/
def codeBytesUptoCard : Claim7 := { stood := { row := codeBytesUptoRow, standIns := [], harness := (true, "1428091cdb6e3509866267e3514e18ec06f11637bb601bac4b4ba65518029398"), looks := true }, kinds := [], alts := [], laidByText := true, laidKinds := [.sentinel, .sentinel, .sentinel, .sentinel, .sentinel, .sentinel, .sentinel, .sentinel, .sentinel, .sentinel, .sentinel, .sentinel, .sentinel, .sentinel, .sentinel, .sentinel, .sentinel], laidTests := true, laidLooks := .later }
def CodeBytesUptoCardSaid : Prop := Claim7.holds Tryz.pinned (.plain (OpenSpec.upto codeBytesSpec)) codeBytesUptoCard
end Rows
end Go.Proofs.YtgijpgkckiknjaaGreatDoor
