/-
  DERIVED. GIVEN WITH THE SEED: THE CARDS: each row of YtifanilblkellaaGreatDoorRows.lean that lists a variable, with what it lists TIED to the program's text (the seventh form; the later family's looks); each row that meets fmt, with fmt's text TOLD by the authors' own Lean function (tested against real Go, not proved from fmt's source: count such statements apart). THE CARD IS WHAT COUNTS. Prove the row's statement (the work); the ties are given (YtifanilblkellaaGreatDoorTie.lean); close each card by the builder's one call (the guide's Derived/Test/ToyasCard.lean, 'card_holds'). Laid BY PROGRAM, IN A SANDBOX (cutbox-door.mjs). By AI agents, Wed Nov 11 2026. No macro, syntax, notation, axiom, sorry.
-/
import Derived.Test.YtifanilblkellaaGreatDoorRows
import GoSem.ClaimSeven
namespace Go.Proofs.YtifanilblkellaaGreatDoor
namespace Rows

/-- THE TIED CARD OF 'smithylaw10.ValDicts'. -/
def valDictsCard : Claim7 := { stood := { row := valDictsRow, standIns := [], harness := (true, "464bc1375f94d1425db477e1f1b281c545f61001f804115c715b9e858d713715"), looks := true }, kinds := [], alts := [], laidByText := true, laidKinds := [.data, .data, .data, .sentinel, .sentinel, .sentinel, .sentinel, .sentinel, .sentinel, .sentinel, .sentinel, .sentinel, .sentinel, .sentinel, .sentinel, .sentinel, .sentinel, .sentinel, .sentinel, .sentinel], laidTests := true, laidLooks := .later }
def ValDictsCardSaid : Prop := Claim7.holds Tryz.pinned (.plain (OpenSpec.ofChange valDictsSpec)) valDictsCard

/-- THE TIED CARD OF 'smithylaw10.ValStructs'. -/
def valStructsCard : Claim7 := { stood := { row := valStructsRow, standIns := [], harness := (true, "464bc1375f94d1425db477e1f1b281c545f61001f804115c715b9e858d713715"), looks := true }, kinds := [], alts := [], laidByText := true, laidKinds := [.data, .data, .data, .sentinel, .sentinel, .sentinel, .sentinel, .sentinel, .sentinel, .sentinel, .sentinel, .sentinel, .sentinel, .sentinel, .sentinel, .sentinel, .sentinel, .sentinel, .sentinel, .sentinel], laidTests := true, laidLooks := .later }
def ValStructsCardSaid : Prop := Claim7.holds Tryz.pinned (.plain (OpenSpec.ofChange valStructsSpec)) valStructsCard

/-- THE SECOND FORM's CARD OF 'smithylaw10.ValDicts'. -/
def valDictsUptoCard : Claim7 := { stood := { row := valDictsUptoRow, standIns := [], harness := (true, "464bc1375f94d1425db477e1f1b281c545f61001f804115c715b9e858d713715"), looks := true }, kinds := [], alts := [], laidByText := true, laidKinds := [.data, .data, .data, .sentinel, .sentinel, .sentinel, .sentinel, .sentinel, .sentinel, .sentinel, .sentinel, .sentinel, .sentinel, .sentinel, .sentinel, .sentinel, .sentinel, .sentinel, .sentinel, .sentinel], laidTests := true, laidLooks := .later }
def ValDictsUptoCardSaid : Prop := Claim7.holds Tryz.pinned (.plain (OpenSpec.upto valDictsSpec)) valDictsUptoCard

/-- THE SECOND FORM's CARD OF 'smithylaw10.ValStructs'. -/
def valStructsUptoCard : Claim7 := { stood := { row := valStructsUptoRow, standIns := [], harness := (true, "464bc1375f94d1425db477e1f1b281c545f61001f804115c715b9e858d713715"), looks := true }, kinds := [], alts := [], laidByText := true, laidKinds := [.data, .data, .data, .sentinel, .sentinel, .sentinel, .sentinel, .sentinel, .sentinel, .sentinel, .sentinel, .sentinel, .sentinel, .sentinel, .sentinel, .sentinel, .sentinel, .sentinel, .sentinel, .sentinel], laidTests := true, laidLooks := .later }
def ValStructsUptoCardSaid : Prop := Claim7.holds Tryz.pinned (.plain (OpenSpec.upto valStructsSpec)) valStructsUptoCard
end Rows
end Go.Proofs.YtifanilblkellaaGreatDoor
