/-
  DERIVED. GIVEN WITH THE SEED: THE CARDS: each row of YtickdimknfeddaaGreatDoorRows.lean that lists a variable, with what it lists TIED to the program's text (the seventh form; the later family's looks); each row that meets fmt, with fmt's text TOLD by the authors' own Lean function (tested against real Go, not proved from fmt's source: count such statements apart). THE CARD IS WHAT COUNTS. Prove the row's statement (the work); the ties are given (YtickdimknfeddaaGreatDoorTie.lean); close each card by the builder's one call (the guide's Derived/Test/ToyasCard.lean, 'card_holds'). Laid BY PROGRAM, IN A SANDBOX (cutbox-door.mjs). By AI agents, Wed Nov 11 2026. No macro, syntax, notation, axiom, sorry.
-/
import Derived.Test.YtickdimknfeddaaGreatDoorRows
import GoSem.ClaimSeven
namespace Go.Proofs.YtickdimknfeddaaGreatDoor
namespace Rows

/-- THE TIED CARD OF 'smithylaw10.ValKeys'. -/
def valKeysCard : Claim7 := { stood := { row := valKeysRow, standIns := [], harness := (true, "026295e7161689235a8086927158b226f09e45ecfb7be70327613013dee5f539"), looks := true }, kinds := [], alts := [], laidByText := true, laidKinds := [.data, .data, .data, .sentinel, .sentinel, .sentinel, .sentinel, .sentinel, .sentinel, .sentinel, .sentinel, .sentinel, .sentinel, .sentinel, .sentinel, .sentinel, .sentinel, .sentinel, .sentinel, .sentinel], laidTests := true, laidLooks := .later }
def ValKeysCardSaid : Prop := Claim7.holds Tryz.pinned (.plain (OpenSpec.ofChange valKeysSpec)) valKeysCard

/-- THE TIED CARD OF 'smithylaw10.ValBack'. -/
def valBackCard : Claim7 := { stood := { row := valBackRow, standIns := [], harness := (true, "026295e7161689235a8086927158b226f09e45ecfb7be70327613013dee5f539"), looks := true }, kinds := [], alts := [], laidByText := true, laidKinds := [.data, .data, .data, .sentinel, .sentinel, .sentinel, .sentinel, .sentinel, .sentinel, .sentinel, .sentinel, .sentinel, .sentinel, .sentinel, .sentinel, .sentinel, .sentinel, .sentinel, .sentinel, .sentinel], laidTests := true, laidLooks := .later }
def ValBackCardSaid : Prop := Claim7.holds Tryz.pinned (.plain (OpenSpec.ofChange valBackSpec)) valBackCard

/-- THE SECOND FORM's CARD OF 'smithylaw10.ValKeys'. -/
def valKeysUptoCard : Claim7 := { stood := { row := valKeysUptoRow, standIns := [], harness := (true, "026295e7161689235a8086927158b226f09e45ecfb7be70327613013dee5f539"), looks := true }, kinds := [], alts := [], laidByText := true, laidKinds := [.data, .data, .data, .sentinel, .sentinel, .sentinel, .sentinel, .sentinel, .sentinel, .sentinel, .sentinel, .sentinel, .sentinel, .sentinel, .sentinel, .sentinel, .sentinel, .sentinel, .sentinel, .sentinel], laidTests := true, laidLooks := .later }
def ValKeysUptoCardSaid : Prop := Claim7.holds Tryz.pinned (.plain (OpenSpec.upto valKeysSpec)) valKeysUptoCard

/-- THE SECOND FORM's CARD OF 'smithylaw10.ValBack'. -/
def valBackUptoCard : Claim7 := { stood := { row := valBackUptoRow, standIns := [], harness := (true, "026295e7161689235a8086927158b226f09e45ecfb7be70327613013dee5f539"), looks := true }, kinds := [], alts := [], laidByText := true, laidKinds := [.data, .data, .data, .sentinel, .sentinel, .sentinel, .sentinel, .sentinel, .sentinel, .sentinel, .sentinel, .sentinel, .sentinel, .sentinel, .sentinel, .sentinel, .sentinel, .sentinel, .sentinel, .sentinel], laidTests := true, laidLooks := .later }
def ValBackUptoCardSaid : Prop := Claim7.holds Tryz.pinned (.plain (OpenSpec.upto valBackSpec)) valBackUptoCard
end Rows
end Go.Proofs.YtickdimknfeddaaGreatDoor
