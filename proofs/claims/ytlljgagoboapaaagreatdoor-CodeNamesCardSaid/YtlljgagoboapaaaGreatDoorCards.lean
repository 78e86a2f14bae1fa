/-
  DERIVED. GIVEN WITH THE SEED: THE CARDS: each row of YtlljgagoboapaaaGreatDoorRows.lean that lists a variable, with what it lists TIED to the program's text (the seventh form; the later family's looks); each row that meets fmt, with fmt's text TOLD by the authors' own Lean function (tested against real Go, not proved from fmt's source: count such statements apart). THE CARD IS WHAT COUNTS. Prove the row's statement (the work); the ties are given (YtlljgagoboapaaaGreatDoorTie.lean); close each card by the builder's one call (the guide's Derived/Test/ToyasCard.lean, 'card_holds'). Laid BY PROGRAM, IN A SANDBOX (cutbox-door.mjs). By AI agents, Wed Nov 11 2026. No macro, syntax, notation, axiom, sorry.
-/
import Derived.Test.YtlljgagoboapaaaGreatDoorRows
import GoSem.ClaimSeven
namespace Go.Proofs.YtlljgagoboapaaaGreatDoor
namespace Rows

/-- THE TIED CARD OF 'smithylaw10.ValDeep'. -/
def valDeepCard : Claim7 := { stood := { row := valDeepRow, standIns := [], harness := (true, "72afdb5a9e41bfcc49b7e764097d20dd14144b339c7e433866bf733b0ca50ea2"), looks := true }, kinds := [], alts := [], laidByText := true, laidKinds := [.data, .data, .data, .sentinel, .sentinel, .sentinel, .sentinel, .sentinel, .sentinel, .sentinel, .sentinel, .sentinel, .sentinel, .sentinel, .sentinel, .sentinel, .sentinel, .sentinel, .sentinel, .sentinel], laidTests := true, laidLooks := .later }
def ValDeepCardSaid : Prop := Claim7.holds Tryz.pinned (.plain (OpenSpec.ofChange valDeepSpec)) valDeepCard

/-- THE TIED CARD OF 'smithylaw10.ValFreezes'. -/
def valFreezesCard : Claim7 := { stood := { row := valFreezesRow, standIns := [], harness := (true, "72afdb5a9e41bfcc49b7e764097d20dd14144b339c7e433866bf733b0ca50ea2"), looks := true }, kinds := [], alts := [], laidByText := true, laidKinds := [.data, .data, .data, .sentinel, .sentinel, .sentinel, .sentinel, .sentinel, .sentinel, .sentinel, .sentinel, .sentinel, .sentinel, .sentinel, .sentinel, .sentinel, .sentinel, .sentinel, .sentinel, .sentinel], laidTests := true, laidLooks := .later }
def ValFreezesCardSaid : Prop := Claim7.holds Tryz.pinned (.plain (OpenSpec.ofChange valFreezesSpec)) valFreezesCard

/-- THE TIED CARD OF 'smithylaw15.CodeNames'. -/
def codeNamesCard : Claim7 := { stood := { row := codeNamesRow, standIns := [], harness := (true, "72afdb5a9e41bfcc49b7e764097d20dd14144b339c7e433866bf733b0ca50ea2"), looks := true }, kinds := [], alts := [], laidByText := true, laidKinds := [.sentinel, .sentinel, .sentinel, .sentinel, .sentinel, .sentinel], laidTests := true, laidLooks := .later }
def CodeNamesCardSaid : Prop := Claim7.holds Tryz.pinned (.plain (OpenSpec.ofChange codeNamesSpec)) codeNamesCard

/-- THE SECOND FORM's CARD OF 'smithylaw10.ValDeep'. -/
def valDeepUptoCard : Claim7 := { stood := { row := valDeepUptoRow, standIns := [], harness := (true, "72afdb5a9e41bfcc49b7e764097d20dd14144b339c7e433866bf733b0ca50ea2"), looks := true }, kinds := [], alts := [], laidByText := true, laidKinds := [.data, .data, .data, .sentinel, .sentinel, .sentinel, .sentinel, .sentinel, .sentinel, .sentinel, .sentinel, .sentinel, .sentinel, .sentinel, .sentinel, .sentinel, .sentinel, .sentinel, .sentinel, .sentinel], laidTests := true, laidLooks := .later }
def ValDeepUptoCardSaid : Prop := Claim7.holds Tryz.pinned (.plain (OpenSpec.upto valDeepSpec)) valDeepUptoCard

/-- THE SECOND FORM's CARD OF 'smithylaw10.ValFreezes'. -/
def valFreezesUptoCard : Claim7 := { stood := { row := valFreezesUptoRow, standIns := [], harness := (true, "72afdb5a9e41bfcc49b7e764097d20dd14144b339c7e433866bf733b0ca50ea2"), looks := true }, kinds := [], alts := [], laidByText := true, laidKinds := [.data, .data, .data, .sentinel, .sentinel, .sentinel, .sentinel, .sentinel, .sentinel, .sentinel, .sentinel, .sentinel, .sentinel, .sentinel, .sentinel, .sentinel, .sentinel, .sentinel, .sentinel, .sentinel], laidTests := true, laidLooks := .later }
def ValFreezesUptoCardSaid : Prop := Claim7.holds Tryz.pinned (.plain (OpenSpec.upto valFreezesSpec)) valFreezesUptoCard

/-- THE SECOND FORM's CARD OF 'smithylaw15.CodeNames'. -/
def codeNamesUptoCard : Claim7 := { stood := { row := codeNamesUptoRow, standIns := [], harness := (true, "72afdb5a9e41bfcc49b7e764097d20dd14144b339c7e433866bf733b0ca50ea2"), looks := true }, kinds := [], alts := [], laidByText := true, laidKinds := [.sentinel, .sentinel, .sentinel, .sentinel, .sentinel, .sentinel], laidTests := true, laidLooks := .later }
def CodeNamesUptoCardSaid : Prop := Claim7.holds Tryz.pinned (.plain (OpenSpec.upto codeNamesSpec)) codeNamesUptoCard
end Rows
end Go.Proofs.YtlljgagoboapaaaGreatDoor
