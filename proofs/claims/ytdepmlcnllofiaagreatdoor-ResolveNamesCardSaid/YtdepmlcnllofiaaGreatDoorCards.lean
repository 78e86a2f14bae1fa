/-
  DERIVED. GIVEN WITH THE SEED: THE CARDS: each row of YtdepmlcnllofiaaGreatDoorRows.lean that lists a variable, with what it lists TIED to the program's text (the seventh form; the later family's looks); each row that meets fmt, with fmt's text TOLD by the authors' own Lean function (tested against real Go, not proved from fmt's source: count such statements apart). THE CARD IS WHAT COUNTS. Prove the row's statement (the work); the ties are given (YtdepmlcnllofiaaGreatDoorTie.lean); close each card by the builder's one call (the guide's Derived/Test/ToyasCard.lean, 'card_holds'). Laid BY PROGRAM, IN A SANDBOX (cutbox-door.mjs). By AI agents, Wed Nov 11 2026. No macro, syntax, notation, axiom, sorry.
-/
import Derived.Test.YtdepmlcnllofiaaGreatDoorRows
import GoSem.ClaimSeven
namespace Go.Proofs.YtdepmlcnllofiaaGreatDoor
namespace Rows

/-- THE TIED CARD OF 'smithylaw6.ParseValid'. -/
def parseValidCard : Claim7 := { stood := { row := parseValidRow, standIns := [], harness := (true, "f2c05d0d9ca0854589f13fda98127e6738d02716aae50efe96b35a3d8cb94358"), looks := true }, kinds := [], alts := [], laidByText := true, laidKinds := [.sentinel, .sentinel, .sentinel, .sentinel, .sentinel], laidTests := true, laidLooks := .later }
def ParseValidCardSaid : Prop := Claim7.holds Tryz.pinned (.plain (OpenSpec.ofChange parseValidSpec)) parseValidCard

/-- THE TIED CARD OF 'smithylaw6.ParseDeep'. -/
def parseDeepCard : Claim7 := { stood := { row := parseDeepRow, standIns := [], harness := (true, "f2c05d0d9ca0854589f13fda98127e6738d02716aae50efe96b35a3d8cb94358"), looks := true }, kinds := [], alts := [], laidByText := true, laidKinds := [.sentinel, .sentinel, .sentinel, .sentinel, .sentinel, .sentinel, .sentinel, .sentinel, .sentinel, .sentinel, .sentinel, .sentinel, .sentinel, .sentinel, .sentinel, .sentinel, .sentinel], laidTests := true, laidLooks := .later }
def ParseDeepCardSaid : Prop := Claim7.holds Tryz.pinned (.plain (OpenSpec.ofChange parseDeepSpec)) parseDeepCard

/-- THE TIED CARD OF 'smithylaw7.ShowPairs'. -/
def showPairsCard : Claim7 := { stood := { row := showPairsRow, standIns := [], harness := (true, "f2c05d0d9ca0854589f13fda98127e6738d02716aae50efe96b35a3d8cb94358"), looks := true }, kinds := [], alts := [], laidByText := true, laidKinds := [.sentinel, .sentinel, .sentinel, .sentinel, .sentinel, .sentinel, .sentinel, .sentinel, .sentinel, .sentinel, .sentinel, .sentinel, .sentinel, .sentinel, .sentinel, .sentinel, .sentinel], laidTests := true, laidLooks := .later }
def ShowPairsCardSaid : Prop := Claim7.holds Tryz.pinned (.plain (OpenSpec.ofChange showPairsSpec)) showPairsCard

/-- THE TIED CARD OF 'smithylaw8.ResolveText'. -/
def resolveTextCard : Claim7 := { stood := { row := resolveTextRow, standIns := [], harness := (true, "f2c05d0d9ca0854589f13fda98127e6738d02716aae50efe96b35a3d8cb94358"), looks := true }, kinds := [], alts := [], laidByText := true, laidKinds := [.sentinel, .sentinel, .sentinel, .sentinel, .sentinel, .sentinel, .sentinel, .sentinel, .sentinel, .sentinel, .sentinel, .sentinel, .sentinel, .sentinel, .sentinel, .sentinel, .sentinel], laidTests := true, laidLooks := .later }
def ResolveTextCardSaid : Prop := Claim7.holds Tryz.pinned (.plain (OpenSpec.ofChange resolveTextSpec)) resolveTextCard

/-- THE TIED CARD OF 'smithylaw8.ResolveNames'. -/
def resolveNamesCard : Claim7 := { stood := { row := resolveNamesRow, standIns := [], harness := (true, "f2c05d0d9ca0854589f13fda98127e6738d02716aae50efe96b35a3d8cb94358"), looks := true }, kinds := [], alts := [], laidByText := true, laidKinds := [.sentinel, .sentinel, .sentinel, .sentinel, .sentinel, .sentinel, .sentinel, .sentinel, .sentinel, .sentinel, .sentinel, .sentinel, .sentinel, .sentinel, .sentinel, .sentinel, .sentinel], laidTests := true, laidLooks := .later }
def ResolveNamesCardSaid : Prop := Claim7.holds Tryz.pinned (.plain (OpenSpec.ofChange resolveNamesSpec)) resolveNamesCard

/-- THE TIED CARD OF 'smithylaw8.ResolveComps'. -/
def resolveCompsCard : Claim7 := { stood := { row := resolveCompsRow, standIns := [], harness := (true, "f2c05d0d9ca0854589f13fda98127e6738d02716aae50efe96b35a3d8cb94358"), looks := true }, kinds := [], alts := [], laidByText := true, laidKinds := [.sentinel, .sentinel, .sentinel, .sentinel, .sentinel, .sentinel, .sentinel, .sentinel, .sentinel, .sentinel, .sentinel, .sentinel, .sentinel, .sentinel, .sentinel, .sentinel, .sentinel], laidTests := true, laidLooks := .later }
def ResolveCompsCardSaid : Prop := Claim7.holds Tryz.pinned (.plain (OpenSpec.ofChange resolveCompsSpec)) resolveCompsCard

/-- THE TIED CARD OF 'smithylaw7.ShowBack'. -/
def showBackCard : Claim7 := { stood := { row := showBackRow, standIns := [], harness := (true, "f2c05d0d9ca0854589f13fda98127e6738d02716aae50efe96b35a3d8cb94358"), looks := true }, kinds := [], alts := [], laidByText := true, laidKinds := [.sentinel, .sentinel, .sentinel, .sentinel, .sentinel, .sentinel, .sentinel, .sentinel, .sentinel, .sentinel, .sentinel, .sentinel, .sentinel, .sentinel, .sentinel, .sentinel, .sentinel], laidTests := true, laidLooks := .later }
def ShowBackCardSaid : Prop := Claim7.holds Tryz.pinned (.plain (OpenSpec.ofChange showBackSpec)) showBackCard

/-- THE SECOND FORM's CARD OF 'smithylaw6.ParseValid'. -/
def parseValidUptoCard : Claim7 := { stood := { row := parseValidUptoRow, standIns := [], harness := (true, "f2c05d0d9ca0854589f13fda98127e6738d02716aae50efe96b35a3d8cb94358"), looks := true }, kinds := [], alts := [], laidByText := true, laidKinds := [.sentinel, .sentinel, .sentinel, .sentinel, .sentinel], laidTests := true, laidLooks := .later }
def ParseValidUptoCardSaid : Prop := Claim7.holds Tryz.pinned (.plain (OpenSpec.upto parseValidSpec)) parseValidUptoCard

/-- THE SECOND FORM's CARD OF 'smithylaw6.ParseDeep'. -/
def parseDeepUptoCard : Claim7 := { stood := { row := parseDeepUptoRow, standIns := [], harness := (true, "f2c05d0d9ca0854589f13fda98127e6738d02716aae50efe96b35a3d8cb94358"), looks := true }, kinds := [], alts := [], laidByText := true, laidKinds := [.sentinel, .sentinel, .sentinel, .sentinel, .sentinel, .sentinel, .sentinel, .sentinel, .sentinel, .sentinel, .sentinel, .sentinel, .sentinel, .sentinel, .sentinel, .sentinel, .sentinel], laidTests := true, laidLooks := .later }
def ParseDeepUptoCardSaid : Prop := Claim7.holds Tryz.pinned (.plain (OpenSpec.upto parseDeepSpec)) parseDeepUptoCard

/-- THE SECOND FORM's CARD OF 'smithylaw7.ShowPairs'. -/
def showPairsUptoCard : Claim7 := { stood := { row := showPairsUptoRow, standIns := [], harness := (true, "f2c05d0d9ca0854589f13fda98127e6738d02716aae50efe96b35a3d8cb94358"), looks := true }, kinds := [], alts := [], laidByText := true, laidKinds := [.sentinel, .sentinel, .sentinel, .sentinel, .sentinel, .sentinel, .sentinel, .sentinel, .sentinel, .sentinel, .sentinel, .sentinel, .sentinel, .sentinel, .sentinel, .sentinel, .sentinel], laidTests := true, laidLooks := .later }
def ShowPairsUptoCardSaid : Prop := Claim7.holds Tryz.pinned (.plain (OpenSpec.upto showPairsSpec)) showPairsUptoCard

/-- THE SECOND FORM's CARD OF 'smithylaw8.ResolveText'. -/
def resolveTextUptoCard : Claim7 := { stood := { row := resolveTextUptoRow, standIns := [], harness := (true, "f2c05d0d9ca0854589f13fda98127e6738d02716aae50efe96b35a3d8cb94358"), looks := true }, kinds := [], alts := [], laidByText := true, laidKinds := [.sentinel, .sentinel, .sentinel, .sentinel, .sentinel, .sentinel, .sentinel, .sentinel, .sentinel, .sentinel, .sentinel, .sentinel, .sentinel, .sentinel, .sentinel, .sentinel, .sentinel], laidTests := true, laidLooks := .later }
def ResolveTextUptoCardSaid : Prop := Claim7.holds Tryz.pinned (.plain (OpenSpec.upto resolveTextSpec)) resolveTextUptoCard

/-- THE SECOND FORM's CARD OF 'smithylaw8.ResolveNames'. -/
def resolveNamesUptoCard : Claim7 := { stood := { row := resolveNamesUptoRow, standIns := [], harness := (true, "f2c05d0d9ca0854589f13fda98127e6738d02716aae50efe96b35a3d8cb94358"), looks := true }, kinds := [], alts := [], laidByText := true, laidKinds := [.sentinel, .sentinel, .sentinel, .sentinel, .sentinel, .sentinel, .sentinel, .sentinel, .sentinel, .sentinel, .sentinel, .sentinel, .sentinel, .sentinel, .sentinel, .sentinel, .sentinel], laidTests := true, laidLooks := .later }
def ResolveNamesUptoCardSaid : Prop := Claim7.holds Tryz.pinned (.plain (OpenSpec.upto resolveNamesSpec)) resolveNamesUptoCard

/-- THE SECOND FORM's CARD OF 'smithylaw8.ResolveComps'. -/
def resolveCompsUptoCard : Claim7 := { stood := { row := resolveCompsUptoRow, standIns := [], harness := (true, "f2c05d0d9ca0854589f13fda98127e6738d02716aae50efe96b35a3d8cb94358"), looks := true }, kinds := [], alts := [], laidByText := true, laidKinds := [.sentinel, .sentinel, .sentinel, .sentinel, .sentinel, .sentinel, .sentinel, .sentinel, .sentinel, .sentinel, .sentinel, .sentinel, .sentinel, .sentinel, .sentinel, .sentinel, .sentinel], laidTests := true, laidLooks := .later }
def ResolveCompsUptoCardSaid : Prop := Claim7.holds Tryz.pinned (.plain (OpenSpec.upto resolveCompsSpec)) resolveCompsUptoCard

/-- THE SECOND FORM's CARD OF 'smithylaw7.ShowBack'. -/
def showBackUptoCard : Claim7 := { stood := { row := showBackUptoRow, standIns := [], harness := (true, "f2c05d0d9ca0854589f13fda98127e6738d02716aae50efe96b35a3d8cb94358"), looks := true }, kinds := [], alts := [], laidByText := true, laidKinds := [.sentinel, .sentinel, .sentinel, .sentinel, .sentinel, .sentinel, .sentinel, .sentinel, .sentinel, .sentinel, .sentinel, .sentinel, .sentinel, .sentinel, .sentinel, .sentinel, .sentinel], laidTests := true, laidLooks := .later }
def ShowBackUptoCardSaid : Prop := Claim7.holds Tryz.pinned (.plain (OpenSpec.upto showBackSpec)) showBackUptoCard
end Rows
end Go.Proofs.YtdepmlcnllofiaaGreatDoor
