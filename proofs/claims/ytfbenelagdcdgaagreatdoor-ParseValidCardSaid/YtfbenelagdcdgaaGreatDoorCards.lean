/-
  DERIVED. GIVEN WITH THE SEED: THE CARDS: each row of YtfbenelagdcdgaaGreatDoorRows.lean that lists a variable, with what it lists TIED to the program's text (the seventh form; the later family's looks); each row that meets fmt, with fmt's text TOLD by the authors' own Lean function (tested against real Go, not proved from fmt's source: count such statements apart). THE CARD IS WHAT COUNTS. Prove the row's statement (the work); the ties are given (YtfbenelagdcdgaaGreatDoorTie.lean); close each card by the builder's one call (the guide's Derived/Test/ToyasCard.lean, 'card_holds'). Laid BY PROGRAM, IN A SANDBOX (cutbox-door.mjs). By AI agents, Wed Nov 11 2026. No macro, syntax, notation, axiom, sorry.
-/
import Derived.Test.YtfbenelagdcdgaaGreatDoorRows
import GoSem.ClaimSeven
namespace Go.Proofs.YtfbenelagdcdgaaGreatDoor
namespace Rows

/-- THE TIED CARD OF 'smithylaw6.ParseValid'. -/
def parseValidCard : Claim7 := { stood := { row := parseValidRow, standIns := [], harness := (true, "8a98cc93309f08f96ed947ddd3b46458e23a48aa632e2aca195ddbdd8fbb0053"), looks := true }, kinds := [], alts := [], laidByText := true, laidKinds := [.sentinel, .sentinel, .sentinel, .sentinel, .sentinel], laidTests := true, laidLooks := .later }
def ParseValidCardSaid : Prop := Claim7.holds Tryz.pinned (.plain (OpenSpec.ofChange parseValidSpec)) parseValidCard

/-- THE TIED CARD OF 'smithylaw8.ResolveText'. -/
def resolveTextCard : Claim7 := { stood := { row := resolveTextRow, standIns := [], harness := (true, "8a98cc93309f08f96ed947ddd3b46458e23a48aa632e2aca195ddbdd8fbb0053"), looks := true }, kinds := [], alts := [], laidByText := true, laidKinds := [.sentinel, .sentinel, .sentinel, .sentinel, .sentinel, .sentinel, .sentinel, .sentinel, .sentinel, .sentinel, .sentinel, .sentinel, .sentinel, .sentinel, .sentinel, .sentinel, .sentinel], laidTests := true, laidLooks := .later }
def ResolveTextCardSaid : Prop := Claim7.holds Tryz.pinned (.plain (OpenSpec.ofChange resolveTextSpec)) resolveTextCard

/-- THE TIED CARD OF 'smithylaw7.ShowBack'. -/
def showBackCard : Claim7 := { stood := { row := showBackRow, standIns := [], harness := (true, "8a98cc93309f08f96ed947ddd3b46458e23a48aa632e2aca195ddbdd8fbb0053"), looks := true }, kinds := [], alts := [], laidByText := true, laidKinds := [.sentinel, .sentinel, .sentinel, .sentinel, .sentinel, .sentinel, .sentinel, .sentinel, .sentinel, .sentinel, .sentinel, .sentinel, .sentinel, .sentinel, .sentinel, .sentinel, .sentinel], laidTests := true, laidLooks := .later }
def ShowBackCardSaid : Prop := Claim7.holds Tryz.pinned (.plain (OpenSpec.ofChange showBackSpec)) showBackCard

/-- THE TIED CARD OF 'smithylaw15.CodeTrees'. -/
def codeTreesCard : Claim7 := { stood := { row := codeTreesRow, standIns := [], harness := (true, "8a98cc93309f08f96ed947ddd3b46458e23a48aa632e2aca195ddbdd8fbb0053"), looks := true }, kinds := [], alts := [], laidByText := true, laidKinds := [.sentinel, .sentinel, .sentinel, .sentinel, .sentinel, .sentinel, .sentinel, .sentinel, .sentinel, .sentinel, .sentinel, .sentinel, .sentinel, .sentinel, .sentinel, .sentinel, .sentinel], laidTests := true, laidLooks := .later }
def CodeTreesCardSaid : Prop := Claim7.holds Tryz.pinned (.plain (OpenSpec.ofChange codeTreesSpec)) codeTreesCard

/-- THE TIED CARD OF 'smithylaw15.CodeBent'. -/
def codeBentCard : Claim7 := { stood := { row := codeBentRow, standIns := [], harness := (true, "8a98cc93309f08f96ed947ddd3b46458e23a48aa632e2aca195ddbdd8fbb0053"), looks := true }, kinds := [], alts := [], laidByText := true, laidKinds := [.sentinel, .sentinel, .sentinel, .sentinel, .sentinel, .sentinel, .sentinel, .sentinel, .sentinel, .sentinel, .sentinel, .sentinel, .sentinel, .sentinel, .sentinel, .sentinel, .sentinel], laidTests := true, laidLooks := .later }
def CodeBentCardSaid : Prop := Claim7.holds Tryz.pinned (.plain (OpenSpec.ofChange codeBentSpec)) codeBentCard

/-- THE TIED CARD OF 'smithylaw15.CodeCompiles'. -/
def codeCompilesCard : Claim7 := { stood := { row := codeCompilesRow, standIns := [], harness := (true, "8a98cc93309f08f96ed947ddd3b46458e23a48aa632e2aca195ddbdd8fbb0053"), looks := true }, kinds := [], alts := [], laidByText := true, laidKinds := [.sentinel, .sentinel, .sentinel, .sentinel, .sentinel, .sentinel, .sentinel, .sentinel, .sentinel, .sentinel, .sentinel, .sentinel, .sentinel, .sentinel, .sentinel, .sentinel, .sentinel], laidTests := true, laidLooks := .later }
def CodeCompilesCardSaid : Prop := Claim7.holds Tryz.pinned (.plain (OpenSpec.ofChange codeCompilesSpec)) codeCompilesCard

/-- THE TIED CARD OF 'smithylaw15.CodeCut'. -/
def codeCutCard : Claim7 := { stood := { row := codeCutRow, standIns := [], harness := (true, "8a98cc93309f08f96ed947ddd3b46458e23a48aa632e2aca195ddbdd8fbb0053"), looks := true }, kinds := [], alts := [], laidByText := true, laidKinds := [.sentinel, .sentinel, .sentinel, .sentinel, .sentinel, .sentinel, .sentinel, .sentinel, .sentinel, .sentinel, .sentinel, .sentinel, .sentinel, .sentinel, .sentinel, .sentinel, .sentinel], laidTests := true, laidLooks := .later }
def CodeCutCardSaid : Prop := Claim7.holds Tryz.pinned (.plain (OpenSpec.ofChange codeCutSpec)) codeCutCard

/-- THE SECOND FORM's CARD OF 'smithylaw6.ParseValid'. -/
def parseValidUptoCard : Claim7 := { stood := { row := parseValidUptoRow, standIns := [], harness := (true, "8a98cc93309f08f96ed947ddd3b46458e23a48aa632e2aca195ddbdd8fbb0053"), looks := true }, kinds := [], alts := [], laidByText := true, laidKinds := [.sentinel, .sentinel, .sentinel, .sentinel, .sentinel], laidTests := true, laidLooks := .later }
def ParseValidUptoCardSaid : Prop := Claim7.holds Tryz.pinned (.plain (OpenSpec.upto parseValidSpec)) parseValidUptoCard

/-- THE SECOND FORM's CARD OF 'smithylaw8.ResolveText'. -/
def resolveTextUptoCard : Claim7 := { stood := { row := resolveTextUptoRow, standIns := [], harness := (true, "8a98cc93309f08f96ed947ddd3b46458e23a48aa632e2aca195ddbdd8fbb0053"), looks := true }, kinds := [], alts := [], laidByText := true, laidKinds := [.sentinel, .sentinel, .sentinel, .sentinel, .sentinel, .sentinel, .sentinel, .sentinel, .sentinel, .sentinel, .sentinel, .sentinel, .sentinel, .sentinel, .sentinel, .sentinel, .sentinel], laidTests := true, laidLooks := .later }
def ResolveTextUptoCardSaid : Prop := Claim7.holds Tryz.pinned (.plain (OpenSpec.upto resolveTextSpec)) resolveTextUptoCard

/-- THE SECOND FORM's CARD OF 'smithylaw7.ShowBack'. -/
def showBackUptoCard : Claim7 := { stood := { row := showBackUptoRow, standIns := [], harness := (true, "8a98cc93309f08f96ed947ddd3b46458e23a48aa632e2aca195ddbdd8fbb0053"), looks := true }, kinds := [], alts := [], laidByText := true, laidKinds := [.sentinel, .sentinel, .sentinel, .sentinel, .sentinel, .sentinel, .sentinel, .sentinel, .sentinel, .sentinel, .sentinel, .sentinel, .sentinel, .sentinel, .sentinel, .sentinel, .sentinel], laidTests := true, laidLooks := .later }
def ShowBackUptoCardSaid : Prop := Claim7.holds Tryz.pinned (.plain (OpenSpec.upto showBackSpec)) showBackUptoCard

/-- THE SECOND FORM's CARD OF 'smithylaw15.CodeTrees'. -/
def codeTreesUptoCard : Claim7 := { stood := { row := codeTreesUptoRow, standIns := [], harness := (true, "8a98cc93309f08f96ed947ddd3b46458e23a48aa632e2aca195ddbdd8fbb0053"), looks := true }, kinds := [], alts := [], laidByText := true, laidKinds := [.sentinel, .sentinel, .sentinel, .sentinel, .sentinel, .sentinel, .sentinel, .sentinel, .sentinel, .sentinel, .sentinel, .sentinel, .sentinel, .sentinel, .sentinel, .sentinel, .sentinel], laidTests := true, laidLooks := .later }
def CodeTreesUptoCardSaid : Prop := Claim7.holds Tryz.pinned (.plain (OpenSpec.upto codeTreesSpec)) codeTreesUptoCard

/-- THE SECOND FORM's CARD OF 'smithylaw15.CodeBent'. -/
def codeBentUptoCard : Claim7 := { stood := { row := codeBentUptoRow, standIns := [], harness := (true, "8a98cc93309f08f96ed947ddd3b46458e23a48aa632e2aca195ddbdd8fbb0053"), looks := true }, kinds := [], alts := [], laidByText := true, laidKinds := [.sentinel, .sentinel, .sentinel, .sentinel, .sentinel, .sentinel, .sentinel, .sentinel, .sentinel, .sentinel, .sentinel, .sentinel, .sentinel, .sentinel, .sentinel, .sentinel, .sentinel], laidTests := true, laidLooks := .later }
def CodeBentUptoCardSaid : Prop := Claim7.holds Tryz.pinned (.plain (OpenSpec.upto codeBentSpec)) codeBentUptoCard

/-- THE SECOND FORM's CARD OF 'smithylaw15.CodeCompiles'. -/
def codeCompilesUptoCard : Claim7 := { stood := { row := codeCompilesUptoRow, standIns := [], harness := (true, "8a98cc93309f08f96ed947ddd3b46458e23a48aa632e2aca195ddbdd8fbb0053"), looks := true }, kinds := [], alts := [], laidByText := true, laidKinds := [.sentinel, .sentinel, .sentinel, .sentinel, .sentinel, .sentinel, .sentinel, .sentinel, .sentinel, .sentinel, .sentinel, .sentinel, .sentinel, .sentinel, .sentinel, .sentinel, .sentinel], laidTests := true, laidLooks := .later }
def CodeCompilesUptoCardSaid : Prop := Claim7.holds Tryz.pinned (.plain (OpenSpec.upto codeCompilesSpec)) codeCompilesUptoCard

/-- THE SECOND FORM's CARD OF 'smithylaw15.CodeCut'. -/
def codeCutUptoCard : Claim7 := { stood := { row := codeCutUptoRow, standIns := [], harness := (true, "8a98cc93309f08f96ed947ddd3b46458e23a48aa632e2aca195ddbdd8fbb0053"), looks := true }, kinds := [], alts := [], laidByText := true, laidKinds := [.sentinel, .sentinel, .sentinel, .sentinel, .sentinel, .sentinel, .sentinel, .sentinel, .sentinel, .sentinel, .sentinel, .sentinel, .sentinel, .sentinel, .sentinel, .sentinel, .sentinel], laidTests := true, laidLooks := .later }
def CodeCutUptoCardSaid : Prop := Claim7.holds Tryz.pinned (.plain (OpenSpec.upto codeCutSpec)) codeCutUptoCard
end Rows
end Go.Proofs.YtfbenelagdcdgaaGreatDoor
