/-
  NARROWER THAN 'FOR EVERY INPUT', by the rows' own cells (each row's printed sentence says how): ParseValid: laid · ResolveText: laid · ShowBack: laid · CodeTrees: laid · CodeBent: laid · CodeCompiles: laid · CodeCut: laid.
  DERIVED. THE GIVEN ROWS OF THIS SEAT. 7 by the template 'for every input the law returns true; each argument reads behind the call as it read before'; 0 by the template 'total and deterministic' (their statements: YtfbenelagdcdgaaGreatDoorTotals.lean).
  GIVEN WITH THE SEED: the statements are not yours to turn. If you find one false, say at which input.
  Laid BY PROGRAM, IN A SANDBOX (cutbox-rows.mjs): the forced cells as the released guide's own fill.sh prints them over the translation 4d93e5330367c2d9… (all of the seat's roots in one cut). By AI agents, Wed Nov 11 2026. No macro, syntax, notation, axiom, sorry.
-/
import Derived.Test.YtfbenelagdcdgaaGreatDoorChecked
import GoSem.Claim
import GoSem.ClaimJoined
import GoSem.ClaimMapViews
import Derived.JoinedTies
import Derived.KernelRfl
namespace Go.Proofs.YtfbenelagdcdgaaGreatDoor
/- THE CELL 'sum', in the pinned program and in every row, IS THE sha256 OF THE DUMP (.gsa) THAT YtfbenelagdcdgaaGreatDoorProg.lean LOADS. Nothing in Lean hashes anything: it is a label: what it is worth is what the hold of that sum in a sandbox is worth. -/
noncomputable def Tryz.pinned : Pinned := { name := "ytfbenelagdcdgaagreatdoor", sum := "4d93e5330367c2d9f9ec1db2d036a0399107319390761707f4bea900a9dd9e70", checked := Tryz.checked }
namespace Rows
def none {H : Type} : Left H := { results := [], args := [] }

/- WHAT THE LISTED PACKAGE-LEVEL VARIABLES READ AS WHEN THE CALL BEGINS. Each datum BY PROGRAM (the guide's laid-datum.mjs) off the statement by which the dump's own 'gosem.cut.vars' lays the variable. In a bare row this is a premise. The card (YtfbenelagdcdgaaGreatDoorCards.lean) ties it to the program's text. -/
def laid_smithy_api_ErrLex {H : Type} : DataW H := .iface "*errors.errorString" (.ptr (.agg [.lit (.string [108, 101, 120])]))
def laid_smithy_api_ErrParse {H : Type} : DataW H := .iface "*errors.errorString" (.ptr (.agg [.lit (.string [112, 97, 114, 115, 101])]))
def laid_smithy_api_ErrLimit {H : Type} : DataW H := .iface "*errors.errorString" (.ptr (.agg [.lit (.string [108, 105, 109, 105, 116])]))
def laid_smithy_api_ErrMany {H : Type} : DataW H := .iface "*errors.errorString" (.ptr (.agg [.lit (.string [116, 111, 111, 32, 109, 97, 110, 121])]))
def laid_smithy_api_ErrShape {H : Type} : DataW H := .iface "*errors.errorString" (.ptr (.agg [.lit (.string [110, 111, 116, 32, 116, 104, 101, 32, 115, 104, 97, 112, 101, 32, 116, 104, 97, 116, 32, 105, 116, 32, 104, 97, 115, 32, 116, 111, 32, 104, 97, 118, 101])]))
def laid_smithy_api_ErrResolve {H : Type} : DataW H := .iface "*errors.errorString" (.ptr (.agg [.lit (.string [114, 101, 115, 111, 108, 118, 101])]))
def laid_smithy_api_ErrDynamic {H : Type} : DataW H := .iface "*errors.errorString" (.ptr (.agg [.lit (.string [100, 121, 110, 97, 109, 105, 99])]))
def laid_smithy_api_ErrCycle {H : Type} : DataW H := .iface "*errors.errorString" (.ptr (.agg [.lit (.string [99, 121, 99, 108, 101])]))
def laid_smithy_api_ErrVisibility {H : Type} : DataW H := .iface "*errors.errorString" (.ptr (.agg [.lit (.string [118, 105, 115, 105, 98, 105, 108, 105, 116, 121])]))
def laid_smithy_api_ErrAnalysis {H : Type} : DataW H := .iface "*errors.errorString" (.ptr (.agg [.lit (.string [97, 110, 97, 108, 121, 115, 105, 115])]))
def laid_smithy_api_ErrMissing {H : Type} : DataW H := .iface "*errors.errorString" (.ptr (.agg [.lit (.string [109, 105, 115, 115, 105, 110, 103])]))
def laid_smithy_api_ErrKind {H : Type} : DataW H := .iface "*errors.errorString" (.ptr (.agg [.lit (.string [110, 111, 32, 115, 117, 99, 104, 32, 107, 105, 110, 100])]))
def laid_smithy_api_ErrPath {H : Type} : DataW H := .iface "*errors.errorString" (.ptr (.agg [.lit (.string [110, 111, 32, 112, 97, 116, 104])]))
def laid_smithy_api_ErrEnd {H : Type} : DataW H := .iface "*errors.errorString" (.ptr (.agg [.lit (.string [105, 116, 32, 101, 110, 100, 115, 32, 116, 111, 111, 32, 101, 97, 114, 108, 121])]))
def laid_smithy_api_ErrRange {H : Type} : DataW H := .iface "*errors.errorString" (.ptr (.agg [.lit (.string [97, 32, 110, 117, 109, 98, 101, 114, 32, 111, 117, 116, 32, 111, 102, 32, 105, 116, 115, 32, 114, 97, 110, 103, 101])]))
def laid_smithy_api_ErrDown {H : Type} : DataW H := .iface "*errors.errorString" (.ptr (.agg [.lit (.string [116, 104, 101, 32, 112, 111, 119, 101, 114, 32, 104, 97, 115, 32, 103, 111, 110, 101])]))
def laid_smithy_api_ErrFail {H : Type} : DataW H := .iface "*errors.errorString" (.ptr (.agg [.lit (.string [105, 116, 32, 104, 97, 115, 32, 102, 97, 105, 108, 101, 100])]))

/-- 'smithylaw6.ParseValid': WHATEVER THE INPUT: true; the input reads as it did. -/
def parseValidSpec : ChangeSpec := { name := "parseValid", fn := fun _ => fun
  | [d] => { results := [.lit (.bool true)], args := [d] }
  | _ => none }
def parseValidRow : OpenClaim := { program := "ytfbenelagdcdgaagreatdoor", sum := "4d93e5330367c2d9f9ec1db2d036a0399107319390761707f4bea900a9dd9e70", func := "smithy/smithylaw6.ParseValid", spec := "parseValid", inPlace := ["internal/bytealg.IndexByteString"], unfollowed := true, recurses := true, named := ["smithy/api.ErrLimit", "smithy/api.ErrLex", "smithy/api.ErrParse", "smithy/api.ErrMany", "smithy/api.ErrShape"], apart := false, laid := [("smithy/api.ErrLex", laid_smithy_api_ErrLex), ("smithy/api.ErrParse", laid_smithy_api_ErrParse), ("smithy/api.ErrLimit", laid_smithy_api_ErrLimit), ("smithy/api.ErrMany", laid_smithy_api_ErrMany), ("smithy/api.ErrShape", laid_smithy_api_ErrShape)] }
def ParseValidSaid : Prop := parseValidRow.holds Tryz.pinned (OpenSpec.ofChange parseValidSpec)

/-- ITS FALSE NEIGHBOUR: 'it returns false'. Refute it at one input. -/
def parseValidWrong : ChangeSpec := { name := "parseValid", fn := fun _ => fun
  | [d] => { results := [.lit (.bool false)], args := [d] }
  | _ => none }
def ParseValidWrongFalsely : Prop := parseValidRow.holds Tryz.pinned (OpenSpec.ofChange parseValidWrong)

/-- 'smithylaw8.ResolveText': WHATEVER THE INPUT: true; the input reads as it did. -/
def resolveTextSpec : ChangeSpec := { name := "resolveText", fn := fun _ => fun
  | [d1, d2] => { results := [.lit (.bool true)], args := [d1, d2] }
  | _ => none }
def resolveTextRow : OpenClaim := { program := "ytfbenelagdcdgaagreatdoor", sum := "4d93e5330367c2d9f9ec1db2d036a0399107319390761707f4bea900a9dd9e70", func := "smithy/smithylaw8.ResolveText", spec := "resolveText", inPlace := ["internal/bytealg.IndexByteString"], unfollowed := true, recurses := true, named := ["smithy/api.ErrLimit", "smithy/api.ErrLex", "smithy/api.ErrParse", "smithy/api.ErrResolve", "smithy/api.ErrMany", "smithy/api.ErrShape", "smithy/api.ErrDynamic", "smithy/api.ErrCycle", "smithy/api.ErrVisibility", "smithy/api.ErrAnalysis", "smithy/api.ErrMissing", "smithy/api.ErrKind", "smithy/api.ErrPath", "smithy/api.ErrEnd", "smithy/api.ErrRange", "smithy/api.ErrDown", "smithy/api.ErrFail"], apart := false, laid := [("smithy/api.ErrLex", laid_smithy_api_ErrLex), ("smithy/api.ErrParse", laid_smithy_api_ErrParse), ("smithy/api.ErrResolve", laid_smithy_api_ErrResolve), ("smithy/api.ErrDynamic", laid_smithy_api_ErrDynamic), ("smithy/api.ErrCycle", laid_smithy_api_ErrCycle), ("smithy/api.ErrVisibility", laid_smithy_api_ErrVisibility), ("smithy/api.ErrAnalysis", laid_smithy_api_ErrAnalysis), ("smithy/api.ErrLimit", laid_smithy_api_ErrLimit), ("smithy/api.ErrMissing", laid_smithy_api_ErrMissing), ("smithy/api.ErrMany", laid_smithy_api_ErrMany), ("smithy/api.ErrKind", laid_smithy_api_ErrKind), ("smithy/api.ErrPath", laid_smithy_api_ErrPath), ("smithy/api.ErrShape", laid_smithy_api_ErrShape), ("smithy/api.ErrEnd", laid_smithy_api_ErrEnd), ("smithy/api.ErrRange", laid_smithy_api_ErrRange), ("smithy/api.ErrDown", laid_smithy_api_ErrDown), ("smithy/api.ErrFail", laid_smithy_api_ErrFail)] }
def ResolveTextSaid : Prop := resolveTextRow.holds Tryz.pinned (OpenSpec.ofChange resolveTextSpec)

/-- ITS FALSE NEIGHBOUR: 'it returns false'. Refute it at one input. -/
def resolveTextWrong : ChangeSpec := { name := "resolveText", fn := fun _ => fun
  | [d1, d2] => { results := [.lit (.bool false)], args := [d1, d2] }
  | _ => none }
def ResolveTextWrongFalsely : Prop := resolveTextRow.holds Tryz.pinned (OpenSpec.ofChange resolveTextWrong)

/-- 'smithylaw7.ShowBack': WHATEVER THE INPUT: true; the input reads as it did. -/
def showBackSpec : ChangeSpec := { name := "showBack", fn := fun _ => fun
  | [d] => { results := [.lit (.bool true)], args := [d] }
  | _ => none }
def showBackRow : OpenClaim := { program := "ytfbenelagdcdgaagreatdoor", sum := "4d93e5330367c2d9f9ec1db2d036a0399107319390761707f4bea900a9dd9e70", func := "smithy/smithylaw7.ShowBack", spec := "showBack", inPlace := ["internal/bytealg.IndexByteString", "internal/abi.NoEscape", "internal/bytealg.MakeNoZero"], unfollowed := true, recurses := true, named := ["smithy/api.ErrLimit", "smithy/api.ErrLex", "smithy/api.ErrParse", "smithy/api.ErrMany", "smithy/api.ErrShape", "smithy/api.ErrResolve", "smithy/api.ErrDynamic", "smithy/api.ErrCycle", "smithy/api.ErrVisibility", "smithy/api.ErrAnalysis", "smithy/api.ErrMissing", "smithy/api.ErrKind", "smithy/api.ErrPath", "smithy/api.ErrEnd", "smithy/api.ErrRange", "smithy/api.ErrDown", "smithy/api.ErrFail"], apart := false, laid := [("smithy/api.ErrLex", laid_smithy_api_ErrLex), ("smithy/api.ErrParse", laid_smithy_api_ErrParse), ("smithy/api.ErrResolve", laid_smithy_api_ErrResolve), ("smithy/api.ErrDynamic", laid_smithy_api_ErrDynamic), ("smithy/api.ErrCycle", laid_smithy_api_ErrCycle), ("smithy/api.ErrVisibility", laid_smithy_api_ErrVisibility), ("smithy/api.ErrAnalysis", laid_smithy_api_ErrAnalysis), ("smithy/api.ErrLimit", laid_smithy_api_ErrLimit), ("smithy/api.ErrMissing", laid_smithy_api_ErrMissing), ("smithy/api.ErrMany", laid_smithy_api_ErrMany), ("smithy/api.ErrKind", laid_smithy_api_ErrKind), ("smithy/api.ErrPath", laid_smithy_api_ErrPath), ("smithy/api.ErrShape", laid_smithy_api_ErrShape), ("smithy/api.ErrEnd", laid_smithy_api_ErrEnd), ("smithy/api.ErrRange", laid_smithy_api_ErrRange), ("smithy/api.ErrDown", laid_smithy_api_ErrDown), ("smithy/api.ErrFail", laid_smithy_api_ErrFail)] }
def ShowBackSaid : Prop := showBackRow.holds Tryz.pinned (OpenSpec.ofChange showBackSpec)

/-- ITS FALSE NEIGHBOUR: 'it returns false'. Refute it at one input. -/
def showBackWrong : ChangeSpec := { name := "showBack", fn := fun _ => fun
  | [d] => { results := [.lit (.bool false)], args := [d] }
  | _ => none }
def ShowBackWrongFalsely : Prop := showBackRow.holds Tryz.pinned (OpenSpec.ofChange showBackWrong)

/-- 'smithylaw15.CodeTrees': WHATEVER THE INPUT: true; the input reads as it did. -/
def codeTreesSpec : ChangeSpec := { name := "codeTrees", fn := fun _ => fun
  | [d] => { results := [.lit (.bool true)], args := [d] }
  | _ => none }
def codeTreesRow : OpenClaim := { program := "ytfbenelagdcdgaagreatdoor", sum := "4d93e5330367c2d9f9ec1db2d036a0399107319390761707f4bea900a9dd9e70", func := "smithy/smithylaw15.CodeTrees", spec := "codeTrees", inPlace := ["internal/bytealg.IndexByteString"], unfollowed := true, recurses := true, named := ["smithy/api.ErrLimit", "smithy/api.ErrLex", "smithy/api.ErrParse", "smithy/api.ErrResolve", "smithy/api.ErrMany", "smithy/api.ErrShape", "smithy/api.ErrDynamic", "smithy/api.ErrCycle", "smithy/api.ErrVisibility", "smithy/api.ErrAnalysis", "smithy/api.ErrMissing", "smithy/api.ErrKind", "smithy/api.ErrPath", "smithy/api.ErrEnd", "smithy/api.ErrRange", "smithy/api.ErrDown", "smithy/api.ErrFail"], apart := false, laid := [("smithy/api.ErrLex", laid_smithy_api_ErrLex), ("smithy/api.ErrParse", laid_smithy_api_ErrParse), ("smithy/api.ErrResolve", laid_smithy_api_ErrResolve), ("smithy/api.ErrDynamic", laid_smithy_api_ErrDynamic), ("smithy/api.ErrCycle", laid_smithy_api_ErrCycle), ("smithy/api.ErrVisibility", laid_smithy_api_ErrVisibility), ("smithy/api.ErrAnalysis", laid_smithy_api_ErrAnalysis), ("smithy/api.ErrLimit", laid_smithy_api_ErrLimit), ("smithy/api.ErrMissing", laid_smithy_api_ErrMissing), ("smithy/api.ErrMany", laid_smithy_api_ErrMany), ("smithy/api.ErrKind", laid_smithy_api_ErrKind), ("smithy/api.ErrPath", laid_smithy_api_ErrPath), ("smithy/api.ErrShape", laid_smithy_api_ErrShape), ("smithy/api.ErrEnd", laid_smithy_api_ErrEnd), ("smithy/api.ErrRange", laid_smithy_api_ErrRange), ("smithy/api.ErrDown", laid_smithy_api_ErrDown), ("smithy/api.ErrFail", laid_smithy_api_ErrFail)] }
def CodeTreesSaid : Prop := codeTreesRow.holds Tryz.pinned (OpenSpec.ofChange codeTreesSpec)

/-- ITS FALSE NEIGHBOUR: 'it returns false'. Refute it at one input. -/
def codeTreesWrong : ChangeSpec := { name := "codeTrees", fn := fun _ => fun
  | [d] => { results := [.lit (.bool false)], args := [d] }
  | _ => none }
def CodeTreesWrongFalsely : Prop := codeTreesRow.holds Tryz.pinned (OpenSpec.ofChange codeTreesWrong)

/-- 'smithylaw15.CodeBent': WHATEVER THE INPUT: true; the input reads as it did. -/
def codeBentSpec : ChangeSpec := { name := "codeBent", fn := fun _ => fun
  | [d1, d2, d3, d4] => { results := [.lit (.bool true)], args := [d1, d2, d3, d4] }
  | _ => none }
def codeBentRow : OpenClaim := { program := "ytfbenelagdcdgaagreatdoor", sum := "4d93e5330367c2d9f9ec1db2d036a0399107319390761707f4bea900a9dd9e70", func := "smithy/smithylaw15.CodeBent", spec := "codeBent", inPlace := ["internal/bytealg.IndexByteString"], unfollowed := true, recurses := true, named := ["smithy/api.ErrLimit", "smithy/api.ErrLex", "smithy/api.ErrParse", "smithy/api.ErrResolve", "smithy/api.ErrMany", "smithy/api.ErrShape", "smithy/api.ErrDynamic", "smithy/api.ErrCycle", "smithy/api.ErrVisibility", "smithy/api.ErrAnalysis", "smithy/api.ErrMissing", "smithy/api.ErrKind", "smithy/api.ErrPath", "smithy/api.ErrEnd", "smithy/api.ErrRange", "smithy/api.ErrDown", "smithy/api.ErrFail"], apart := false, laid := [("smithy/api.ErrLex", laid_smithy_api_ErrLex), ("smithy/api.ErrParse", laid_smithy_api_ErrParse), ("smithy/api.ErrResolve", laid_smithy_api_ErrResolve), ("smithy/api.ErrDynamic", laid_smithy_api_ErrDynamic), ("smithy/api.ErrCycle", laid_smithy_api_ErrCycle), ("smithy/api.ErrVisibility", laid_smithy_api_ErrVisibility), ("smithy/api.ErrAnalysis", laid_smithy_api_ErrAnalysis), ("smithy/api.ErrLimit", laid_smithy_api_ErrLimit), ("smithy/api.ErrMissing", laid_smithy_api_ErrMissing), ("smithy/api.ErrMany", laid_smithy_api_ErrMany), ("smithy/api.ErrKind", laid_smithy_api_ErrKind), ("smithy/api.ErrPath", laid_smithy_api_ErrPath), ("smithy/api.ErrShape", laid_smithy_api_ErrShape), ("smithy/api.ErrEnd", laid_smithy_api_ErrEnd), ("smithy/api.ErrRange", laid_smithy_api_ErrRange), ("smithy/api.ErrDown", laid_smithy_api_ErrDown), ("smithy/api.ErrFail", laid_smithy_api_ErrFail)] }
def CodeBentSaid : Prop := codeBentRow.holds Tryz.pinned (OpenSpec.ofChange codeBentSpec)

/-- ITS FALSE NEIGHBOUR: 'it returns false'. Refute it at one input. -/
def codeBentWrong : ChangeSpec := { name := "codeBent", fn := fun _ => fun
  | [d1, d2, d3, d4] => { results := [.lit (.bool false)], args := [d1, d2, d3, d4] }
  | _ => none }
def CodeBentWrongFalsely : Prop := codeBentRow.holds Tryz.pinned (OpenSpec.ofChange codeBentWrong)

/-- 'smithylaw15.CodeCompiles': WHATEVER THE INPUT: true; the input reads as it did. -/
def codeCompilesSpec : ChangeSpec := { name := "codeCompiles", fn := fun _ => fun
  | [d1, d2] => { results := [.lit (.bool true)], args := [d1, d2] }
  | _ => none }
def codeCompilesRow : OpenClaim := { program := "ytfbenelagdcdgaagreatdoor", sum := "4d93e5330367c2d9f9ec1db2d036a0399107319390761707f4bea900a9dd9e70", func := "smithy/smithylaw15.CodeCompiles", spec := "codeCompiles", inPlace := ["internal/bytealg.IndexByteString"], unfollowed := true, recurses := true, named := ["smithy/api.ErrLimit", "smithy/api.ErrLex", "smithy/api.ErrParse", "smithy/api.ErrResolve", "smithy/api.ErrMany", "smithy/api.ErrShape", "smithy/api.ErrDynamic", "smithy/api.ErrCycle", "smithy/api.ErrVisibility", "smithy/api.ErrAnalysis", "smithy/api.ErrMissing", "smithy/api.ErrKind", "smithy/api.ErrPath", "smithy/api.ErrEnd", "smithy/api.ErrRange", "smithy/api.ErrDown", "smithy/api.ErrFail"], apart := false, laid := [("smithy/api.ErrLex", laid_smithy_api_ErrLex), ("smithy/api.ErrParse", laid_smithy_api_ErrParse), ("smithy/api.ErrResolve", laid_smithy_api_ErrResolve), ("smithy/api.ErrDynamic", laid_smithy_api_ErrDynamic), ("smithy/api.ErrCycle", laid_smithy_api_ErrCycle), ("smithy/api.ErrVisibility", laid_smithy_api_ErrVisibility), ("smithy/api.ErrAnalysis", laid_smithy_api_ErrAnalysis), ("smithy/api.ErrLimit", laid_smithy_api_ErrLimit), ("smithy/api.ErrMissing", laid_smithy_api_ErrMissing), ("smithy/api.ErrMany", laid_smithy_api_ErrMany), ("smithy/api.ErrKind", laid_smithy_api_ErrKind), ("smithy/api.ErrPath", laid_smithy_api_ErrPath), ("smithy/api.ErrShape", laid_smithy_api_ErrShape), ("smithy/api.ErrEnd", laid_smithy_api_ErrEnd), ("smithy/api.ErrRange", laid_smithy_api_ErrRange), ("smithy/api.ErrDown", laid_smithy_api_ErrDown), ("smithy/api.ErrFail", laid_smithy_api_ErrFail)] }
def CodeCompilesSaid : Prop := codeCompilesRow.holds Tryz.pinned (OpenSpec.ofChange codeCompilesSpec)

/-- ITS FALSE NEIGHBOUR: 'it returns false'. Refute it at one input. -/
def codeCompilesWrong : ChangeSpec := { name := "codeCompiles", fn := fun _ => fun
  | [d1, d2] => { results := [.lit (.bool false)], args := [d1, d2] }
  | _ => none }
def CodeCompilesWrongFalsely : Prop := codeCompilesRow.holds Tryz.pinned (OpenSpec.ofChange codeCompilesWrong)

/-- 'smithylaw15.CodeCut': WHATEVER THE INPUT: true; the input reads as it did. -/
def codeCutSpec : ChangeSpec := { name := "codeCut", fn := fun _ => fun
  | [d1, d2, d3] => { results := [.lit (.bool true)], args := [d1, d2, d3] }
  | _ => none }
def codeCutRow : OpenClaim := { program := "ytfbenelagdcdgaagreatdoor", sum := "4d93e5330367c2d9f9ec1db2d036a0399107319390761707f4bea900a9dd9e70", func := "smithy/smithylaw15.CodeCut", spec := "codeCut", inPlace := ["internal/bytealg.IndexByteString"], unfollowed := true, recurses := true, named := ["smithy/api.ErrLimit", "smithy/api.ErrLex", "smithy/api.ErrParse", "smithy/api.ErrResolve", "smithy/api.ErrMany", "smithy/api.ErrShape", "smithy/api.ErrEnd", "smithy/api.ErrDynamic", "smithy/api.ErrCycle", "smithy/api.ErrVisibility", "smithy/api.ErrAnalysis", "smithy/api.ErrMissing", "smithy/api.ErrKind", "smithy/api.ErrPath", "smithy/api.ErrRange", "smithy/api.ErrDown", "smithy/api.ErrFail"], apart := false, laid := [("smithy/api.ErrLex", laid_smithy_api_ErrLex), ("smithy/api.ErrParse", laid_smithy_api_ErrParse), ("smithy/api.ErrResolve", laid_smithy_api_ErrResolve), ("smithy/api.ErrDynamic", laid_smithy_api_ErrDynamic), ("smithy/api.ErrCycle", laid_smithy_api_ErrCycle), ("smithy/api.ErrVisibility", laid_smithy_api_ErrVisibility), ("smithy/api.ErrAnalysis", laid_smithy_api_ErrAnalysis), ("smithy/api.ErrLimit", laid_smithy_api_ErrLimit), ("smithy/api.ErrMissing", laid_smithy_api_ErrMissing), ("smithy/api.ErrMany", laid_smithy_api_ErrMany), ("smithy/api.ErrKind", laid_smithy_api_ErrKind), ("smithy/api.ErrPath", laid_smithy_api_ErrPath), ("smithy/api.ErrShape", laid_smithy_api_ErrShape), ("smithy/api.ErrEnd", laid_smithy_api_ErrEnd), ("smithy/api.ErrRange", laid_smithy_api_ErrRange), ("smithy/api.ErrDown", laid_smithy_api_ErrDown), ("smithy/api.ErrFail", laid_smithy_api_ErrFail)] }
def CodeCutSaid : Prop := codeCutRow.holds Tryz.pinned (OpenSpec.ofChange codeCutSpec)

/-- ITS FALSE NEIGHBOUR: 'it returns false'. Refute it at one input. -/
def codeCutWrong : ChangeSpec := { name := "codeCut", fn := fun _ => fun
  | [d1, d2, d3] => { results := [.lit (.bool false)], args := [d1, d2, d3] }
  | _ => none }
def CodeCutWrongFalsely : Prop := codeCutRow.holds Tryz.pinned (OpenSpec.ofChange codeCutWrong)

/- THE SECOND FORM. 'bulk': how many values and letters a reading holds, each counted each time it is reached (what is shared counts as often as it is met; a slice's spare places count too). A statement '..UptoSaid' is the law's where the arguments, and the package variables that the reading takes, are together of bulk at most 1048576: NARROWER than '..Said'. Prove '..Said' where nothing that the law and all that it calls make is longer than what came in: it says more and counts as full. Else prove '..UptoSaid'. A law counts once. -/
mutual
def uptoBulk {H : Type} : DataW H → Nat
  | .lit (.string bytes) => bytes.length + 1
  | .lit _ => 1
  | .nil => 1
  | .ptr d => uptoBulk d + 1
  | .slice elems spare => uptoBulkAll elems + uptoBulkAll spare + 1
  | .agg parts => uptoBulkAll parts + 1
  | .iface _ d => uptoBulk d + 1
  | .map entries => uptoBulkEntries entries + 1
  | .held _ => 1
def uptoBulkAll {H : Type} : List (DataW H) → Nat
  | [] => 0
  | d :: r => uptoBulk d + uptoBulkAll r
def uptoBulkEntries {H : Type} : List (Lit × DataW H) → Nat
  | [] => 0
  | x :: r => uptoBulkEntry x + uptoBulkEntries r
def uptoBulkEntry {H : Type} : Lit × DataW H → Nat
  | (.string bytes, d) => bytes.length + uptoBulk d + 1
  | (_, d) => uptoBulk d + 1
 end
def uptoSmall : (H : Type) → List (DataW H) → Bool := fun _ ds => decide (uptoBulkAll ds ≤ 1048576)
def OpenSpec.upto (s : _root_.Go.ChangeSpec) : _root_.Go.OpenSpec := { _root_.Go.OpenSpec.ofChange s with cond := some uptoSmall }

/-- 'smithylaw6.ParseValid', WHERE WHAT IT READS IS OF BULK AT MOST 1048576: true; the input reads as it did. -/
def parseValidUptoRow : OpenClaim := { program := "ytfbenelagdcdgaagreatdoor", sum := "4d93e5330367c2d9f9ec1db2d036a0399107319390761707f4bea900a9dd9e70", func := "smithy/smithylaw6.ParseValid", spec := "parseValid", inPlace := ["internal/bytealg.IndexByteString"], unfollowed := true, recurses := true, named := ["smithy/api.ErrLimit", "smithy/api.ErrLex", "smithy/api.ErrParse", "smithy/api.ErrMany", "smithy/api.ErrShape"], apart := false, laid := [("smithy/api.ErrLex", laid_smithy_api_ErrLex), ("smithy/api.ErrParse", laid_smithy_api_ErrParse), ("smithy/api.ErrLimit", laid_smithy_api_ErrLimit), ("smithy/api.ErrMany", laid_smithy_api_ErrMany), ("smithy/api.ErrShape", laid_smithy_api_ErrShape)], narrowed := true }
def ParseValidUptoSaid : Prop := parseValidUptoRow.holds Tryz.pinned (OpenSpec.upto parseValidSpec)

/-- 'smithylaw8.ResolveText', WHERE WHAT IT READS IS OF BULK AT MOST 1048576: true; the input reads as it did. -/
def resolveTextUptoRow : OpenClaim := { program := "ytfbenelagdcdgaagreatdoor", sum := "4d93e5330367c2d9f9ec1db2d036a0399107319390761707f4bea900a9dd9e70", func := "smithy/smithylaw8.ResolveText", spec := "resolveText", inPlace := ["internal/bytealg.IndexByteString"], unfollowed := true, recurses := true, named := ["smithy/api.ErrLimit", "smithy/api.ErrLex", "smithy/api.ErrParse", "smithy/api.ErrResolve", "smithy/api.ErrMany", "smithy/api.ErrShape", "smithy/api.ErrDynamic", "smithy/api.ErrCycle", "smithy/api.ErrVisibility", "smithy/api.ErrAnalysis", "smithy/api.ErrMissing", "smithy/api.ErrKind", "smithy/api.ErrPath", "smithy/api.ErrEnd", "smithy/api.ErrRange", "smithy/api.ErrDown", "smithy/api.ErrFail"], apart := false, laid := [("smithy/api.ErrLex", laid_smithy_api_ErrLex), ("smithy/api.ErrParse", laid_smithy_api_ErrParse), ("smithy/api.ErrResolve", laid_smithy_api_ErrResolve), ("smithy/api.ErrDynamic", laid_smithy_api_ErrDynamic), ("smithy/api.ErrCycle", laid_smithy_api_ErrCycle), ("smithy/api.ErrVisibility", laid_smithy_api_ErrVisibility), ("smithy/api.ErrAnalysis", laid_smithy_api_ErrAnalysis), ("smithy/api.ErrLimit", laid_smithy_api_ErrLimit), ("smithy/api.ErrMissing", laid_smithy_api_ErrMissing), ("smithy/api.ErrMany", laid_smithy_api_ErrMany), ("smithy/api.ErrKind", laid_smithy_api_ErrKind), ("smithy/api.ErrPath", laid_smithy_api_ErrPath), ("smithy/api.ErrShape", laid_smithy_api_ErrShape), ("smithy/api.ErrEnd", laid_smithy_api_ErrEnd), ("smithy/api.ErrRange", laid_smithy_api_ErrRange), ("smithy/api.ErrDown", laid_smithy_api_ErrDown), ("smithy/api.ErrFail", laid_smithy_api_ErrFail)], narrowed := true }
def ResolveTextUptoSaid : Prop := resolveTextUptoRow.holds Tryz.pinned (OpenSpec.upto resolveTextSpec)

/-- 'smithylaw7.ShowBack', WHERE WHAT IT READS IS OF BULK AT MOST 1048576: true; the input reads as it did. -/
def showBackUptoRow : OpenClaim := { program := "ytfbenelagdcdgaagreatdoor", sum := "4d93e5330367c2d9f9ec1db2d036a0399107319390761707f4bea900a9dd9e70", func := "smithy/smithylaw7.ShowBack", spec := "showBack", inPlace := ["internal/bytealg.IndexByteString", "internal/abi.NoEscape", "internal/bytealg.MakeNoZero"], unfollowed := true, recurses := true, named := ["smithy/api.ErrLimit", "smithy/api.ErrLex", "smithy/api.ErrParse", "smithy/api.ErrMany", "smithy/api.ErrShape", "smithy/api.ErrResolve", "smithy/api.ErrDynamic", "smithy/api.ErrCycle", "smithy/api.ErrVisibility", "smithy/api.ErrAnalysis", "smithy/api.ErrMissing", "smithy/api.ErrKind", "smithy/api.ErrPath", "smithy/api.ErrEnd", "smithy/api.ErrRange", "smithy/api.ErrDown", "smithy/api.ErrFail"], apart := false, laid := [("smithy/api.ErrLex", laid_smithy_api_ErrLex), ("smithy/api.ErrParse", laid_smithy_api_ErrParse), ("smithy/api.ErrResolve", laid_smithy_api_ErrResolve), ("smithy/api.ErrDynamic", laid_smithy_api_ErrDynamic), ("smithy/api.ErrCycle", laid_smithy_api_ErrCycle), ("smithy/api.ErrVisibility", laid_smithy_api_ErrVisibility), ("smithy/api.ErrAnalysis", laid_smithy_api_ErrAnalysis), ("smithy/api.ErrLimit", laid_smithy_api_ErrLimit), ("smithy/api.ErrMissing", laid_smithy_api_ErrMissing), ("smithy/api.ErrMany", laid_smithy_api_ErrMany), ("smithy/api.ErrKind", laid_smithy_api_ErrKind), ("smithy/api.ErrPath", laid_smithy_api_ErrPath), ("smithy/api.ErrShape", laid_smithy_api_ErrShape), ("smithy/api.ErrEnd", laid_smithy_api_ErrEnd), ("smithy/api.ErrRange", laid_smithy_api_ErrRange), ("smithy/api.ErrDown", laid_smithy_api_ErrDown), ("smithy/api.ErrFail", laid_smithy_api_ErrFail)], narrowed := true }
def ShowBackUptoSaid : Prop := showBackUptoRow.holds Tryz.pinned (OpenSpec.upto showBackSpec)

/-- 'smithylaw15.CodeTrees', WHERE WHAT IT READS IS OF BULK AT MOST 1048576: true; the input reads as it did. -/
def codeTreesUptoRow : OpenClaim := { program := "ytfbenelagdcdgaagreatdoor", sum := "4d93e5330367c2d9f9ec1db2d036a0399107319390761707f4bea900a9dd9e70", func := "smithy/smithylaw15.CodeTrees", spec := "codeTrees", inPlace := ["internal/bytealg.IndexByteString"], unfollowed := true, recurses := true, named := ["smithy/api.ErrLimit", "smithy/api.ErrLex", "smithy/api.ErrParse", "smithy/api.ErrResolve", "smithy/api.ErrMany", "smithy/api.ErrShape", "smithy/api.ErrDynamic", "smithy/api.ErrCycle", "smithy/api.ErrVisibility", "smithy/api.ErrAnalysis", "smithy/api.ErrMissing", "smithy/api.ErrKind", "smithy/api.ErrPath", "smithy/api.ErrEnd", "smithy/api.ErrRange", "smithy/api.ErrDown", "smithy/api.ErrFail"], apart := false, laid := [("smithy/api.ErrLex", laid_smithy_api_ErrLex), ("smithy/api.ErrParse", laid_smithy_api_ErrParse), ("smithy/api.ErrResolve", laid_smithy_api_ErrResolve), ("smithy/api.ErrDynamic", laid_smithy_api_ErrDynamic), ("smithy/api.ErrCycle", laid_smithy_api_ErrCycle), ("smithy/api.ErrVisibility", laid_smithy_api_ErrVisibility), ("smithy/api.ErrAnalysis", laid_smithy_api_ErrAnalysis), ("smithy/api.ErrLimit", laid_smithy_api_ErrLimit), ("smithy/api.ErrMissing", laid_smithy_api_ErrMissing), ("smithy/api.ErrMany", laid_smithy_api_ErrMany), ("smithy/api.ErrKind", laid_smithy_api_ErrKind), ("smithy/api.ErrPath", laid_smithy_api_ErrPath), ("smithy/api.ErrShape", laid_smithy_api_ErrShape), ("smithy/api.ErrEnd", laid_smithy_api_ErrEnd), ("smithy/api.ErrRange", laid_smithy_api_ErrRange), ("smithy/api.ErrDown", laid_smithy_api_ErrDown), ("smithy/api.ErrFail", laid_smithy_api_ErrFail)], narrowed := true }
def CodeTreesUptoSaid : Prop := codeTreesUptoRow.holds Tryz.pinned (OpenSpec.upto codeTreesSpec)

/-- 'smithylaw15.CodeBent', WHERE WHAT IT READS IS OF BULK AT MOST 1048576: true; the input reads as it did. -/
def codeBentUptoRow : OpenClaim := { program := "ytfbenelagdcdgaagreatdoor", sum := "4d93e5330367c2d9f9ec1db2d036a0399107319390761707f4bea900a9dd9e70", func := "smithy/smithylaw15.CodeBent", spec := "codeBent", inPlace := ["internal/bytealg.IndexByteString"], unfollowed := true, recurses := true, named := ["smithy/api.ErrLimit", "smithy/api.ErrLex", "smithy/api.ErrParse", "smithy/api.ErrResolve", "smithy/api.ErrMany", "smithy/api.ErrShape", "smithy/api.ErrDynamic", "smithy/api.ErrCycle", "smithy/api.ErrVisibility", "smithy/api.ErrAnalysis", "smithy/api.ErrMissing", "smithy/api.ErrKind", "smithy/api.ErrPath", "smithy/api.ErrEnd", "smithy/api.ErrRange", "smithy/api.ErrDown", "smithy/api.ErrFail"], apart := false, laid := [("smithy/api.ErrLex", laid_smithy_api_ErrLex), ("smithy/api.ErrParse", laid_smithy_api_ErrParse), ("smithy/api.ErrResolve", laid_smithy_api_ErrResolve), ("smithy/api.ErrDynamic", laid_smithy_api_ErrDynamic), ("smithy/api.ErrCycle", laid_smithy_api_ErrCycle), ("smithy/api.ErrVisibility", laid_smithy_api_ErrVisibility), ("smithy/api.ErrAnalysis", laid_smithy_api_ErrAnalysis), ("smithy/api.ErrLimit", laid_smithy_api_ErrLimit), ("smithy/api.ErrMissing", laid_smithy_api_ErrMissing), ("smithy/api.ErrMany", laid_smithy_api_ErrMany), ("smithy/api.ErrKind", laid_smithy_api_ErrKind), ("smithy/api.ErrPath", laid_smithy_api_ErrPath), ("smithy/api.ErrShape", laid_smithy_api_ErrShape), ("smithy/api.ErrEnd", laid_smithy_api_ErrEnd), ("smithy/api.ErrRange", laid_smithy_api_ErrRange), ("smithy/api.ErrDown", laid_smithy_api_ErrDown), ("smithy/api.ErrFail", laid_smithy_api_ErrFail)], narrowed := true }
def CodeBentUptoSaid : Prop := codeBentUptoRow.holds Tryz.pinned (OpenSpec.upto codeBentSpec)

/-- 'smithylaw15.CodeCompiles', WHERE WHAT IT READS IS OF BULK AT MOST 1048576: true; the input reads as it did. -/
def codeCompilesUptoRow : OpenClaim := { program := "ytfbenelagdcdgaagreatdoor", sum := "4d93e5330367c2d9f9ec1db2d036a0399107319390761707f4bea900a9dd9e70", func := "smithy/smithylaw15.CodeCompiles", spec := "codeCompiles", inPlace := ["internal/bytealg.IndexByteString"], unfollowed := true, recurses := true, named := ["smithy/api.ErrLimit", "smithy/api.ErrLex", "smithy/api.ErrParse", "smithy/api.ErrResolve", "smithy/api.ErrMany", "smithy/api.ErrShape", "smithy/api.ErrDynamic", "smithy/api.ErrCycle", "smithy/api.ErrVisibility", "smithy/api.ErrAnalysis", "smithy/api.ErrMissing", "smithy/api.ErrKind", "smithy/api.ErrPath", "smithy/api.ErrEnd", "smithy/api.ErrRange", "smithy/api.ErrDown", "smithy/api.ErrFail"], apart := false, laid := [("smithy/api.ErrLex", laid_smithy_api_ErrLex), ("smithy/api.ErrParse", laid_smithy_api_ErrParse), ("smithy/api.ErrResolve", laid_smithy_api_ErrResolve), ("smithy/api.ErrDynamic", laid_smithy_api_ErrDynamic), ("smithy/api.ErrCycle", laid_smithy_api_ErrCycle), ("smithy/api.ErrVisibility", laid_smithy_api_ErrVisibility), ("smithy/api.ErrAnalysis", laid_smithy_api_ErrAnalysis), ("smithy/api.ErrLimit", laid_smithy_api_ErrLimit), ("smithy/api.ErrMissing", laid_smithy_api_ErrMissing), ("smithy/api.ErrMany", laid_smithy_api_ErrMany), ("smithy/api.ErrKind", laid_smithy_api_ErrKind), ("smithy/api.ErrPath", laid_smithy_api_ErrPath), ("smithy/api.ErrShape", laid_smithy_api_ErrShape), ("smithy/api.ErrEnd", laid_smithy_api_ErrEnd), ("smithy/api.ErrRange", laid_smithy_api_ErrRange), ("smithy/api.ErrDown", laid_smithy_api_ErrDown), ("smithy/api.ErrFail", laid_smithy_api_ErrFail)], narrowed := true }
def CodeCompilesUptoSaid : Prop := codeCompilesUptoRow.holds Tryz.pinned (OpenSpec.upto codeCompilesSpec)

/-- 'smithylaw15.CodeCut', WHERE WHAT IT READS IS OF BULK AT MOST 1048576: true; the input reads as it did. -/
def codeCutUptoRow : OpenClaim := { program := "ytfbenelagdcdgaagreatdoor", sum := "4d93e5330367c2d9f9ec1db2d036a0399107319390761707f4bea900a9dd9e70", func := "smithy/smithylaw15.CodeCut", spec := "codeCut", inPlace := ["internal/bytealg.IndexByteString"], unfollowed := true, recurses := true, named := ["smithy/api.ErrLimit", "smithy/api.ErrLex", "smithy/api.ErrParse", "smithy/api.ErrResolve", "smithy/api.ErrMany", "smithy/api.ErrShape", "smithy/api.ErrEnd", "smithy/api.ErrDynamic", "smithy/api.ErrCycle", "smithy/api.ErrVisibility", "smithy/api.ErrAnalysis", "smithy/api.ErrMissing", "smithy/api.ErrKind", "smithy/api.ErrPath", "smithy/api.ErrRange", "smithy/api.ErrDown", "smithy/api.ErrFail"], apart := false, laid := [("smithy/api.ErrLex", laid_smithy_api_ErrLex), ("smithy/api.ErrParse", laid_smithy_api_ErrParse), ("smithy/api.ErrResolve", laid_smithy_api_ErrResolve), ("smithy/api.ErrDynamic", laid_smithy_api_ErrDynamic), ("smithy/api.ErrCycle", laid_smithy_api_ErrCycle), ("smithy/api.ErrVisibility", laid_smithy_api_ErrVisibility), ("smithy/api.ErrAnalysis", laid_smithy_api_ErrAnalysis), ("smithy/api.ErrLimit", laid_smithy_api_ErrLimit), ("smithy/api.ErrMissing", laid_smithy_api_ErrMissing), ("smithy/api.ErrMany", laid_smithy_api_ErrMany), ("smithy/api.ErrKind", laid_smithy_api_ErrKind), ("smithy/api.ErrPath", laid_smithy_api_ErrPath), ("smithy/api.ErrShape", laid_smithy_api_ErrShape), ("smithy/api.ErrEnd", laid_smithy_api_ErrEnd), ("smithy/api.ErrRange", laid_smithy_api_ErrRange), ("smithy/api.ErrDown", laid_smithy_api_ErrDown), ("smithy/api.ErrFail", laid_smithy_api_ErrFail)], narrowed := true }
def CodeCutUptoSaid : Prop := codeCutUptoRow.holds Tryz.pinned (OpenSpec.upto codeCutSpec)

end Rows
end Go.Proofs.YtfbenelagdcdgaaGreatDoor
