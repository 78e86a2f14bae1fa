/-
  NARROWER THAN 'FOR EVERY INPUT', by the rows' own cells (each row's printed sentence says how): ParseValid: laid · ParseDeep: laid · ShowPairs: laid · ResolveText: laid · ResolveNames: laid · ResolveComps: laid · ShowBack: laid.
  DERIVED. THE GIVEN ROWS OF THIS SEAT. 7 by the template 'for every input the law returns true; each argument reads behind the call as it read before'; 0 by the template 'total and deterministic' (their statements: YtdepmlcnllofiaaGreatDoorTotals.lean).
  GIVEN WITH THE SEED: the statements are not yours to turn. If you find one false, say at which input.
  Laid BY PROGRAM, IN A SANDBOX (cutbox-rows.mjs): the forced cells as the released guide's own fill.sh prints them over the translation 61ff3b94be3349d1… (all of the seat's roots in one cut). By AI agents, Wed Nov 11 2026. No macro, syntax, notation, axiom, sorry.
-/
import Derived.Test.YtdepmlcnllofiaaGreatDoorChecked
import GoSem.Claim
import GoSem.ClaimJoined
import GoSem.ClaimMapViews
import Derived.JoinedTies
import Derived.KernelRfl
namespace Go.Proofs.YtdepmlcnllofiaaGreatDoor
/- THE CELL 'sum', in the pinned program and in every row, IS THE sha256 OF THE DUMP (.gsa) THAT YtdepmlcnllofiaaGreatDoorProg.lean LOADS. Nothing in Lean hashes anything: it is a label: what it is worth is what the hold of that sum in a sandbox is worth. -/
noncomputable def Tryz.pinned : Pinned := { name := "ytdepmlcnllofiaagreatdoor", sum := "61ff3b94be3349d1019301f5da61ab6b2f7d84ecc1c9d994a5e9571a980c8695", checked := Tryz.checked }
namespace Rows
def none {H : Type} : Left H := { results := [], args := [] }

/- WHAT THE LISTED PACKAGE-LEVEL VARIABLES READ AS WHEN THE CALL BEGINS. Each datum BY PROGRAM (the guide's laid-datum.mjs) off the statement by which the dump's own 'gosem.cut.vars' lays the variable. In a bare row this is a premise. The card (YtdepmlcnllofiaaGreatDoorCards.lean) ties it to the program's text. -/
def laid_smithy_api_ErrLex {H : Type} : DataW H := .iface "*errors.errorString" (.ptr (.agg [.lit (.string [108, 101, 120])]))
def laid_smithy_api_ErrParse {H : Type} : DataW H := .iface "*errors.errorString" (.ptr (.agg [.lit (.string [112, 97, 114, 115, 101])]))
def laid_smithy_api_ErrLimit {H : Type} : DataW H := .iface "*errors.errorString" (.ptr (.agg [.lit (.string [108, 105, 109, 105, 116])]))
def laid_smithy_api_ErrMany {H : Type} : DataW H := .iface "*errors.errorString" (.ptr (.agg [.lit (.string [116, 111, 111, 32, 109, 97, 110, 121])]))
def laid_smithy_api_ErrShape {H : Type} : DataW H := .iface "*errors.errorString" (.ptr (.agg [.lit (.string [110, 111, 116, 32, 116, 104, 101, 32, 115, 104, 97, 112, 101, 32, 116, 104, 97, 116, 32, 105, 116, 32, 104, 97, 115, 32, 116, 111, 32, 104, 97, 118, 101])]))
def laid_smithy_api_ErrResolve {H : Type} : DataW H := .iface "*errors.errorString" (.ptr (.agg [.lit (.string [114, 101, 115, 111, 108, 118, 101])]))
def laid_smithy_api_ErrDynamic {H : Type} : DataW H := .iface "*errors.errorString" (.ptr (.agg [.lit (.string [100, 121, 110, 97, 109, 105, 99])]))
def laid_smithy_api_ErrCycle {H : Type} : DataW H := .iface "*errors.errorString" (.ptr (.agg [.lit (.string [99, 121, 99, 108, 101])]))
def laid_smithy_api_ErrVisibility {H : Type} : DataW H := .iface "*errors.errorString" (.ptr (.agg [.lit (.string [118, 105, 115, 105, 98, 105, 108, 105, 116, 121])]))
def laid_smithy_api_ErrAnalysis {H : Type} : DataW H := .iface "*errors.errorString" (.ptr (.agg [.lit (.string [97, 110, 97, 108, 121, 115, 105, 115])]))
def laid_smithy_api_ErrMissing {H : Type} : DataW H := .iface "*errors.errorString" (.ptr (.agg [.lit (.string [109, 105, 115, 115, 105, 110, 103])]))
def laid_smithy_api_ErrKind {H : Type} : DataW H := .iface "*errors.errorString" (.ptr (.agg [.lit (.string [110, 111, 32, 115, 117, 99, 104, 32, 107, 105, 110, 100])]))
def laid_smithy_api_ErrPath {H : Type} : DataW H := .iface "*errors.errorString" (.ptr (.agg [.lit (.string [110, 111, 32, 112, 97, 116, 104])]))
def laid_smithy_api_ErrEnd {H : Type} : DataW H := .iface "*errors.errorString" (.ptr (.agg [.lit (.string [105, 116, 32, 101, 110, 100, 115, 32, 116, 111, 111, 32, 101, 97, 114, 108, 121])]))
def laid_smithy_api_ErrRange {H : Type} : DataW H := .iface "*errors.errorString" (.ptr (.agg [.lit (.string [97, 32, 110, 117, 109, 98, 101, 114, 32, 111, 117, 116, 32, 111, 102, 32, 105, 116, 115, 32, 114, 97, 110, 103, 101])]))
def laid_smithy_api_ErrDown {H : Type} : DataW H := .iface "*errors.errorString" (.ptr (.agg [.lit (.string [116, 104, 101, 32, 112, 111, 119, 101, 114, 32, 104, 97, 115, 32, 103, 111, 110, 101])]))
def laid_smithy_api_ErrFail {H : Type} : DataW H := .iface "*errors.errorString" (.ptr (.agg [.lit (.string [105, 116, 32, 104, 97, 115, 32, 102, 97, 105, 108, 101, 100])]))

/-- 'smithylaw6.ParseValid': WHATEVER THE INPUT: true; the input reads as it did. -/
def parseValidSpec : ChangeSpec := { name := "parseValid", fn := fun _ => fun
  | [d] => { results := [.lit (.bool true)], args := [d] }
  | _ => none }
def parseValidRow : OpenClaim := { program := "ytdepmlcnllofiaagreatdoor", sum := "61ff3b94be3349d1019301f5da61ab6b2f7d84ecc1c9d994a5e9571a980c8695", func := "smithy/smithylaw6.ParseValid", spec := "parseValid", inPlace := ["internal/bytealg.IndexByteString"], unfollowed := true, recurses := true, named := ["smithy/api.ErrLimit", "smithy/api.ErrLex", "smithy/api.ErrParse", "smithy/api.ErrMany", "smithy/api.ErrShape"], apart := false, laid := [("smithy/api.ErrLex", laid_smithy_api_ErrLex), ("smithy/api.ErrParse", laid_smithy_api_ErrParse), ("smithy/api.ErrLimit", laid_smithy_api_ErrLimit), ("smithy/api.ErrMany", laid_smithy_api_ErrMany), ("smithy/api.ErrShape", laid_smithy_api_ErrShape)] }
def ParseValidSaid : Prop := parseValidRow.holds Tryz.pinned (OpenSpec.ofChange parseValidSpec)

/-- ITS FALSE NEIGHBOUR: 'it returns false'. Refute it at one input. -/
def parseValidWrong : ChangeSpec := { name := "parseValid", fn := fun _ => fun
  | [d] => { results := [.lit (.bool false)], args := [d] }
  | _ => none }
def ParseValidWrongFalsely : Prop := parseValidRow.holds Tryz.pinned (OpenSpec.ofChange parseValidWrong)

/-- 'smithylaw6.ParseDeep': WHATEVER THE INPUT: true; the input reads as it did. -/
def parseDeepSpec : ChangeSpec := { name := "parseDeep", fn := fun _ => fun
  | [d1, d2] => { results := [.lit (.bool true)], args := [d1, d2] }
  | _ => none }
def parseDeepRow : OpenClaim := { program := "ytdepmlcnllofiaagreatdoor", sum := "61ff3b94be3349d1019301f5da61ab6b2f7d84ecc1c9d994a5e9571a980c8695", func := "smithy/smithylaw6.ParseDeep", spec := "parseDeep", inPlace := ["internal/bytealg.IndexByteString"], unfollowed := true, recurses := true, named := ["smithy/api.ErrLimit", "smithy/api.ErrLex", "smithy/api.ErrParse", "smithy/api.ErrResolve", "smithy/api.ErrDynamic", "smithy/api.ErrCycle", "smithy/api.ErrVisibility", "smithy/api.ErrAnalysis", "smithy/api.ErrMissing", "smithy/api.ErrMany", "smithy/api.ErrKind", "smithy/api.ErrPath", "smithy/api.ErrShape", "smithy/api.ErrEnd", "smithy/api.ErrRange", "smithy/api.ErrDown", "smithy/api.ErrFail"], apart := false, laid := [("smithy/api.ErrLex", laid_smithy_api_ErrLex), ("smithy/api.ErrParse", laid_smithy_api_ErrParse), ("smithy/api.ErrResolve", laid_smithy_api_ErrResolve), ("smithy/api.ErrDynamic", laid_smithy_api_ErrDynamic), ("smithy/api.ErrCycle", laid_smithy_api_ErrCycle), ("smithy/api.ErrVisibility", laid_smithy_api_ErrVisibility), ("smithy/api.ErrAnalysis", laid_smithy_api_ErrAnalysis), ("smithy/api.ErrLimit", laid_smithy_api_ErrLimit), ("smithy/api.ErrMissing", laid_smithy_api_ErrMissing), ("smithy/api.ErrMany", laid_smithy_api_ErrMany), ("smithy/api.ErrKind", laid_smithy_api_ErrKind), ("smithy/api.ErrPath", laid_smithy_api_ErrPath), ("smithy/api.ErrShape", laid_smithy_api_ErrShape), ("smithy/api.ErrEnd", laid_smithy_api_ErrEnd), ("smithy/api.ErrRange", laid_smithy_api_ErrRange), ("smithy/api.ErrDown", laid_smithy_api_ErrDown), ("smithy/api.ErrFail", laid_smithy_api_ErrFail)] }
def ParseDeepSaid : Prop := parseDeepRow.holds Tryz.pinned (OpenSpec.ofChange parseDeepSpec)

/-- ITS FALSE NEIGHBOUR: 'it returns false'. Refute it at one input. -/
def parseDeepWrong : ChangeSpec := { name := "parseDeep", fn := fun _ => fun
  | [d1, d2] => { results := [.lit (.bool false)], args := [d1, d2] }
  | _ => none }
def ParseDeepWrongFalsely : Prop := parseDeepRow.holds Tryz.pinned (OpenSpec.ofChange parseDeepWrong)

/-- 'smithylaw7.ShowPairs': WHATEVER THE INPUT: true; the input reads as it did. -/
def showPairsSpec : ChangeSpec := { name := "showPairs", fn := fun _ => fun
  | [d1, d2, d3] => { results := [.lit (.bool true)], args := [d1, d2, d3] }
  | _ => none }
def showPairsRow : OpenClaim := { program := "ytdepmlcnllofiaagreatdoor", sum := "61ff3b94be3349d1019301f5da61ab6b2f7d84ecc1c9d994a5e9571a980c8695", func := "smithy/smithylaw7.ShowPairs", spec := "showPairs", inPlace := ["internal/bytealg.IndexByteString", "internal/abi.NoEscape"], unfollowed := true, recurses := true, named := ["smithy/api.ErrLimit", "smithy/api.ErrLex", "smithy/api.ErrParse", "smithy/api.ErrMany", "smithy/api.ErrShape", "smithy/api.ErrResolve", "smithy/api.ErrDynamic", "smithy/api.ErrCycle", "smithy/api.ErrVisibility", "smithy/api.ErrAnalysis", "smithy/api.ErrMissing", "smithy/api.ErrKind", "smithy/api.ErrPath", "smithy/api.ErrEnd", "smithy/api.ErrRange", "smithy/api.ErrDown", "smithy/api.ErrFail"], apart := false, laid := [("smithy/api.ErrLex", laid_smithy_api_ErrLex), ("smithy/api.ErrParse", laid_smithy_api_ErrParse), ("smithy/api.ErrResolve", laid_smithy_api_ErrResolve), ("smithy/api.ErrDynamic", laid_smithy_api_ErrDynamic), ("smithy/api.ErrCycle", laid_smithy_api_ErrCycle), ("smithy/api.ErrVisibility", laid_smithy_api_ErrVisibility), ("smithy/api.ErrAnalysis", laid_smithy_api_ErrAnalysis), ("smithy/api.ErrLimit", laid_smithy_api_ErrLimit), ("smithy/api.ErrMissing", laid_smithy_api_ErrMissing), ("smithy/api.ErrMany", laid_smithy_api_ErrMany), ("smithy/api.ErrKind", laid_smithy_api_ErrKind), ("smithy/api.ErrPath", laid_smithy_api_ErrPath), ("smithy/api.ErrShape", laid_smithy_api_ErrShape), ("smithy/api.ErrEnd", laid_smithy_api_ErrEnd), ("smithy/api.ErrRange", laid_smithy_api_ErrRange), ("smithy/api.ErrDown", laid_smithy_api_ErrDown), ("smithy/api.ErrFail", laid_smithy_api_ErrFail)] }
def ShowPairsSaid : Prop := showPairsRow.holds Tryz.pinned (OpenSpec.ofChange showPairsSpec)

/-- ITS FALSE NEIGHBOUR: 'it returns false'. Refute it at one input. -/
def showPairsWrong : ChangeSpec := { name := "showPairs", fn := fun _ => fun
  | [d1, d2, d3] => { results := [.lit (.bool false)], args := [d1, d2, d3] }
  | _ => none }
def ShowPairsWrongFalsely : Prop := showPairsRow.holds Tryz.pinned (OpenSpec.ofChange showPairsWrong)

/-- 'smithylaw8.ResolveText': WHATEVER THE INPUT: true; the input reads as it did. -/
def resolveTextSpec : ChangeSpec := { name := "resolveText", fn := fun _ => fun
  | [d1, d2] => { results := [.lit (.bool true)], args := [d1, d2] }
  | _ => none }
def resolveTextRow : OpenClaim := { program := "ytdepmlcnllofiaagreatdoor", sum := "61ff3b94be3349d1019301f5da61ab6b2f7d84ecc1c9d994a5e9571a980c8695", func := "smithy/smithylaw8.ResolveText", spec := "resolveText", inPlace := ["internal/bytealg.IndexByteString"], unfollowed := true, recurses := true, named := ["smithy/api.ErrLimit", "smithy/api.ErrLex", "smithy/api.ErrParse", "smithy/api.ErrResolve", "smithy/api.ErrMany", "smithy/api.ErrShape", "smithy/api.ErrDynamic", "smithy/api.ErrCycle", "smithy/api.ErrVisibility", "smithy/api.ErrAnalysis", "smithy/api.ErrMissing", "smithy/api.ErrKind", "smithy/api.ErrPath", "smithy/api.ErrEnd", "smithy/api.ErrRange", "smithy/api.ErrDown", "smithy/api.ErrFail"], apart := false, laid := [("smithy/api.ErrLex", laid_smithy_api_ErrLex), ("smithy/api.ErrParse", laid_smithy_api_ErrParse), ("smithy/api.ErrResolve", laid_smithy_api_ErrResolve), ("smithy/api.ErrDynamic", laid_smithy_api_ErrDynamic), ("smithy/api.ErrCycle", laid_smithy_api_ErrCycle), ("smithy/api.ErrVisibility", laid_smithy_api_ErrVisibility), ("smithy/api.ErrAnalysis", laid_smithy_api_ErrAnalysis), ("smithy/api.ErrLimit", laid_smithy_api_ErrLimit), ("smithy/api.ErrMissing", laid_smithy_api_ErrMissing), ("smithy/api.ErrMany", laid_smithy_api_ErrMany), ("smithy/api.ErrKind", laid_smithy_api_ErrKind), ("smithy/api.ErrPath", laid_smithy_api_ErrPath), ("smithy/api.ErrShape", laid_smithy_api_ErrShape), ("smithy/api.ErrEnd", laid_smithy_api_ErrEnd), ("smithy/api.ErrRange", laid_smithy_api_ErrRange), ("smithy/api.ErrDown", laid_smithy_api_ErrDown), ("smithy/api.ErrFail", laid_smithy_api_ErrFail)] }
def ResolveTextSaid : Prop := resolveTextRow.holds Tryz.pinned (OpenSpec.ofChange resolveTextSpec)

/-- ITS FALSE NEIGHBOUR: 'it returns false'. Refute it at one input. -/
def resolveTextWrong : ChangeSpec := { name := "resolveText", fn := fun _ => fun
  | [d1, d2] => { results := [.lit (.bool false)], args := [d1, d2] }
  | _ => none }
def ResolveTextWrongFalsely : Prop := resolveTextRow.holds Tryz.pinned (OpenSpec.ofChange resolveTextWrong)

/-- 'smithylaw8.ResolveNames': WHATEVER THE INPUT: true; the input reads as it did. -/
def resolveNamesSpec : ChangeSpec := { name := "resolveNames", fn := fun _ => fun
  | [d1, d2, d3] => { results := [.lit (.bool true)], args := [d1, d2, d3] }
  | _ => none }
def resolveNamesRow : OpenClaim := { program := "ytdepmlcnllofiaagreatdoor", sum := "61ff3b94be3349d1019301f5da61ab6b2f7d84ecc1c9d994a5e9571a980c8695", func := "smithy/smithylaw8.ResolveNames", spec := "resolveNames", inPlace := ["internal/bytealg.IndexByteString"], unfollowed := true, recurses := true, named := ["smithy/api.ErrLimit", "smithy/api.ErrLex", "smithy/api.ErrParse", "smithy/api.ErrResolve", "smithy/api.ErrMany", "smithy/api.ErrShape", "smithy/api.ErrDynamic", "smithy/api.ErrCycle", "smithy/api.ErrVisibility", "smithy/api.ErrAnalysis", "smithy/api.ErrMissing", "smithy/api.ErrKind", "smithy/api.ErrPath", "smithy/api.ErrEnd", "smithy/api.ErrRange", "smithy/api.ErrDown", "smithy/api.ErrFail"], apart := false, laid := [("smithy/api.ErrLex", laid_smithy_api_ErrLex), ("smithy/api.ErrParse", laid_smithy_api_ErrParse), ("smithy/api.ErrResolve", laid_smithy_api_ErrResolve), ("smithy/api.ErrDynamic", laid_smithy_api_ErrDynamic), ("smithy/api.ErrCycle", laid_smithy_api_ErrCycle), ("smithy/api.ErrVisibility", laid_smithy_api_ErrVisibility), ("smithy/api.ErrAnalysis", laid_smithy_api_ErrAnalysis), ("smithy/api.ErrLimit", laid_smithy_api_ErrLimit), ("smithy/api.ErrMissing", laid_smithy_api_ErrMissing), ("smithy/api.ErrMany", laid_smithy_api_ErrMany), ("smithy/api.ErrKind", laid_smithy_api_ErrKind), ("smithy/api.ErrPath", laid_smithy_api_ErrPath), ("smithy/api.ErrShape", laid_smithy_api_ErrShape), ("smithy/api.ErrEnd", laid_smithy_api_ErrEnd), ("smithy/api.ErrRange", laid_smithy_api_ErrRange), ("smithy/api.ErrDown", laid_smithy_api_ErrDown), ("smithy/api.ErrFail", laid_smithy_api_ErrFail)] }
def ResolveNamesSaid : Prop := resolveNamesRow.holds Tryz.pinned (OpenSpec.ofChange resolveNamesSpec)

/-- ITS FALSE NEIGHBOUR: 'it returns false'. Refute it at one input. -/
def resolveNamesWrong : ChangeSpec := { name := "resolveNames", fn := fun _ => fun
  | [d1, d2, d3] => { results := [.lit (.bool false)], args := [d1, d2, d3] }
  | _ => none }
def ResolveNamesWrongFalsely : Prop := resolveNamesRow.holds Tryz.pinned (OpenSpec.ofChange resolveNamesWrong)

/-- 'smithylaw8.ResolveComps': WHATEVER THE INPUT: true; the input reads as it did. -/
def resolveCompsSpec : ChangeSpec := { name := "resolveComps", fn := fun _ => fun
  | [d1, d2] => { results := [.lit (.bool true)], args := [d1, d2] }
  | _ => none }
def resolveCompsRow : OpenClaim := { program := "ytdepmlcnllofiaagreatdoor", sum := "61ff3b94be3349d1019301f5da61ab6b2f7d84ecc1c9d994a5e9571a980c8695", func := "smithy/smithylaw8.ResolveComps", spec := "resolveComps", inPlace := ["internal/bytealg.IndexByteString"], unfollowed := true, recurses := true, named := ["smithy/api.ErrLimit", "smithy/api.ErrLex", "smithy/api.ErrParse", "smithy/api.ErrResolve", "smithy/api.ErrMany", "smithy/api.ErrShape", "smithy/api.ErrDynamic", "smithy/api.ErrCycle", "smithy/api.ErrVisibility", "smithy/api.ErrAnalysis", "smithy/api.ErrMissing", "smithy/api.ErrKind", "smithy/api.ErrPath", "smithy/api.ErrEnd", "smithy/api.ErrRange", "smithy/api.ErrDown", "smithy/api.ErrFail"], apart := false, laid := [("smithy/api.ErrLex", laid_smithy_api_ErrLex), ("smithy/api.ErrParse", laid_smithy_api_ErrParse), ("smithy/api.ErrResolve", laid_smithy_api_ErrResolve), ("smithy/api.ErrDynamic", laid_smithy_api_ErrDynamic), ("smithy/api.ErrCycle", laid_smithy_api_ErrCycle), ("smithy/api.ErrVisibility", laid_smithy_api_ErrVisibility), ("smithy/api.ErrAnalysis", laid_smithy_api_ErrAnalysis), ("smithy/api.ErrLimit", laid_smithy_api_ErrLimit), ("smithy/api.ErrMissing", laid_smithy_api_ErrMissing), ("smithy/api.ErrMany", laid_smithy_api_ErrMany), ("smithy/api.ErrKind", laid_smithy_api_ErrKind), ("smithy/api.ErrPath", laid_smithy_api_ErrPath), ("smithy/api.ErrShape", laid_smithy_api_ErrShape), ("smithy/api.ErrEnd", laid_smithy_api_ErrEnd), ("smithy/api.ErrRange", laid_smithy_api_ErrRange), ("smithy/api.ErrDown", laid_smithy_api_ErrDown), ("smithy/api.ErrFail", laid_smithy_api_ErrFail)] }
def ResolveCompsSaid : Prop := resolveCompsRow.holds Tryz.pinned (OpenSpec.ofChange resolveCompsSpec)

/-- ITS FALSE NEIGHBOUR: 'it returns false'. Refute it at one input. -/
def resolveCompsWrong : ChangeSpec := { name := "resolveComps", fn := fun _ => fun
  | [d1, d2] => { results := [.lit (.bool false)], args := [d1, d2] }
  | _ => none }
def ResolveCompsWrongFalsely : Prop := resolveCompsRow.holds Tryz.pinned (OpenSpec.ofChange resolveCompsWrong)

/-- 'smithylaw7.ShowBack': WHATEVER THE INPUT: true; the input reads as it did. -/
def showBackSpec : ChangeSpec := { name := "showBack", fn := fun _ => fun
  | [d] => { results := [.lit (.bool true)], args := [d] }
  | _ => none }
def showBackRow : OpenClaim := { program := "ytdepmlcnllofiaagreatdoor", sum := "61ff3b94be3349d1019301f5da61ab6b2f7d84ecc1c9d994a5e9571a980c8695", func := "smithy/smithylaw7.ShowBack", spec := "showBack", inPlace := ["internal/bytealg.IndexByteString", "internal/abi.NoEscape", "internal/bytealg.MakeNoZero"], unfollowed := true, recurses := true, named := ["smithy/api.ErrLimit", "smithy/api.ErrLex", "smithy/api.ErrParse", "smithy/api.ErrMany", "smithy/api.ErrShape", "smithy/api.ErrResolve", "smithy/api.ErrDynamic", "smithy/api.ErrCycle", "smithy/api.ErrVisibility", "smithy/api.ErrAnalysis", "smithy/api.ErrMissing", "smithy/api.ErrKind", "smithy/api.ErrPath", "smithy/api.ErrEnd", "smithy/api.ErrRange", "smithy/api.ErrDown", "smithy/api.ErrFail"], apart := false, laid := [("smithy/api.ErrLex", laid_smithy_api_ErrLex), ("smithy/api.ErrParse", laid_smithy_api_ErrParse), ("smithy/api.ErrResolve", laid_smithy_api_ErrResolve), ("smithy/api.ErrDynamic", laid_smithy_api_ErrDynamic), ("smithy/api.ErrCycle", laid_smithy_api_ErrCycle), ("smithy/api.ErrVisibility", laid_smithy_api_ErrVisibility), ("smithy/api.ErrAnalysis", laid_smithy_api_ErrAnalysis), ("smithy/api.ErrLimit", laid_smithy_api_ErrLimit), ("smithy/api.ErrMissing", laid_smithy_api_ErrMissing), ("smithy/api.ErrMany", laid_smithy_api_ErrMany), ("smithy/api.ErrKind", laid_smithy_api_ErrKind), ("smithy/api.ErrPath", laid_smithy_api_ErrPath), ("smithy/api.ErrShape", laid_smithy_api_ErrShape), ("smithy/api.ErrEnd", laid_smithy_api_ErrEnd), ("smithy/api.ErrRange", laid_smithy_api_ErrRange), ("smithy/api.ErrDown", laid_smithy_api_ErrDown), ("smithy/api.ErrFail", laid_smithy_api_ErrFail)] }
def ShowBackSaid : Prop := showBackRow.holds Tryz.pinned (OpenSpec.ofChange showBackSpec)

/-- ITS FALSE NEIGHBOUR: 'it returns false'. Refute it at one input. -/
def showBackWrong : ChangeSpec := { name := "showBack", fn := fun _ => fun
  | [d] => { results := [.lit (.bool false)], args := [d] }
  | _ => none }
def ShowBackWrongFalsely : Prop := showBackRow.holds Tryz.pinned (OpenSpec.ofChange showBackWrong)

/- THE SECOND FORM. 'bulk': how many values and letters a reading holds, each counted each time it is reached (what is shared counts as often as it is met; a slice's spare places count too). A statement '..UptoSaid' is the law's where the arguments, and the package variables that the reading takes, are together of bulk at most 1048576: NARROWER than '..Said'. Prove '..Said' where nothing that the law and all that it calls make is longer than what came in: it says more and counts as full. Else prove '..UptoSaid'. A law counts once. -/
mutual
def uptoBulk {H : Type} : DataW H → Nat
  | .lit (.string bytes) => bytes.length + 1
  | .lit _ => 1
  | .nil => 1
  | .ptr d => uptoBulk d + 1
  | .slice elems spare => uptoBulkAll elems + uptoBulkAll spare + 1
  | .agg parts => uptoBulkAll parts + 1
  | .iface _ d => uptoBulk d + 1
  | .map entries => uptoBulkEntries entries + 1
  | .held _ => 1
def uptoBulkAll {H : Type} : List (DataW H) → Nat
  | [] => 0
  | d :: r => uptoBulk d + uptoBulkAll r
def uptoBulkEntries {H : Type} : List (Lit × DataW H) → Nat
  | [] => 0
  | x :: r => uptoBulkEntry x + uptoBulkEntries r
def uptoBulkEntry {H : Type} : Lit × DataW H → Nat
  | (.string bytes, d) => bytes.length + uptoBulk d + 1
  | (_, d) => uptoBulk d + 1
 end
def uptoSmall : (H : Type) → List (DataW H) → Bool := fun _ ds => decide (uptoBulkAll ds ≤ 1048576)
def OpenSpec.upto (s : _root_.Go.ChangeSpec) : _root_.Go.OpenSpec := { _root_.Go.OpenSpec.ofChange s with cond := some uptoSmall }

/-- 'smithylaw6.ParseValid', WHERE WHAT IT READS IS OF BULK AT MOST 1048576: true; the input reads as it did. -/
def parseValidUptoRow : OpenClaim := { program := "ytdepmlcnllofiaagreatdoor", sum := "61ff3b94be3349d1019301f5da61ab6b2f7d84ecc1c9d994a5e9571a980c8695", func := "smithy/smithylaw6.ParseValid", spec := "parseValid", inPlace := ["internal/bytealg.IndexByteString"], unfollowed := true, recurses := true, named := ["smithy/api.ErrLimit", "smithy/api.ErrLex", "smithy/api.ErrParse", "smithy/api.ErrMany", "smithy/api.ErrShape"], apart := false, laid := [("smithy/api.ErrLex", laid_smithy_api_ErrLex), ("smithy/api.ErrParse", laid_smithy_api_ErrParse), ("smithy/api.ErrLimit", laid_smithy_api_ErrLimit), ("smithy/api.ErrMany", laid_smithy_api_ErrMany), ("smithy/api.ErrShape", laid_smithy_api_ErrShape)], narrowed := true }
def ParseValidUptoSaid : Prop := parseValidUptoRow.holds Tryz.pinned (OpenSpec.upto parseValidSpec)

/-- 'smithylaw6.ParseDeep', WHERE WHAT IT READS IS OF BULK AT MOST 1048576: true; the input reads as it did. -/
def parseDeepUptoRow : OpenClaim := { program := "ytdepmlcnllofiaagreatdoor", sum := "61ff3b94be3349d1019301f5da61ab6b2f7d84ecc1c9d994a5e9571a980c8695", func := "smithy/smithylaw6.ParseDeep", spec := "parseDeep", inPlace := ["internal/bytealg.IndexByteString"], unfollowed := true, recurses := true, named := ["smithy/api.ErrLimit", "smithy/api.ErrLex", "smithy/api.ErrParse", "smithy/api.ErrResolve", "smithy/api.ErrDynamic", "smithy/api.ErrCycle", "smithy/api.ErrVisibility", "smithy/api.ErrAnalysis", "smithy/api.ErrMissing", "smithy/api.ErrMany", "smithy/api.ErrKind", "smithy/api.ErrPath", "smithy/api.ErrShape", "smithy/api.ErrEnd", "smithy/api.ErrRange", "smithy/api.ErrDown", "smithy/api.ErrFail"], apart := false, laid := [("smithy/api.ErrLex", laid_smithy_api_ErrLex), ("smithy/api.ErrParse", laid_smithy_api_ErrParse), ("smithy/api.ErrResolve", laid_smithy_api_ErrResolve), ("smithy/api.ErrDynamic", laid_smithy_api_ErrDynamic), ("smithy/api.ErrCycle", laid_smithy_api_ErrCycle), ("smithy/api.ErrVisibility", laid_smithy_api_ErrVisibility), ("smithy/api.ErrAnalysis", laid_smithy_api_ErrAnalysis), ("smithy/api.ErrLimit", laid_smithy_api_ErrLimit), ("smithy/api.ErrMissing", laid_smithy_api_ErrMissing), ("smithy/api.ErrMany", laid_smithy_api_ErrMany), ("smithy/api.ErrKind", laid_smithy_api_ErrKind), ("smithy/api.ErrPath", laid_smithy_api_ErrPath), ("smithy/api.ErrShape", laid_smithy_api_ErrShape), ("smithy/api.ErrEnd", laid_smithy_api_ErrEnd), ("smithy/api.ErrRange", laid_smithy_api_ErrRange), ("smithy/api.ErrDown", laid_smithy_api_ErrDown), ("smithy/api.ErrFail", laid_smithy_api_ErrFail)], narrowed := true }
def ParseDeepUptoSaid : Prop := parseDeepUptoRow.holds Tryz.pinned (OpenSpec.upto parseDeepSpec)

/-- 'smithylaw7.ShowPairs', WHERE WHAT IT READS IS OF BULK AT MOST 1048576: true; the input reads as it did. -/
def showPairsUptoRow : OpenClaim := { program := "ytdepmlcnllofiaagreatdoor", sum := "61ff3b94be3349d1019301f5da61ab6b2f7d84ecc1c9d994a5e9571a980c8695", func := "smithy/smithylaw7.ShowPairs", spec := "showPairs", inPlace := ["internal/bytealg.IndexByteString", "internal/abi.NoEscape"], unfollowed := true, recurses := true, named := ["smithy/api.ErrLimit", "smithy/api.ErrLex", "smithy/api.ErrParse", "smithy/api.ErrMany", "smithy/api.ErrShape", "smithy/api.ErrResolve", "smithy/api.ErrDynamic", "smithy/api.ErrCycle", "smithy/api.ErrVisibility", "smithy/api.ErrAnalysis", "smithy/api.ErrMissing", "smithy/api.ErrKind", "smithy/api.ErrPath", "smithy/api.ErrEnd", "smithy/api.ErrRange", "smithy/api.ErrDown", "smithy/api.ErrFail"], apart := false, laid := [("smithy/api.ErrLex", laid_smithy_api_ErrLex), ("smithy/api.ErrParse", laid_smithy_api_ErrParse), ("smithy/api.ErrResolve", laid_smithy_api_ErrResolve), ("smithy/api.ErrDynamic", laid_smithy_api_ErrDynamic), ("smithy/api.ErrCycle", laid_smithy_api_ErrCycle), ("smithy/api.ErrVisibility", laid_smithy_api_ErrVisibility), ("smithy/api.ErrAnalysis", laid_smithy_api_ErrAnalysis), ("smithy/api.ErrLimit", laid_smithy_api_ErrLimit), ("smithy/api.ErrMissing", laid_smithy_api_ErrMissing), ("smithy/api.ErrMany", laid_smithy_api_ErrMany), ("smithy/api.ErrKind", laid_smithy_api_ErrKind), ("smithy/api.ErrPath", laid_smithy_api_ErrPath), ("smithy/api.ErrShape", laid_smithy_api_ErrShape), ("smithy/api.ErrEnd", laid_smithy_api_ErrEnd), ("smithy/api.ErrRange", laid_smithy_api_ErrRange), ("smithy/api.ErrDown", laid_smithy_api_ErrDown), ("smithy/api.ErrFail", laid_smithy_api_ErrFail)], narrowed := true }
def ShowPairsUptoSaid : Prop := showPairsUptoRow.holds Tryz.pinned (OpenSpec.upto showPairsSpec)

/-- 'smithylaw8.ResolveText', WHERE WHAT IT READS IS OF BULK AT MOST 1048576: true; the input reads as it did. -/
def resolveTextUptoRow : OpenClaim := { program := "ytdepmlcnllofiaagreatdoor", sum := "61ff3b94be3349d1019301f5da61ab6b2f7d84ecc1c9d994a5e9571a980c8695", func := "smithy/smithylaw8.ResolveText", spec := "resolveText", inPlace := ["internal/bytealg.IndexByteString"], unfollowed := true, recurses := true, named := ["smithy/api.ErrLimit", "smithy/api.ErrLex", "smithy/api.ErrParse", "smithy/api.ErrResolve", "smithy/api.ErrMany", "smithy/api.ErrShape", "smithy/api.ErrDynamic", "smithy/api.ErrCycle", "smithy/api.ErrVisibility", "smithy/api.ErrAnalysis", "smithy/api.ErrMissing", "smithy/api.ErrKind", "smithy/api.ErrPath", "smithy/api.ErrEnd", "smithy/api.ErrRange", "smithy/api.ErrDown", "smithy/api.ErrFail"], apart := false, laid := [("smithy/api.ErrLex", laid_smithy_api_ErrLex), ("smithy/api.ErrParse", laid_smithy_api_ErrParse), ("smithy/api.ErrResolve", laid_smithy_api_ErrResolve), ("smithy/api.ErrDynamic", laid_smithy_api_ErrDynamic), ("smithy/api.ErrCycle", laid_smithy_api_ErrCycle), ("smithy/api.ErrVisibility", laid_smithy_api_ErrVisibility), ("smithy/api.ErrAnalysis", laid_smithy_api_ErrAnalysis), ("smithy/api.ErrLimit", laid_smithy_api_ErrLimit), ("smithy/api.ErrMissing", laid_smithy_api_ErrMissing), ("smithy/api.ErrMany", laid_smithy_api_ErrMany), ("smithy/api.ErrKind", laid_smithy_api_ErrKind), ("smithy/api.ErrPath", laid_smithy_api_ErrPath), ("smithy/api.ErrShape", laid_smithy_api_ErrShape), ("smithy/api.ErrEnd", laid_smithy_api_ErrEnd), ("smithy/api.ErrRange", laid_smithy_api_ErrRange), ("smithy/api.ErrDown", laid_smithy_api_ErrDown), ("smithy/api.ErrFail", laid_smithy_api_ErrFail)], narrowed := true }
def ResolveTextUptoSaid : Prop := resolveTextUptoRow.holds Tryz.pinned (OpenSpec.upto resolveTextSpec)

/-- 'smithylaw8.ResolveNames', WHERE WHAT IT READS IS OF BULK AT MOST 1048576: true; the input reads as it did. -/
def resolveNamesUptoRow : OpenClaim := { program := "ytdepmlcnllofiaagreatdoor", sum := "61ff3b94be3349d1019301f5da61ab6b2f7d84ecc1c9d994a5e9571a980c8695", func := "smithy/smithylaw8.ResolveNames", spec := "resolveNames", inPlace := ["internal/bytealg.IndexByteString"], unfollowed := true, recurses := true, named := ["smithy/api.ErrLimit", "smithy/api.ErrLex", "smithy/api.ErrParse", "smithy/api.ErrResolve", "smithy/api.ErrMany", "smithy/api.ErrShape", "smithy/api.ErrDynamic", "smithy/api.ErrCycle", "smithy/api.ErrVisibility", "smithy/api.ErrAnalysis", "smithy/api.ErrMissing", "smithy/api.ErrKind", "smithy/api.ErrPath", "smithy/api.ErrEnd", "smithy/api.ErrRange", "smithy/api.ErrDown", "smithy/api.ErrFail"], apart := false, laid := [("smithy/api.ErrLex", laid_smithy_api_ErrLex), ("smithy/api.ErrParse", laid_smithy_api_ErrParse), ("smithy/api.ErrResolve", laid_smithy_api_ErrResolve), ("smithy/api.ErrDynamic", laid_smithy_api_ErrDynamic), ("smithy/api.ErrCycle", laid_smithy_api_ErrCycle), ("smithy/api.ErrVisibility", laid_smithy_api_ErrVisibility), ("smithy/api.ErrAnalysis", laid_smithy_api_ErrAnalysis), ("smithy/api.ErrLimit", laid_smithy_api_ErrLimit), ("smithy/api.ErrMissing", laid_smithy_api_ErrMissing), ("smithy/api.ErrMany", laid_smithy_api_ErrMany), ("smithy/api.ErrKind", laid_smithy_api_ErrKind), ("smithy/api.ErrPath", laid_smithy_api_ErrPath), ("smithy/api.ErrShape", laid_smithy_api_ErrShape), ("smithy/api.ErrEnd", laid_smithy_api_ErrEnd), ("smithy/api.ErrRange", laid_smithy_api_ErrRange), ("smithy/api.ErrDown", laid_smithy_api_ErrDown), ("smithy/api.ErrFail", laid_smithy_api_ErrFail)], narrowed := true }
def ResolveNamesUptoSaid : Prop := resolveNamesUptoRow.holds Tryz.pinned (OpenSpec.upto resolveNamesSpec)

/-- 'smithylaw8.ResolveComps', WHERE WHAT IT READS IS OF BULK AT MOST 1048576: true; the input reads as it did. -/
def resolveCompsUptoRow : OpenClaim := { program := "ytdepmlcnllofiaagreatdoor", sum := "61ff3b94be3349d1019301f5da61ab6b2f7d84ecc1c9d994a5e9571a980c8695", func := "smithy/smithylaw8.ResolveComps", spec := "resolveComps", inPlace := ["internal/bytealg.IndexByteString"], unfollowed := true, recurses := true, named := ["smithy/api.ErrLimit", "smithy/api.ErrLex", "smithy/api.ErrParse", "smithy/api.ErrResolve", "smithy/api.ErrMany", "smithy/api.ErrShape", "smithy/api.ErrDynamic", "smithy/api.ErrCycle", "smithy/api.ErrVisibility", "smithy/api.ErrAnalysis", "smithy/api.ErrMissing", "smithy/api.ErrKind", "smithy/api.ErrPath", "smithy/api.ErrEnd", "smithy/api.ErrRange", "smithy/api.ErrDown", "smithy/api.ErrFail"], apart := false, laid := [("smithy/api.ErrLex", laid_smithy_api_ErrLex), ("smithy/api.ErrParse", laid_smithy_api_ErrParse), ("smithy/api.ErrResolve", laid_smithy_api_ErrResolve), ("smithy/api.ErrDynamic", laid_smithy_api_ErrDynamic), ("smithy/api.ErrCycle", laid_smithy_api_ErrCycle), ("smithy/api.ErrVisibility", laid_smithy_api_ErrVisibility), ("smithy/api.ErrAnalysis", laid_smithy_api_ErrAnalysis), ("smithy/api.ErrLimit", laid_smithy_api_ErrLimit), ("smithy/api.ErrMissing", laid_smithy_api_ErrMissing), ("smithy/api.ErrMany", laid_smithy_api_ErrMany), ("smithy/api.ErrKind", laid_smithy_api_ErrKind), ("smithy/api.ErrPath", laid_smithy_api_ErrPath), ("smithy/api.ErrShape", laid_smithy_api_ErrShape), ("smithy/api.ErrEnd", laid_smithy_api_ErrEnd), ("smithy/api.ErrRange", laid_smithy_api_ErrRange), ("smithy/api.ErrDown", laid_smithy_api_ErrDown), ("smithy/api.ErrFail", laid_smithy_api_ErrFail)], narrowed := true }
def ResolveCompsUptoSaid : Prop := resolveCompsUptoRow.holds Tryz.pinned (OpenSpec.upto resolveCompsSpec)

/-- 'smithylaw7.ShowBack', WHERE WHAT IT READS IS OF BULK AT MOST 1048576: true; the input reads as it did. -/
def showBackUptoRow : OpenClaim := { program := "ytdepmlcnllofiaagreatdoor", sum := "61ff3b94be3349d1019301f5da61ab6b2f7d84ecc1c9d994a5e9571a980c8695", func := "smithy/smithylaw7.ShowBack", spec := "showBack", inPlace := ["internal/bytealg.IndexByteString", "internal/abi.NoEscape", "internal/bytealg.MakeNoZero"], unfollowed := true, recurses := true, named := ["smithy/api.ErrLimit", "smithy/api.ErrLex", "smithy/api.ErrParse", "smithy/api.ErrMany", "smithy/api.ErrShape", "smithy/api.ErrResolve", "smithy/api.ErrDynamic", "smithy/api.ErrCycle", "smithy/api.ErrVisibility", "smithy/api.ErrAnalysis", "smithy/api.ErrMissing", "smithy/api.ErrKind", "smithy/api.ErrPath", "smithy/api.ErrEnd", "smithy/api.ErrRange", "smithy/api.ErrDown", "smithy/api.ErrFail"], apart := false, laid := [("smithy/api.ErrLex", laid_smithy_api_ErrLex), ("smithy/api.ErrParse", laid_smithy_api_ErrParse), ("smithy/api.ErrResolve", laid_smithy_api_ErrResolve), ("smithy/api.ErrDynamic", laid_smithy_api_ErrDynamic), ("smithy/api.ErrCycle", laid_smithy_api_ErrCycle), ("smithy/api.ErrVisibility", laid_smithy_api_ErrVisibility), ("smithy/api.ErrAnalysis", laid_smithy_api_ErrAnalysis), ("smithy/api.ErrLimit", laid_smithy_api_ErrLimit), ("smithy/api.ErrMissing", laid_smithy_api_ErrMissing), ("smithy/api.ErrMany", laid_smithy_api_ErrMany), ("smithy/api.ErrKind", laid_smithy_api_ErrKind), ("smithy/api.ErrPath", laid_smithy_api_ErrPath), ("smithy/api.ErrShape", laid_smithy_api_ErrShape), ("smithy/api.ErrEnd", laid_smithy_api_ErrEnd), ("smithy/api.ErrRange", laid_smithy_api_ErrRange), ("smithy/api.ErrDown", laid_smithy_api_ErrDown), ("smithy/api.ErrFail", laid_smithy_api_ErrFail)], narrowed := true }
def ShowBackUptoSaid : Prop := showBackUptoRow.holds Tryz.pinned (OpenSpec.upto showBackSpec)

end Rows
end Go.Proofs.YtdepmlcnllofiaaGreatDoor
