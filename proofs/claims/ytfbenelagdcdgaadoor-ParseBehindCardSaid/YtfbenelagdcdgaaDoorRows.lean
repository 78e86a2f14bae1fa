/-
  NARROWER THAN 'FOR EVERY INPUT', by the rows' own cells (each row's printed sentence says how): ParseBehind: laid.
  DERIVED. THE GIVEN ROWS OF THIS SEAT. 1 by the template 'for every input the law returns true; each argument reads behind the call as it read before'; 0 by the template 'total and deterministic' (their statements: YtfbenelagdcdgaaDoorTotals.lean).
  GIVEN WITH THE SEED: the statements are not yours to turn. If you find one false, say at which input.
  Laid BY PROGRAM, IN A SANDBOX (cutbox-rows.mjs): the forced cells as the released guide's own fill.sh prints them over the translation fe735509f1e15ff2… (all of the seat's roots in one cut). By AI agents, Wed Nov 11 2026. No macro, syntax, notation, axiom, sorry.
-/
import Derived.Test.YtfbenelagdcdgaaDoorChecked
import GoSem.Claim
import GoSem.ClaimJoined
import GoSem.ClaimMapViews
import Derived.JoinedTies
import Derived.KernelRfl
namespace Go.Proofs.YtfbenelagdcdgaaDoor
/- THE CELL 'sum', in the pinned program and in every row, IS THE sha256 OF THE DUMP (.gsa) THAT YtfbenelagdcdgaaDoorProg.lean LOADS. Nothing in Lean hashes anything: it is a label: what it is worth is what the hold of that sum in a sandbox is worth. -/
noncomputable def Tryd.pinned : Pinned := { name := "ytfbenelagdcdgaadoor", sum := "fe735509f1e15ff24c09cecaca77dcd8c8cfb2da68ca10225397098d209bdba6", checked := Tryd.checked }
namespace Rows
def none {H : Type} : Left H := { results := [], args := [] }

/- WHAT THE LISTED PACKAGE-LEVEL VARIABLES READ AS WHEN THE CALL BEGINS. Each datum BY PROGRAM (the guide's laid-datum.mjs) off the statement by which the dump's own 'gosem.cut.vars' lays the variable. In a bare row this is a premise. The card (YtfbenelagdcdgaaDoorCards.lean) ties it to the program's text. -/
def laid_smithy_api_ErrLex {H : Type} : DataW H := .iface "*errors.errorString" (.ptr (.agg [.lit (.string [108, 101, 120])]))
def laid_smithy_api_ErrParse {H : Type} : DataW H := .iface "*errors.errorString" (.ptr (.agg [.lit (.string [112, 97, 114, 115, 101])]))
def laid_smithy_api_ErrLimit {H : Type} : DataW H := .iface "*errors.errorString" (.ptr (.agg [.lit (.string [108, 105, 109, 105, 116])]))

/-- 'smithylaw6.ParseBehind': WHATEVER THE INPUT: true; the input reads as it did. -/
def parseBehindSpec : ChangeSpec := { name := "parseBehind", fn := fun _ => fun
  | [d] => { results := [.lit (.bool true)], args := [d] }
  | _ => none }
def parseBehindRow : OpenClaim := { program := "ytfbenelagdcdgaadoor", sum := "fe735509f1e15ff24c09cecaca77dcd8c8cfb2da68ca10225397098d209bdba6", func := "smithy/smithylaw6.ParseBehind", spec := "parseBehind", inPlace := ["internal/bytealg.IndexByteString"], unfollowed := true, recurses := true, named := ["smithy/api.ErrLimit", "smithy/api.ErrLex", "smithy/api.ErrParse"], apart := false, laid := [("smithy/api.ErrLex", laid_smithy_api_ErrLex), ("smithy/api.ErrParse", laid_smithy_api_ErrParse), ("smithy/api.ErrLimit", laid_smithy_api_ErrLimit)] }
def ParseBehindSaid : Prop := parseBehindRow.holds Tryd.pinned (OpenSpec.ofChange parseBehindSpec)

/-- ITS FALSE NEIGHBOUR: 'it returns false'. Refute it at one input. -/
def parseBehindWrong : ChangeSpec := { name := "parseBehind", fn := fun _ => fun
  | [d] => { results := [.lit (.bool false)], args := [d] }
  | _ => none }
def ParseBehindWrongFalsely : Prop := parseBehindRow.holds Tryd.pinned (OpenSpec.ofChange parseBehindWrong)

/- THE SECOND FORM. 'bulk': how many values and letters a reading holds, each counted each time it is reached (what is shared counts as often as it is met; a slice's spare places count too). A statement '..UptoSaid' is the law's where the arguments, and the package variables that the reading takes, are together of bulk at most 1048576: NARROWER than '..Said'. Prove '..Said' where nothing that the law and all that it calls make is longer than what came in: it says more and counts as full. Else prove '..UptoSaid'. A law counts once. -/
mutual
def uptoBulk {H : Type} : DataW H → Nat
  | .lit (.string bytes) => bytes.length + 1
  | .lit _ => 1
  | .nil => 1
  | .ptr d => uptoBulk d + 1
  | .slice elems spare => uptoBulkAll elems + uptoBulkAll spare + 1
  | .agg parts => uptoBulkAll parts + 1
  | .iface _ d => uptoBulk d + 1
  | .map entries => uptoBulkEntries entries + 1
  | .held _ => 1
def uptoBulkAll {H : Type} : List (DataW H) → Nat
  | [] => 0
  | d :: r => uptoBulk d + uptoBulkAll r
def uptoBulkEntries {H : Type} : List (Lit × DataW H) → Nat
  | [] => 0
  | x :: r => uptoBulkEntry x + uptoBulkEntries r
def uptoBulkEntry {H : Type} : Lit × DataW H → Nat
  | (.string bytes, d) => bytes.length + uptoBulk d + 1
  | (_, d) => uptoBulk d + 1
 end
def uptoSmall : (H : Type) → List (DataW H) → Bool := fun _ ds => decide (uptoBulkAll ds ≤ 1048576)
def OpenSpec.upto (s : _root_.Go.ChangeSpec) : _root_.Go.OpenSpec := { _root_.Go.OpenSpec.ofChange s with cond := some uptoSmall }

/-- 'smithylaw6.ParseBehind', WHERE WHAT IT READS IS OF BULK AT MOST 1048576: true; the input reads as it did. -/
def parseBehindUptoRow : OpenClaim := { program := "ytfbenelagdcdgaadoor", sum := "fe735509f1e15ff24c09cecaca77dcd8c8cfb2da68ca10225397098d209bdba6", func := "smithy/smithylaw6.ParseBehind", spec := "parseBehind", inPlace := ["internal/bytealg.IndexByteString"], unfollowed := true, recurses := true, named := ["smithy/api.ErrLimit", "smithy/api.ErrLex", "smithy/api.ErrParse"], apart := false, laid := [("smithy/api.ErrLex", laid_smithy_api_ErrLex), ("smithy/api.ErrParse", laid_smithy_api_ErrParse), ("smithy/api.ErrLimit", laid_smithy_api_ErrLimit)], narrowed := true }
def ParseBehindUptoSaid : Prop := parseBehindUptoRow.holds Tryd.pinned (OpenSpec.upto parseBehindSpec)

end Rows
end Go.Proofs.YtfbenelagdcdgaaDoor
