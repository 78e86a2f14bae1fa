/-
  NARROWER THAN 'FOR EVERY INPUT', by the rows' own cells (each row's printed sentence says how): AstRows: laid.
  DERIVED. THE GIVEN ROWS OF THIS SEAT. 1 by the template 'for every input the law returns true; each argument reads behind the call as it read before'; 0 by the template 'total and deterministic' (their statements: YtljaoofbklkglaaDoorTotals.lean).
  GIVEN WITH THE SEED: the statements are not yours to turn. If you find one false, say at which input.
  Laid BY PROGRAM, IN A SANDBOX (cutbox-rows.mjs): the forced cells as the released guide's own fill.sh prints them over the translation f3ad1f2d7a37e47c… (all of the seat's roots in one cut). By AI agents, Wed Nov 11 2026. No macro, syntax, notation, axiom, sorry.
-/
import Derived.Test.YtljaoofbklkglaaDoorChecked
import GoSem.Claim
import GoSem.ClaimJoined
import GoSem.ClaimMapViews
import Derived.JoinedTies
import Derived.KernelRfl
namespace Go.Proofs.YtljaoofbklkglaaDoor
/- THE CELL 'sum', in the pinned program and in every row, IS THE sha256 OF THE DUMP (.gsa) THAT YtljaoofbklkglaaDoorProg.lean LOADS. Nothing in Lean hashes anything: it is a label: what it is worth is what the hold of that sum in a sandbox is worth. -/
noncomputable def Tryd.pinned : Pinned := { name := "ytljaoofbklkglaadoor", sum := "f3ad1f2d7a37e47ce81404cfe47c5f8825f4ccd37d4b9c34f7cf786f48b51e23", checked := Tryd.checked }
namespace Rows
def none {H : Type} : Left H := { results := [], args := [] }

/- WHAT THE LISTED PACKAGE-LEVEL VARIABLES READ AS WHEN THE CALL BEGINS. Each datum BY PROGRAM (the guide's laid-datum.mjs) off the statement by which the dump's own 'gosem.cut.vars' lays the variable. In a bare row this is a premise. The card (YtljaoofbklkglaaDoorCards.lean) ties it to the program's text. -/
def laid_smithy_api_ErrMany {H : Type} : DataW H := .iface "*errors.errorString" (.ptr (.agg [.lit (.string [116, 111, 111, 32, 109, 97, 110, 121])]))
def laid_smithy_api_ErrShape {H : Type} : DataW H := .iface "*errors.errorString" (.ptr (.agg [.lit (.string [110, 111, 116, 32, 116, 104, 101, 32, 115, 104, 97, 112, 101, 32, 116, 104, 97, 116, 32, 105, 116, 32, 104, 97, 115, 32, 116, 111, 32, 104, 97, 118, 101])]))

/-- 'smithylaw5.AstRows': WHATEVER THE INPUT: true; the input reads as it did. -/
def astRowsSpec : ChangeSpec := { name := "astRows", fn := fun _ => fun
  | [d] => { results := [.lit (.bool true)], args := [d] }
  | _ => none }
def astRowsRow : OpenClaim := { program := "ytljaoofbklkglaadoor", sum := "f3ad1f2d7a37e47ce81404cfe47c5f8825f4ccd37d4b9c34f7cf786f48b51e23", func := "smithy/smithylaw5.AstRows", spec := "astRows", unfollowed := true, recurses := true, named := ["smithy/api.ErrMany", "smithy/api.ErrShape"], apart := false, laid := [("smithy/api.ErrMany", laid_smithy_api_ErrMany), ("smithy/api.ErrShape", laid_smithy_api_ErrShape)] }
def AstRowsSaid : Prop := astRowsRow.holds Tryd.pinned (OpenSpec.ofChange astRowsSpec)

/-- ITS FALSE NEIGHBOUR: 'it returns false'. Refute it at one input. -/
def astRowsWrong : ChangeSpec := { name := "astRows", fn := fun _ => fun
  | [d] => { results := [.lit (.bool false)], args := [d] }
  | _ => none }
def AstRowsWrongFalsely : Prop := astRowsRow.holds Tryd.pinned (OpenSpec.ofChange astRowsWrong)

/- THE SECOND FORM. 'bulk': how many values and letters a reading holds, each counted each time it is reached (what is shared counts as often as it is met; a slice's spare places count too). A statement '..UptoSaid' is the law's where the arguments, and the package variables that the reading takes, are together of bulk at most 1048576: NARROWER than '..Said'. Prove '..Said' where nothing that the law and all that it calls make is longer than what came in: it says more and counts as full. Else prove '..UptoSaid'. A law counts once. -/
mutual
def uptoBulk {H : Type} : DataW H → Nat
  | .lit (.string bytes) => bytes.length + 1
  | .lit _ => 1
  | .nil => 1
  | .ptr d => uptoBulk d + 1
  | .slice elems spare => uptoBulkAll elems + uptoBulkAll spare + 1
  | .agg parts => uptoBulkAll parts + 1
  | .iface _ d => uptoBulk d + 1
  | .map entries => uptoBulkEntries entries + 1
  | .held _ => 1
def uptoBulkAll {H : Type} : List (DataW H) → Nat
  | [] => 0
  | d :: r => uptoBulk d + uptoBulkAll r
def uptoBulkEntries {H : Type} : List (Lit × DataW H) → Nat
  | [] => 0
  | x :: r => uptoBulkEntry x + uptoBulkEntries r
def uptoBulkEntry {H : Type} : Lit × DataW H → Nat
  | (.string bytes, d) => bytes.length + uptoBulk d + 1
  | (_, d) => uptoBulk d + 1
 end
def uptoSmall : (H : Type) → List (DataW H) → Bool := fun _ ds => decide (uptoBulkAll ds ≤ 1048576)
def OpenSpec.upto (s : _root_.Go.ChangeSpec) : _root_.Go.OpenSpec := { _root_.Go.OpenSpec.ofChange s with cond := some uptoSmall }

/-- 'smithylaw5.AstRows', WHERE WHAT IT READS IS OF BULK AT MOST 1048576: true; the input reads as it did. -/
def astRowsUptoRow : OpenClaim := { program := "ytljaoofbklkglaadoor", sum := "f3ad1f2d7a37e47ce81404cfe47c5f8825f4ccd37d4b9c34f7cf786f48b51e23", func := "smithy/smithylaw5.AstRows", spec := "astRows", unfollowed := true, recurses := true, named := ["smithy/api.ErrMany", "smithy/api.ErrShape"], apart := false, laid := [("smithy/api.ErrMany", laid_smithy_api_ErrMany), ("smithy/api.ErrShape", laid_smithy_api_ErrShape)], narrowed := true }
def AstRowsUptoSaid : Prop := astRowsUptoRow.holds Tryd.pinned (OpenSpec.upto astRowsSpec)

end Rows
end Go.Proofs.YtljaoofbklkglaaDoor
