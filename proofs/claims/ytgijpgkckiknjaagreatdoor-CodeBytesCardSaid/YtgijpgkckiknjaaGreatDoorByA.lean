/-
  Proved here: bounds.
-/
import Derived.Test.YtgijpgkckiknjaaGreatDoorCkS
import Derived.Test.YtgijpgkckiknjaaGreatDoorTrQ
import Derived.Test.YtgijpgkckiknjaaGreatDoorCkQ
import Derived.Test.YtgijpgkckiknjaaGreatDoorProg
namespace Go.Proofs.YtgijpgkckiknjaaGreatDoor
open Go.SX Go.RowKit Go.Ck Go.Lex
namespace Ga

end Ga
theorem CkAt.push {w0 w : World} {base : Nat} {its : List It} {X : Cx} {p : Pg} {f : Fc} (h : CkAt (Lies w0 base) X p f) (hw : WA w0 base its w) : CkAt (Lies w w.heap.size) X p f := ⟨h.hF.push hw, h.hC.push hw, h.hG.push hw, h.hN.push hw, h.hM.push hw, h.hD.push hw, h.small⟩
/-- bounds -/
def midB (p : Pg) : Prop := (p.funcs.length ≤ 1048576 ∧ (p.consts.length ≤ 1048576 ∧ ∀ x ∈ p.consts, x.kids.length ≤ 1048576 ∧ x.s.length ≤ 1048576) ∧ (p.globals.length ≤ 1048576 ∧ ∀ s ∈ p.globals, s.length ≤ 1048576) ∧ (p.names.length ≤ 1048576 ∧ ∀ s ∈ p.names, s.length ≤ 1048576)) ∧
  ∀ f ∈ p.funcs, f.code.length ≤ 1048576 ∧ f.name.length ≤ 1048576 ∧ (f.names.length ≤ 1048576 ∧ ∀ s ∈ f.names, s.length ≤ 1048576)
end Go.Proofs.YtgijpgkckiknjaaGreatDoor
