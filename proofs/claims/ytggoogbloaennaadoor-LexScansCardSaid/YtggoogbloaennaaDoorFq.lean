/-
  Proved here: closed facts on the program's tables that the walks name.
-/
import Derived.Test.YtggoogbloaennaaDoorFb
import Derived.Test.YtggoogbloaennaaDoorProg
namespace Go.Proofs.YtggoogbloaennaaDoor.F
open Go.SX
theorem en23 : Enters Tryd.prog 23 := Enters.of Tryd.func23 (by kernel_rfl) (by kernel_rfl)
theorem fo46_1 : FieldOff Tryd.prog 46 1 1 := fun b o w => by kernel_rfl
theorem fo46_2 : FieldOff Tryd.prog 46 2 2 := fun b o w => by kernel_rfl
end Go.Proofs.YtggoogbloaennaaDoor.F
