/-
  Proved here: closed facts on the program's tables that the walks name.
-/
import Derived.Test.YtggoogbloaennaaDoorFa
import Derived.Test.YtggoogbloaennaaDoorProg
namespace Go.Proofs.YtggoogbloaennaaDoor.F
open Go.SX
theorem en19 : Enters Tryd.prog 19 := Enters.of Tryd.func19 (by kernel_rfl) (by kernel_rfl)
theorem en20 : Enters Tryd.prog 20 := Enters.of Tryd.func20 (by kernel_rfl) (by kernel_rfl)
theorem fo46_0 : FieldOff Tryd.prog 46 0 0 := fun b o w => by kernel_rfl
theorem sz46 : SizeIs Tryd.prog 46 3 := fun w => by kernel_rfl
end Go.Proofs.YtggoogbloaennaaDoor.F
