/-
  Proved here: closed facts on the program's tables that the walks name.
-/
import Derived.Test.YtggoogbloaennaaDoorFq
import Derived.Test.YtggoogbloaennaaDoorProg
namespace Go.Proofs.YtggoogbloaennaaDoor.Fe
open Go.SX
theorem en23 : Enters Tryd.prog 23 := Enters.of Tryd.func23 (by kernel_rfl) (by kernel_rfl)
theorem en25 : Enters Tryd.prog 25 := Enters.of Tryd.func25 (by kernel_rfl) (by kernel_rfl)
theorem en26 : Enters Tryd.prog 26 := Enters.of Tryd.func26 (by kernel_rfl) (by kernel_rfl)
theorem en27 : Enters Tryd.prog 27 := Enters.of Tryd.func27 (by kernel_rfl) (by kernel_rfl)
theorem en28 : Enters Tryd.prog 28 := Enters.of Tryd.func28 (by kernel_rfl) (by kernel_rfl)
theorem en29 : Enters Tryd.prog 29 := Enters.of Tryd.func29 (by kernel_rfl) (by kernel_rfl)
theorem en51 : Enters Tryd.prog 51 := Enters.of Tryd.func51 (by kernel_rfl) (by kernel_rfl)
theorem en52 : Enters Tryd.prog 52 := Enters.of Tryd.func52 (by kernel_rfl) (by kernel_rfl)
theorem en53 : Enters Tryd.prog 53 := Enters.of Tryd.func53 (by kernel_rfl) (by kernel_rfl)
theorem en61 : Enters Tryd.prog 61 := Enters.of Tryd.func61 (by kernel_rfl) (by kernel_rfl)
theorem un4 : Tryd.prog.underlying 4 = some .bool := by kernel_rfl
end Go.Proofs.YtggoogbloaennaaDoor.Fe
