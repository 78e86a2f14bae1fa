/-
  Proved here: closed facts on the program's tables that the walks name.
-/
import Derived.Test.YtggoogbloaennaaDoorFb
import Derived.Test.YtggoogbloaennaaDoorProg
namespace Go.Proofs.YtggoogbloaennaaDoor.Fk
open Go.SX
theorem en17 : Enters Tryd.prog 17 := Enters.of Tryd.func17 (by kernel_rfl) (by kernel_rfl)
theorem en18 : Enters Tryd.prog 18 := Enters.of Tryd.func18 (by kernel_rfl) (by kernel_rfl)
end Go.Proofs.YtggoogbloaennaaDoor.Fk
