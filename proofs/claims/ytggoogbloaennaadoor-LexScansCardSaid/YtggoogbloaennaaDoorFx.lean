/-
  Proved here: closed facts on the program's tables that the walks name.
-/
import Derived.Test.YtggoogbloaennaaDoorFa
import Derived.Test.YtggoogbloaennaaDoorAgg
import Derived.Test.YtggoogbloaennaaDoorProg
namespace Go.Proofs.YtggoogbloaennaaDoor.Fx
open Go.SX
theorem ag35 : AggT Tryd.prog 35 5 := AggT.of (by kernel_rfl) (by kernel_rfl)
theorem ag46 : AggT Tryd.prog 46 3 := AggT.of (by kernel_rfl) (by kernel_rfl)
theorem en17 : Enters Tryd.prog 17 := Enters.of Tryd.func17 (by kernel_rfl) (by kernel_rfl)
theorem en21 : Enters Tryd.prog 21 := Enters.of Tryd.func21 (by kernel_rfl) (by kernel_rfl)
theorem en22 : Enters Tryd.prog 22 := Enters.of Tryd.func22 (by kernel_rfl) (by kernel_rfl)
theorem en57 : Enters Tryd.prog 57 := Enters.of Tryd.func57 (by kernel_rfl) (by kernel_rfl)
theorem fo46_1 : FieldOff Tryd.prog 46 1 1 := fun b o w => by kernel_rfl
theorem fo46_2 : FieldOff Tryd.prog 46 2 2 := fun b o w => by kernel_rfl
theorem zv35 : ∀ w, (zeroValue 35).run Tryd.prog w = .ok (.agg #[.int .i64 0, .bool false, .int .i64 0, .bool false, .string ⟨#[]⟩]) w := fun w => by kernel_rfl
end Go.Proofs.YtggoogbloaennaaDoor.Fx
