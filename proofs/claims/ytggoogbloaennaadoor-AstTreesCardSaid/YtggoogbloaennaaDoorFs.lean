/-
  Proved here: closed facts on the program's tables that the walks name.
-/
import Derived.Test.YtggoogbloaennaaDoorFa
import Derived.Test.YtggoogbloaennaaDoorAgg
import Derived.Test.YtggoogbloaennaaDoorProg
namespace Go.Proofs.YtggoogbloaennaaDoor.Fs
open Go.SX
theorem ag35 : AggT Tryd.prog 35 5 := AggT.of (by kernel_rfl) (by kernel_rfl)
theorem cp143 : CmpT Tryd.prog 143 159 := CmpT.of (by kernel_rfl) (by kernel_rfl) (by kernel_rfl)
theorem en113 : Enters Tryd.prog 113 := Enters.of Tryd.func113 (by kernel_rfl) (by kernel_rfl)
theorem en114 : Enters Tryd.prog 114 := Enters.of Tryd.func114 (by kernel_rfl) (by kernel_rfl)
theorem en18 : Enters Tryd.prog 18 := Enters.of Tryd.func18 (by kernel_rfl) (by kernel_rfl)
theorem en39 : Enters Tryd.prog 39 := Enters.of Tryd.func39 (by kernel_rfl) (by kernel_rfl)
theorem en40 : Enters Tryd.prog 40 := Enters.of Tryd.func40 (by kernel_rfl) (by kernel_rfl)
theorem en41 : Enters Tryd.prog 41 := Enters.of Tryd.func41 (by kernel_rfl) (by kernel_rfl)
theorem en46 : Enters Tryd.prog 46 := Enters.of Tryd.func46 (by kernel_rfl) (by kernel_rfl)
theorem en69 : Enters Tryd.prog 69 := Enters.of Tryd.func69 (by kernel_rfl) (by kernel_rfl)
theorem en93 : Enters Tryd.prog 93 := Enters.of Tryd.func93 (by kernel_rfl) (by kernel_rfl)
theorem fo35_0 : FieldOff Tryd.prog 35 0 0 := fun b o w => by kernel_rfl
theorem fo35_1 : FieldOff Tryd.prog 35 1 1 := fun b o w => by kernel_rfl
theorem fo35_2 : FieldOff Tryd.prog 35 2 2 := fun b o w => by kernel_rfl
theorem fo35_3 : FieldOff Tryd.prog 35 3 3 := fun b o w => by kernel_rfl
theorem fo35_4 : FieldOff Tryd.prog 35 4 4 := fun b o w => by kernel_rfl
theorem fo68_0 : FieldOff Tryd.prog 68 0 0 := fun b o w => by kernel_rfl
theorem fo68_1 : FieldOff Tryd.prog 68 1 1 := fun b o w => by kernel_rfl
theorem sz29 : SizeIs Tryd.prog 29 1 := fun w => by kernel_rfl
theorem un129 : Tryd.prog.underlying 129 = some (.slice 29) := by kernel_rfl
theorem un4 : Tryd.prog.underlying 4 = some .bool := by kernel_rfl
theorem un66 : Tryd.prog.underlying 66 = some (.pointer 68) := by kernel_rfl
theorem un98 : Tryd.prog.underlying 98 = some (.pointer 101) := by kernel_rfl
theorem zv35 : ∀ w, (zeroValue 35).run Tryd.prog w = .ok (.agg #[.int .i64 0, .bool false, .int .i64 0, .bool false, .string ⟨#[]⟩]) w := fun w => by kernel_rfl
theorem zv66 : ∀ w, (zeroValue 66).run Tryd.prog w = .ok (.pointer none) w := fun w => by kernel_rfl
theorem zv98 : ∀ w, (zeroValue 98).run Tryd.prog w = .ok (.pointer none) w := fun w => by kernel_rfl
theorem nif66 : NotIface Tryd.prog 66 := NotIface.of un66 (fun ms h => by cases h)
theorem nif98 : NotIface Tryd.prog 98 := NotIface.of un98 (fun ms h => by cases h)
end Go.Proofs.YtggoogbloaennaaDoor.Fs
