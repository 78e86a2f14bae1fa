/-
  Proved here: closed facts on the program's tables that the walks name.
-/
import Derived.Test.YtggoogbloaennaaDoorFa
import Derived.Test.YtggoogbloaennaaDoorAgg
import Derived.Test.YtggoogbloaennaaDoorProg
namespace Go.Proofs.YtggoogbloaennaaDoor.Fr
open Go.SX
theorem ag35 : AggT Tryd.prog 35 5 := AggT.of (by kernel_rfl) (by kernel_rfl)
theorem en18 : Enters Tryd.prog 18 := Enters.of Tryd.func18 (by kernel_rfl) (by kernel_rfl)
theorem en29 : Enters Tryd.prog 29 := Enters.of Tryd.func29 (by kernel_rfl) (by kernel_rfl)
theorem en41 : Enters Tryd.prog 41 := Enters.of Tryd.func41 (by kernel_rfl) (by kernel_rfl)
theorem en47 : Enters Tryd.prog 47 := Enters.of Tryd.func47 (by kernel_rfl) (by kernel_rfl)
theorem en48 : Enters Tryd.prog 48 := Enters.of Tryd.func48 (by kernel_rfl) (by kernel_rfl)
theorem en49 : Enters Tryd.prog 49 := Enters.of Tryd.func49 (by kernel_rfl) (by kernel_rfl)
theorem en50 : Enters Tryd.prog 50 := Enters.of Tryd.func50 (by kernel_rfl) (by kernel_rfl)
theorem en51 : Enters Tryd.prog 51 := Enters.of Tryd.func51 (by kernel_rfl) (by kernel_rfl)
theorem en52 : Enters Tryd.prog 52 := Enters.of Tryd.func52 (by kernel_rfl) (by kernel_rfl)
theorem en53 : Enters Tryd.prog 53 := Enters.of Tryd.func53 (by kernel_rfl) (by kernel_rfl)
theorem en54 : Enters Tryd.prog 54 := Enters.of Tryd.func54 (by kernel_rfl) (by kernel_rfl)
theorem en55 : Enters Tryd.prog 55 := Enters.of Tryd.func55 (by kernel_rfl) (by kernel_rfl)
theorem en56 : Enters Tryd.prog 56 := Enters.of Tryd.func56 (by kernel_rfl) (by kernel_rfl)
theorem en76 : Enters Tryd.prog 76 := Enters.of Tryd.func76 (by kernel_rfl) (by kernel_rfl)
theorem en77 : Enters Tryd.prog 77 := Enters.of Tryd.func77 (by kernel_rfl) (by kernel_rfl)
theorem fo85_0 : FieldOff Tryd.prog 85 0 0 := fun b o w => by kernel_rfl
theorem fo85_1 : FieldOff Tryd.prog 85 1 1 := fun b o w => by kernel_rfl
theorem fo85_2 : FieldOff Tryd.prog 85 2 2 := fun b o w => by kernel_rfl
theorem fo85_3 : FieldOff Tryd.prog 85 3 3 := fun b o w => by kernel_rfl
theorem fo85_4 : FieldOff Tryd.prog 85 4 4 := fun b o w => by kernel_rfl
theorem fo85_5 : FieldOff Tryd.prog 85 5 5 := fun b o w => by kernel_rfl
theorem fo85_6 : FieldOff Tryd.prog 85 6 6 := fun b o w => by kernel_rfl
theorem zv35 : ∀ w, (zeroValue 35).run Tryd.prog w = .ok (.agg #[.int .i64 0, .bool false, .int .i64 0, .bool false, .string ⟨#[]⟩]) w := fun w => by kernel_rfl
end Go.Proofs.YtggoogbloaennaaDoor.Fr
