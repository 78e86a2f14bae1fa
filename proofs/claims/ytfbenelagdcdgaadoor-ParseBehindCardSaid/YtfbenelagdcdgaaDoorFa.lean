/-
  Proved here: closed facts on the program's tables that the walks name.
-/
import Derived.Test.YtfbenelagdcdgaaDoorSx
import Derived.Test.YtfbenelagdcdgaaDoorProg
namespace Go.Proofs.YtfbenelagdcdgaaDoor.Lx.F
open Go.SX
theorem en16 : Enters Tryd.prog 16 := Enters.of Tryd.func16 (by kernel_rfl) (by kernel_rfl)
theorem en17 : Enters Tryd.prog 17 := Enters.of Tryd.func17 (by kernel_rfl) (by kernel_rfl)
theorem en18 : Enters Tryd.prog 18 := Enters.of Tryd.func18 (by kernel_rfl) (by kernel_rfl)
theorem en19 : Enters Tryd.prog 19 := Enters.of Tryd.func19 (by kernel_rfl) (by kernel_rfl)
theorem en27 : Enters Tryd.prog 27 := Enters.of Tryd.func27 (by kernel_rfl) (by kernel_rfl)
theorem en28 : Enters Tryd.prog 28 := Enters.of Tryd.func28 (by kernel_rfl) (by kernel_rfl)
theorem en29 : Enters Tryd.prog 29 := Enters.of Tryd.func29 (by kernel_rfl) (by kernel_rfl)
theorem en30 : Enters Tryd.prog 30 := Enters.of Tryd.func30 (by kernel_rfl) (by kernel_rfl)
theorem en31 : Enters Tryd.prog 31 := Enters.of Tryd.func31 (by kernel_rfl) (by kernel_rfl)
theorem en32 : Enters Tryd.prog 32 := Enters.of Tryd.func32 (by kernel_rfl) (by kernel_rfl)
theorem en33 : Enters Tryd.prog 33 := Enters.of Tryd.func33 (by kernel_rfl) (by kernel_rfl)
theorem en34 : Enters Tryd.prog 34 := Enters.of Tryd.func34 (by kernel_rfl) (by kernel_rfl)
theorem en35 : Enters Tryd.prog 35 := Enters.of Tryd.func35 (by kernel_rfl) (by kernel_rfl)
theorem en49 : Enters Tryd.prog 49 := Enters.of Tryd.func49 (by kernel_rfl) (by kernel_rfl)
theorem en50 : Enters Tryd.prog 50 := Enters.of Tryd.func50 (by kernel_rfl) (by kernel_rfl)
theorem en51 : Enters Tryd.prog 51 := Enters.of Tryd.func51 (by kernel_rfl) (by kernel_rfl)
theorem en52 : Enters Tryd.prog 52 := Enters.of Tryd.func52 (by kernel_rfl) (by kernel_rfl)
theorem en53 : Enters Tryd.prog 53 := Enters.of Tryd.func53 (by kernel_rfl) (by kernel_rfl)
theorem en54 : Enters Tryd.prog 54 := Enters.of Tryd.func54 (by kernel_rfl) (by kernel_rfl)
theorem en55 : Enters Tryd.prog 55 := Enters.of Tryd.func55 (by kernel_rfl) (by kernel_rfl)
theorem en56 : Enters Tryd.prog 56 := Enters.of Tryd.func56 (by kernel_rfl) (by kernel_rfl)
theorem en61 : Enters Tryd.prog 61 := Enters.of Tryd.func61 (by kernel_rfl) (by kernel_rfl)
theorem en62 : Enters Tryd.prog 62 := Enters.of Tryd.func62 (by kernel_rfl) (by kernel_rfl)
theorem en63 : Enters Tryd.prog 63 := Enters.of Tryd.func63 (by kernel_rfl) (by kernel_rfl)
theorem en64 : Enters Tryd.prog 64 := Enters.of Tryd.func64 (by kernel_rfl) (by kernel_rfl)
theorem en65 : Enters Tryd.prog 65 := Enters.of Tryd.func65 (by kernel_rfl) (by kernel_rfl)
theorem en70 : Enters Tryd.prog 70 := Enters.of Tryd.func70 (by kernel_rfl) (by kernel_rfl)
theorem fo52_0 : FieldOff Tryd.prog 52 0 0 := fun b o w => by kernel_rfl
theorem fo52_1 : FieldOff Tryd.prog 52 1 1 := fun b o w => by kernel_rfl
theorem fo52_2 : FieldOff Tryd.prog 52 2 2 := fun b o w => by kernel_rfl
theorem fo52_3 : FieldOff Tryd.prog 52 3 3 := fun b o w => by kernel_rfl
theorem fo52_4 : FieldOff Tryd.prog 52 4 4 := fun b o w => by kernel_rfl
theorem fo52_5 : FieldOff Tryd.prog 52 5 5 := fun b o w => by kernel_rfl
theorem ni42 : NoIface Tryd.prog 42 := fun w v => by kernel_rfl
theorem one25 : One Tryd.prog 25 := fun w => by kernel_rfl
theorem one29 : One Tryd.prog 29 := fun w => by kernel_rfl
theorem one3 : One Tryd.prog 3 := fun w => by kernel_rfl
theorem one37 : One Tryd.prog 37 := fun w => by kernel_rfl
theorem one4 : One Tryd.prog 4 := fun w => by kernel_rfl
theorem one5 : One Tryd.prog 5 := fun w => by kernel_rfl
theorem one50 : One Tryd.prog 50 := fun w => by kernel_rfl
theorem one9 : One Tryd.prog 9 := fun w => by kernel_rfl
theorem sz29 : SizeIs Tryd.prog 29 1 := fun w => by kernel_rfl
theorem sz3 : SizeIs Tryd.prog 3 1 := fun w => by kernel_rfl
theorem sz37 : SizeIs Tryd.prog 37 1 := fun w => by kernel_rfl
theorem sz4 : SizeIs Tryd.prog 4 1 := fun w => by kernel_rfl
theorem sz5 : SizeIs Tryd.prog 5 1 := fun w => by kernel_rfl
theorem sz50 : SizeIs Tryd.prog 50 1 := fun w => by kernel_rfl
theorem sz9 : SizeIs Tryd.prog 9 1 := fun w => by kernel_rfl
theorem un25 : Tryd.prog.underlying 25 = some (.interface #[("Error", 76)]) := by kernel_rfl
theorem un29 : Tryd.prog.underlying 29 = some (.slice 3) := by kernel_rfl
theorem un3 : Tryd.prog.underlying 3 = some (.int .i64) := by kernel_rfl
theorem un37 : Tryd.prog.underlying 37 = some (.slice 57) := by kernel_rfl
theorem un5 : Tryd.prog.underlying 5 = some (.int .u8) := by kernel_rfl
theorem un50 : Tryd.prog.underlying 50 = some (.slice 5) := by kernel_rfl
theorem un65 : Tryd.prog.underlying 65 = some (.slice 9) := by kernel_rfl
theorem un9 : Tryd.prog.underlying 9 = some .string := by kernel_rfl
theorem el29 : Elem Tryd.prog 29 3 1 8 := Elem.of un29 (z := .int .i64 0) (by kernel_rfl) rfl
theorem el37 : Elem Tryd.prog 37 57 3 32 := Elem.of un37 (z := .agg #[.int .i64 0, .string ⟨#[]⟩, .int .i64 0]) (by kernel_rfl) rfl
theorem el50 : Elem Tryd.prog 50 5 1 1 := Elem.of un50 (z := .int .u8 0) (by kernel_rfl) rfl
end Go.Proofs.YtfbenelagdcdgaaDoor.Lx.F
