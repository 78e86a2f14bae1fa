/-
  Proved here: closed facts on the program's tables that the walks name.
-/
import Derived.Test.YtggoogbloaennaaDoorSx
import Derived.Test.YtggoogbloaennaaDoorProg
namespace Go.Proofs.YtggoogbloaennaaDoor.F
open Go.SX
theorem en115 : Enters Tryd.prog 115 := Enters.of Tryd.func115 (by kernel_rfl) (by kernel_rfl)
theorem en116 : Enters Tryd.prog 116 := Enters.of Tryd.func116 (by kernel_rfl) (by kernel_rfl)
theorem en117 : Enters Tryd.prog 117 := Enters.of Tryd.func117 (by kernel_rfl) (by kernel_rfl)
theorem en118 : Enters Tryd.prog 118 := Enters.of Tryd.func118 (by kernel_rfl) (by kernel_rfl)
theorem en119 : Enters Tryd.prog 119 := Enters.of Tryd.func119 (by kernel_rfl) (by kernel_rfl)
theorem en126 : Enters Tryd.prog 126 := Enters.of Tryd.func126 (by kernel_rfl) (by kernel_rfl)
theorem en24 : Enters Tryd.prog 24 := Enters.of Tryd.func24 (by kernel_rfl) (by kernel_rfl)
theorem en42 : Enters Tryd.prog 42 := Enters.of Tryd.func42 (by kernel_rfl) (by kernel_rfl)
theorem en43 : Enters Tryd.prog 43 := Enters.of Tryd.func43 (by kernel_rfl) (by kernel_rfl)
theorem en44 : Enters Tryd.prog 44 := Enters.of Tryd.func44 (by kernel_rfl) (by kernel_rfl)
theorem en45 : Enters Tryd.prog 45 := Enters.of Tryd.func45 (by kernel_rfl) (by kernel_rfl)
theorem en58 : Enters Tryd.prog 58 := Enters.of Tryd.func58 (by kernel_rfl) (by kernel_rfl)
theorem en59 : Enters Tryd.prog 59 := Enters.of Tryd.func59 (by kernel_rfl) (by kernel_rfl)
theorem en60 : Enters Tryd.prog 60 := Enters.of Tryd.func60 (by kernel_rfl) (by kernel_rfl)
theorem en70 : Enters Tryd.prog 70 := Enters.of Tryd.func70 (by kernel_rfl) (by kernel_rfl)
theorem en71 : Enters Tryd.prog 71 := Enters.of Tryd.func71 (by kernel_rfl) (by kernel_rfl)
theorem en72 : Enters Tryd.prog 72 := Enters.of Tryd.func72 (by kernel_rfl) (by kernel_rfl)
theorem en73 : Enters Tryd.prog 73 := Enters.of Tryd.func73 (by kernel_rfl) (by kernel_rfl)
theorem en74 : Enters Tryd.prog 74 := Enters.of Tryd.func74 (by kernel_rfl) (by kernel_rfl)
theorem en75 : Enters Tryd.prog 75 := Enters.of Tryd.func75 (by kernel_rfl) (by kernel_rfl)
theorem en78 : Enters Tryd.prog 78 := Enters.of Tryd.func78 (by kernel_rfl) (by kernel_rfl)
theorem en94 : Enters Tryd.prog 94 := Enters.of Tryd.func94 (by kernel_rfl) (by kernel_rfl)
theorem en95 : Enters Tryd.prog 95 := Enters.of Tryd.func95 (by kernel_rfl) (by kernel_rfl)
theorem en96 : Enters Tryd.prog 96 := Enters.of Tryd.func96 (by kernel_rfl) (by kernel_rfl)
theorem en97 : Enters Tryd.prog 97 := Enters.of Tryd.func97 (by kernel_rfl) (by kernel_rfl)
theorem en98 : Enters Tryd.prog 98 := Enters.of Tryd.func98 (by kernel_rfl) (by kernel_rfl)
theorem en99 : Enters Tryd.prog 99 := Enters.of Tryd.func99 (by kernel_rfl) (by kernel_rfl)
theorem fo78_0 : FieldOff Tryd.prog 78 0 0 := fun b o w => by kernel_rfl
theorem fo78_1 : FieldOff Tryd.prog 78 1 1 := fun b o w => by kernel_rfl
theorem fo78_2 : FieldOff Tryd.prog 78 2 2 := fun b o w => by kernel_rfl
theorem fo78_3 : FieldOff Tryd.prog 78 3 3 := fun b o w => by kernel_rfl
theorem fo78_4 : FieldOff Tryd.prog 78 4 4 := fun b o w => by kernel_rfl
theorem fo78_5 : FieldOff Tryd.prog 78 5 5 := fun b o w => by kernel_rfl
theorem ni66 : NoIface Tryd.prog 66 := fun w v => by kernel_rfl
theorem one25 : One Tryd.prog 25 := fun w => by kernel_rfl
theorem one29 : One Tryd.prog 29 := fun w => by kernel_rfl
theorem one3 : One Tryd.prog 3 := fun w => by kernel_rfl
theorem one38 : One Tryd.prog 38 := fun w => by kernel_rfl
theorem one4 : One Tryd.prog 4 := fun w => by kernel_rfl
theorem one5 : One Tryd.prog 5 := fun w => by kernel_rfl
theorem one76 : One Tryd.prog 76 := fun w => by kernel_rfl
theorem one9 : One Tryd.prog 9 := fun w => by kernel_rfl
theorem sz25 : SizeIs Tryd.prog 25 1 := fun w => by kernel_rfl
theorem sz3 : SizeIs Tryd.prog 3 1 := fun w => by kernel_rfl
theorem sz38 : SizeIs Tryd.prog 38 1 := fun w => by kernel_rfl
theorem sz4 : SizeIs Tryd.prog 4 1 := fun w => by kernel_rfl
theorem sz5 : SizeIs Tryd.prog 5 1 := fun w => by kernel_rfl
theorem sz76 : SizeIs Tryd.prog 76 1 := fun w => by kernel_rfl
theorem sz9 : SizeIs Tryd.prog 9 1 := fun w => by kernel_rfl
theorem un25 : Tryd.prog.underlying 25 = some (.slice 3) := by kernel_rfl
theorem un29 : Tryd.prog.underlying 29 = some (.interface #[("Error", 116)]) := by kernel_rfl
theorem un3 : Tryd.prog.underlying 3 = some (.int .i64) := by kernel_rfl
theorem un38 : Tryd.prog.underlying 38 = some (.slice 46) := by kernel_rfl
theorem un5 : Tryd.prog.underlying 5 = some (.int .u8) := by kernel_rfl
theorem un53 : Tryd.prog.underlying 53 = some (.slice 9) := by kernel_rfl
theorem un76 : Tryd.prog.underlying 76 = some (.slice 5) := by kernel_rfl
theorem un9 : Tryd.prog.underlying 9 = some .string := by kernel_rfl
theorem el25 : Elem Tryd.prog 25 3 1 8 := Elem.of un25 (z := .int .i64 0) (by kernel_rfl) rfl
theorem el38 : Elem Tryd.prog 38 46 3 32 := Elem.of un38 (z := .agg #[.int .i64 0, .string ⟨#[]⟩, .int .i64 0]) (by kernel_rfl) rfl
theorem el76 : Elem Tryd.prog 76 5 1 1 := Elem.of un76 (z := .int .u8 0) (by kernel_rfl) rfl
end Go.Proofs.YtggoogbloaennaaDoor.F
