/-
  Proved here: closed facts on the program's tables that the walks name.
-/
import Derived.Test.YtfbenelagdcdgaaGreatDoorSx
import Derived.Test.YtfbenelagdcdgaaGreatDoorProg
namespace Go.Proofs.YtfbenelagdcdgaaGreatDoor.Lx.F
open Go.SX
theorem en143 : Enters Tryz.prog 143 := Enters.of Tryz.func143 (by kernel_rfl) (by kernel_rfl)
theorem en152 : Enters Tryz.prog 152 := Enters.of Tryz.func152 (by kernel_rfl) (by kernel_rfl)
theorem en153 : Enters Tryz.prog 153 := Enters.of Tryz.func153 (by kernel_rfl) (by kernel_rfl)
theorem en154 : Enters Tryz.prog 154 := Enters.of Tryz.func154 (by kernel_rfl) (by kernel_rfl)
theorem en155 : Enters Tryz.prog 155 := Enters.of Tryz.func155 (by kernel_rfl) (by kernel_rfl)
theorem en162 : Enters Tryz.prog 162 := Enters.of Tryz.func162 (by kernel_rfl) (by kernel_rfl)
theorem en163 : Enters Tryz.prog 163 := Enters.of Tryz.func163 (by kernel_rfl) (by kernel_rfl)
theorem en164 : Enters Tryz.prog 164 := Enters.of Tryz.func164 (by kernel_rfl) (by kernel_rfl)
theorem en183 : Enters Tryz.prog 183 := Enters.of Tryz.func183 (by kernel_rfl) (by kernel_rfl)
theorem en192 : Enters Tryz.prog 192 := Enters.of Tryz.func192 (by kernel_rfl) (by kernel_rfl)
theorem en215 : Enters Tryz.prog 215 := Enters.of Tryz.func215 (by kernel_rfl) (by kernel_rfl)
theorem en216 : Enters Tryz.prog 216 := Enters.of Tryz.func216 (by kernel_rfl) (by kernel_rfl)
theorem en217 : Enters Tryz.prog 217 := Enters.of Tryz.func217 (by kernel_rfl) (by kernel_rfl)
theorem en218 : Enters Tryz.prog 218 := Enters.of Tryz.func218 (by kernel_rfl) (by kernel_rfl)
theorem en219 : Enters Tryz.prog 219 := Enters.of Tryz.func219 (by kernel_rfl) (by kernel_rfl)
theorem en220 : Enters Tryz.prog 220 := Enters.of Tryz.func220 (by kernel_rfl) (by kernel_rfl)
theorem en245 : Enters Tryz.prog 245 := Enters.of Tryz.func245 (by kernel_rfl) (by kernel_rfl)
theorem en270 : Enters Tryz.prog 270 := Enters.of Tryz.func270 (by kernel_rfl) (by kernel_rfl)
theorem en271 : Enters Tryz.prog 271 := Enters.of Tryz.func271 (by kernel_rfl) (by kernel_rfl)
theorem en272 : Enters Tryz.prog 272 := Enters.of Tryz.func272 (by kernel_rfl) (by kernel_rfl)
theorem en273 : Enters Tryz.prog 273 := Enters.of Tryz.func273 (by kernel_rfl) (by kernel_rfl)
theorem en274 : Enters Tryz.prog 274 := Enters.of Tryz.func274 (by kernel_rfl) (by kernel_rfl)
theorem en275 : Enters Tryz.prog 275 := Enters.of Tryz.func275 (by kernel_rfl) (by kernel_rfl)
theorem en294 : Enters Tryz.prog 294 := Enters.of Tryz.func294 (by kernel_rfl) (by kernel_rfl)
theorem en295 : Enters Tryz.prog 295 := Enters.of Tryz.func295 (by kernel_rfl) (by kernel_rfl)
theorem en296 : Enters Tryz.prog 296 := Enters.of Tryz.func296 (by kernel_rfl) (by kernel_rfl)
theorem en297 : Enters Tryz.prog 297 := Enters.of Tryz.func297 (by kernel_rfl) (by kernel_rfl)
theorem fo236_0 : FieldOff Tryz.prog 236 0 0 := fun b o w => by kernel_rfl
theorem fo236_1 : FieldOff Tryz.prog 236 1 1 := fun b o w => by kernel_rfl
theorem fo236_2 : FieldOff Tryz.prog 236 2 2 := fun b o w => by kernel_rfl
theorem fo236_3 : FieldOff Tryz.prog 236 3 3 := fun b o w => by kernel_rfl
theorem fo236_4 : FieldOff Tryz.prog 236 4 4 := fun b o w => by kernel_rfl
theorem fo236_5 : FieldOff Tryz.prog 236 5 5 := fun b o w => by kernel_rfl
theorem ni92 : NoIface Tryz.prog 92 := fun w v => by kernel_rfl
theorem one179 : One Tryz.prog 179 := fun w => by kernel_rfl
theorem one25 : One Tryz.prog 25 := fun w => by kernel_rfl
theorem one3 : One Tryz.prog 3 := fun w => by kernel_rfl
theorem one30 : One Tryz.prog 30 := fun w => by kernel_rfl
theorem one4 : One Tryz.prog 4 := fun w => by kernel_rfl
theorem one5 : One Tryz.prog 5 := fun w => by kernel_rfl
theorem one79 : One Tryz.prog 79 := fun w => by kernel_rfl
theorem one9 : One Tryz.prog 9 := fun w => by kernel_rfl
theorem sz179 : SizeIs Tryz.prog 179 1 := fun w => by kernel_rfl
theorem sz3 : SizeIs Tryz.prog 3 1 := fun w => by kernel_rfl
theorem sz30 : SizeIs Tryz.prog 30 1 := fun w => by kernel_rfl
theorem sz4 : SizeIs Tryz.prog 4 1 := fun w => by kernel_rfl
theorem sz5 : SizeIs Tryz.prog 5 1 := fun w => by kernel_rfl
theorem sz79 : SizeIs Tryz.prog 79 1 := fun w => by kernel_rfl
theorem sz9 : SizeIs Tryz.prog 9 1 := fun w => by kernel_rfl
theorem un179 : Tryz.prog.underlying 179 = some (.slice 240) := by kernel_rfl
theorem un25 : Tryz.prog.underlying 25 = some (.interface #[("Error", 176)]) := by kernel_rfl
theorem un3 : Tryz.prog.underlying 3 = some (.int .i64) := by kernel_rfl
theorem un30 : Tryz.prog.underlying 30 = some (.slice 3) := by kernel_rfl
theorem un35 : Tryz.prog.underlying 35 = some (.slice 9) := by kernel_rfl
theorem un5 : Tryz.prog.underlying 5 = some (.int .u8) := by kernel_rfl
theorem un79 : Tryz.prog.underlying 79 = some (.slice 5) := by kernel_rfl
theorem un9 : Tryz.prog.underlying 9 = some .string := by kernel_rfl
theorem el179 : Elem Tryz.prog 179 240 3 32 := Elem.of un179 (z := .agg #[.int .i64 0, .string ⟨#[]⟩, .int .i64 0]) (by kernel_rfl) rfl
theorem el30 : Elem Tryz.prog 30 3 1 8 := Elem.of un30 (z := .int .i64 0) (by kernel_rfl) rfl
theorem el79 : Elem Tryz.prog 79 5 1 1 := Elem.of un79 (z := .int .u8 0) (by kernel_rfl) rfl
end Go.Proofs.YtfbenelagdcdgaaGreatDoor.Lx.F
